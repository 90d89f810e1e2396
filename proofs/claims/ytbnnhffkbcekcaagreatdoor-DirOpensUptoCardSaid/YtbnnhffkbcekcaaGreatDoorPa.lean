/- Of disks: words of bytes. Conditions stand in each. Of disks: sectors, writes. Conditions stand in each. Of disks: a sector read; the writes told. Conditions stand in each. Of disks: a sector written. Conditions stand in each. Of disks: a new one; what it bears; pages. Conditions stand in each. -/
import Derived.Test.YtbnnhffkbcekcaaGreatDoorXt
import Derived.Test.YtbnnhffkbcekcaaGreatDoorEg
import Derived.Test.YtbnnhffkbcekcaaGreatDoorEe
import Derived.Test.YtbnnhffkbcekcaaGreatDoorEf
import Derived.Test.YtbnnhffkbcekcaaGreatDoorXu
import Derived.Test.YtbnnhffkbcekcaaGreatDoorXa
import Derived.IntWalk
set_option linter.unusedVariables false
set_option linter.unusedSimpArgs false
set_option maxRecDepth 100000
set_option maxHeartbeats 4000000
section
namespace Go.Proofs.YtbnnhffkbcekcaaGreatDoor.dirDone
open Go Go.Eng Go.Proofs
theorem u32w (n : Int) : IntKind.u32.wrap n = n % 4294967296 := by simp [IntKind.wrap, IntKind.bits, IntKind.signed]
theorem u32i (n : Int) (h : 0 ≤ n ∧ n < 4294967296) : IntKind.u32.wrap n = n := by rw [u32w]; omega
theorem ior32 (x y : Nat) (hx : x < 2 ^ 32) (hy : y < 2 ^ 32) : ibits .or .u32 ↑x ↑y = ((x ||| y : Nat) : Int) := by
  show IntKind.u32.wrap (((BitVec.ofInt 32 (x : Int) ||| BitVec.ofInt 32 (y : Int)).toNat : Nat) : Int) = _
  rw [BitVec.toNat_or, BitVec.ofInt_natCast, BitVec.ofInt_natCast, BitVec.toNat_ofNat, BitVec.toNat_ofNat, Nat.mod_eq_of_lt hx, Nat.mod_eq_of_lt hy]
  have := Nat.or_lt_two_pow hx hy
  rw [u32w]; omega
def leV : List UInt8 → Nat
  | [] => 0
  | b :: r => b.toNat + 256 * leV r
theorem leV_lt : ∀ l : List UInt8, leV l < 256 ^ l.length
  | [] => by simp [leV]
  | b :: r => by
    have h1 := leV_lt r
    have h2 := b.toNat_lt
    rw [leV, List.length_cons, Nat.pow_succ]; omega
theorem leV_snoc (b : UInt8) : ∀ l : List UInt8, leV (l ++ [b]) = leV l + b.toNat * 256 ^ l.length
  | [] => by simp [leV]
  | c :: r => by
    rw [List.cons_append, leV, leV, leV_snoc b r, List.length_cons, Nat.pow_succ, Nat.mul_add, Nat.mul_comm 256 (b.toNat * _), Nat.mul_assoc]; omega
theorem or_le (l : List UInt8) (b : UInt8) (h : l.length < 4) : ibits .or .u32 (leV l : Int) ((b.toNat : Int) * ((2 ^ (8 * l.length) : Nat) : Int)) = (leV (l ++ [b]) : Int) := by
  have h1 := leV_lt l
  have h2 := b.toNat_lt
  have e : (256 : Nat) ^ l.length = 2 ^ (8 * l.length) := by rw [Nat.pow_mul]
  have hle : 2 ^ (8 * l.length) ≤ 2 ^ 24 := Nat.pow_le_pow_right (by omega) (by omega)
  have hmul : b.toNat * 2 ^ (8 * l.length) ≤ 255 * 2 ^ 24 := Nat.mul_le_mul (by omega) hle
  rw [← Int.natCast_mul, ior32 _ _ (by omega) (by omega), leV_snoc, e, Nat.or_comm, Nat.mul_comm b.toNat, ← Nat.two_pow_add_eq_or_of_lt (by omega), Nat.add_comm]
theorem shl_b (b : UInt8) (k : Nat) (h : k < 4) : IntKind.u32.wrap ((b.toNat : Int) * 2 ^ (min (8 * (k : Int)).toNat IntKind.u32.bits)) = (b.toNat : Int) * ((2 ^ (8 * k) : Nat) : Int) := by
  have h2 := b.toNat_lt
  rcases (by omega : k = 0 ∨ k = 1 ∨ k = 2 ∨ k = 3) with rfl | rfl | rfl | rfl
  all_goals
    simp [IntKind.bits]
    rw [u32w]; omega
def e116 : (List UInt8) → List AV := fun l => [.sl (l.map byteAV) l.length]
def p116 : (List UInt8) → Prop := fun l => l.length ≤ 4
def r116 : (List UInt8) → AV := fun l => .int .u32 (leV l)
def g116 : (List UInt8) → Heap := fun l => []
theorem inj116 : ∀ a b, e116 a = e116 b → a = b := by
  rintro l l' h
  simp only [e116, mi_iff, ms_iff, mb_iff, my_iff, UInt8.toNat_inj, avinj, List.cons.injEq] at h
  simp_all only
noncomputable def S116 : FSpec := funS e116 p116 r116 g116 true
theorem ps116 (l : (List UInt8)) : psel e116 p116 [.sl (l.map byteAV) l.length] = (l.length ≤ 4) := psel_at inj116 p116 l
theorem rs116 (l : (List UInt8)) : rsel e116 r116 .any [.sl (l.map byteAV) l.length] = (.int .u32 (leV l)) := rsel_at inj116 r116 .any l
theorem hs116 (l : (List UInt8)) : rsel e116 g116 [] [.sl (l.map byteAV) l.length] = ([]) := rsel_at inj116 g116 [] l
attribute [push_cast] S116 ps116 rs116 hs116
theorem body116 (Γ : Env) (l : List UInt8) (hl : l.length ≤ 4) : BodyOk Tryz.prog Γ Tryz.f116 [.sl (l.map byteAV) l.length] [] (.int .u32 (leV l)) [] := by
  have e0 : ((leV [] : Nat) : Int) = 0 := rfl
  (intro X hP hΓ hL hfin; refine ⟨_, rfl, ?_⟩; rw [show Tryz.f116.ntmps = 22 from rfl]; rw [show Tryz.f116.results.toList = [.tmp 2] from rfl] at hfin; refine gxq0 ?_)
  refine Holds.loopM (ι := {k : Nat // k ≤ l.length}) [tt,ff,tt,ff,ff,ff,tt,ff,ff,ff,ff,ff,ff,ff,ff,ff,ff,ff,ff,ff,ff,ff] (fun i => [(7, .int .i64 i.1), (3, .int .u32 (leV (l.take i.1)))]) (fun i => []) (fun i => l.length - i.1) ⟨0, Nat.zero_le _⟩ ?_ ?_
  · (rw [hL]; simp only [push_cast, Int.natCast_zero, e0]; exact Into.sameA)
  rintro ⟨k, hk⟩
  (refine gxq0 ?_)
  ((with_reducible refine exB_split (fun h => ?_) (fun h => ?_)) <;> (try simp only [decide_eq_true_eq, decide_eq_false_iff_not, Bool.and_eq_true, Bool.or_eq_true, Bool.and_eq_false_iff, Bool.or_eq_false_iff, Bool.not_eq_true', Bool.not_eq_false', Bool.not_eq_true, Bool.not_eq_false, Int.not_lt, Int.not_le, beq_iff_eq, beq_eq_false_iff_ne, ne_eq] at h))
  · have hk' : k < l.length := by omega
    have w8 : IntKind.i64.wrap (8 * (k : Int)) = 8 * (k : Int) := wr_i64 _ (by constructor <;> omega)
    have hb := (l.getD k 0).toNat_lt
    have wb : IntKind.u32.wrap ((l.getD k 0).toNat : Int) = ((l.getD k 0).toNat : Int) := u32i _ (by omega)
    have hs := shl_b (l.getD k 0) k (by omega)
    have ht : (l.take k).length = k := by rw [List.length_take]; omega
    have ho := or_le (l.take k) (l.getD k 0) (by omega)
    rw [ht] at ho
    have e1 : l.take k ++ [l.getD k 0] = l.take (k + 1) := by rw [List.take_succ_eq_append_getElem hk']; simp [List.getD, hk']
    rw [e1] at ho
    generalize hB : ((2 ^ (8 * k) : Nat) : Int) = B at *
    generalize hV : leV (l.take k) = V at *
    generalize hV2 : leV (l.take (k + 1)) = V2 at *
    (refine gxq (cj4 w8 wb hs ho) ?_)
    refine ⟨by omega, by omega, by omega, ⟨k + 1, hk'⟩, by simp only; omega, ?_⟩
    dsimp only
    rw [wr_i64 ((k : Int) + 1) (by constructor <;> omega), hV2]
    exact Into.sameA
  · obtain rfl : k = l.length := by omega
    rw [List.take_length]
    (refine gxq0 ?_)
    exact Into.one rfl rfl
theorem con116 {Γ : Env} (h : EnvOk Tryz.prog Γ)  : Con Tryz.prog 116 S116 :=
  funS_con h (fn := Tryz.f116) (by kernel_rfl) rfl (by kernel_rfl) inj116 (by first | (intro h; cases h; done) | exact fun _ _ => rfl) fun l h => body116 Γ l h
def getW (l : List UInt8) (i : Nat) : Nat := leV ((l.take (i + 4)).drop i)
theorem getW_lt (l : List UInt8) (i : Nat) : getW l i < 4294967296 := by
  have h := leV_lt ((l.take (i + 4)).drop i)
  have hl : ((l.take (i + 4)).drop i).length ≤ 4 := by rw [List.length_drop, List.length_take]; omega
  have := Nat.pow_le_pow_right (show 0 < 256 by decide) hl
  have e : (256 : Nat) ^ 4 = 4294967296 := by decide
  unfold getW; omega
def e64 : (List UInt8) × (Int) → List AV := fun (l, i) => [.sl (l.map byteAV) l.length, .int .i64 i]
def p64 : (List UInt8) × (Int) → Prop := fun (l, i) => 0 ≤ i ∧ i + 4 ≤ (l.length : Int) ∧ l.length ≤ 4194304
def r64 : (List UInt8) × (Int) → AV := fun (l, i) => .tup [.int .u32 (getW l i.toNat), .bool true]
def g64 : (List UInt8) × (Int) → Heap := fun (l, i) => []
theorem inj64 : ∀ a b, e64 a = e64 b → a = b := by
  rintro ⟨l, i⟩ ⟨l', i'⟩ h
  simp only [e64, mi_iff, ms_iff, mb_iff, my_iff, UInt8.toNat_inj, avinj, List.cons.injEq] at h
  simp_all only
noncomputable def S64 : FSpec := funS e64 p64 r64 g64 true
theorem ps64 (l : (List UInt8)) (i : (Int)) : psel e64 p64 [.sl (l.map byteAV) l.length, .int .i64 i] = (0 ≤ i ∧ i + 4 ≤ (l.length : Int) ∧ l.length ≤ 4194304) := psel_at inj64 p64 (l, i)
theorem rs64 (l : (List UInt8)) (i : (Int)) : rsel e64 r64 .any [.sl (l.map byteAV) l.length, .int .i64 i] = (.tup [.int .u32 (getW l i.toNat), .bool true]) := rsel_at inj64 r64 .any (l, i)
theorem hs64 (l : (List UInt8)) (i : (Int)) : rsel e64 g64 [] [.sl (l.map byteAV) l.length, .int .i64 i] = ([]) := rsel_at inj64 g64 [] (l, i)
attribute [push_cast] S64 ps64 rs64 hs64
theorem body64 (Γ : Env) (h116 : Γ 116 = some S116) (l : List UInt8) (i : Nat) (h : i + 4 ≤ l.length) (hl : l.length ≤ 4194304) : BodyOk Tryz.prog Γ Tryz.f64 [.sl (l.map byteAV) l.length, .int .i64 i] [] (.tup [.int .u32 (getW l i), .bool true]) [] := by
  have d1 : decide ((i : Int) < 0) = false := decide_eq_false (by omega)
  have w1 : IntKind.i64.wrap ((l.length : Int) - 4) = (l.length : Int) - 4 := wr_i64 _ (by constructor <;> omega)
  have w2 : IntKind.i64.wrap ((i : Int) + 4) = ((i + 4 : Nat) : Int) := by rw [wr_i64 _ (by constructor <;> omega)]; omega
  have d2 : decide ((l.length : Int) - 4 < (i : Int)) = false := decide_eq_false (by omega)
  have hlen : ((l.take (i + 4)).drop i).length = 4 := by rw [List.length_drop, List.length_take]; omega
  have h4 : ((l.take (i + 4)).drop i).length ≤ 4 := by omega
  unfold getW
  have e1 : List.drop i (List.take (i + 4) (l.map byteAV)) = ((l.take (i + 4)).drop i).map byteAV := by rw [List.map_drop, List.map_take]
  have e2 : i + 4 - i = ((l.take (i + 4)).drop i).length := by omega
  generalize hs : (l.take (i + 4)).drop i = s at *
  generalize hj : i + 4 = j at *
  (intro X hP hΓ hL hfin; refine ⟨_, rfl, ?_⟩; rw [show Tryz.f64.ntmps = 21 from rfl]; rw [show Tryz.f64.results.toList = [.tmp 4, .tmp 5] from rfl] at hfin; refine gxq (cj8 d1 d2 w1 w2 e1 e2 h116 h4) ?_)
  exact ⟨⟨by omega, by omega, by omega⟩, Into.one rfl rfl⟩
theorem con64 {Γ : Env} (h : EnvOk Tryz.prog Γ) (h116 : Γ 116 = some S116) : Con Tryz.prog 64 S64 :=
  funS_con h (fn := Tryz.f64) (by kernel_rfl) rfl (by kernel_rfl) inj64 (by first | (intro h; cases h; done) | exact fun _ _ => rfl) fun ⟨l, i⟩ h => by
    obtain ⟨n, rfl⟩ := Int.eq_ofNat_of_zero_le h.1
    exact body64 Γ h116 l n (by have := h.2.1; omega) h.2.2
def e113 : (List UInt8) × (Int) → List AV := fun (l, i) => [.sl (l.map byteAV) l.length, .int .i64 i]
def p113 : (List UInt8) × (Int) → Prop := fun (l, i) => 0 ≤ i ∧ 4 * i + 4 ≤ (l.length : Int) ∧ l.length ≤ 4194304
def r113 : (List UInt8) × (Int) → AV := fun (l, i) => .int .u32 (getW l (4 * i).toNat)
def g113 : (List UInt8) × (Int) → Heap := fun (l, i) => []
theorem inj113 : ∀ a b, e113 a = e113 b → a = b := by
  rintro ⟨l, i⟩ ⟨l', i'⟩ h
  simp only [e113, mi_iff, ms_iff, mb_iff, my_iff, UInt8.toNat_inj, avinj, List.cons.injEq] at h
  simp_all only
noncomputable def S113 : FSpec := funS e113 p113 r113 g113 true
theorem ps113 (l : (List UInt8)) (i : (Int)) : psel e113 p113 [.sl (l.map byteAV) l.length, .int .i64 i] = (0 ≤ i ∧ 4 * i + 4 ≤ (l.length : Int) ∧ l.length ≤ 4194304) := psel_at inj113 p113 (l, i)
theorem rs113 (l : (List UInt8)) (i : (Int)) : rsel e113 r113 .any [.sl (l.map byteAV) l.length, .int .i64 i] = (.int .u32 (getW l (4 * i).toNat)) := rsel_at inj113 r113 .any (l, i)
theorem hs113 (l : (List UInt8)) (i : (Int)) : rsel e113 g113 [] [.sl (l.map byteAV) l.length, .int .i64 i] = ([]) := rsel_at inj113 g113 [] (l, i)
attribute [push_cast] S113 ps113 rs113 hs113
theorem body113 (Γ : Env) (h64 : Γ 64 = some S64) (l : List UInt8) (i : Int) (h0 : 0 ≤ i) (h : 4 * i + 4 ≤ (l.length : Int)) (hl : l.length ≤ 4194304) : BodyOk Tryz.prog Γ Tryz.f113 [.sl (l.map byteAV) l.length, .int .i64 i] [] (.int .u32 (getW l (4 * i).toNat)) [] := by
  have w1 : IntKind.i64.wrap (4 * i) = 4 * i := wr_i64 _ (by constructor <;> omega)
  have p1 : (0 : Int) ≤ 4 * i := by omega
  (intro X hP hΓ hL hfin; refine ⟨_, rfl, ?_⟩; rw [show Tryz.f113.ntmps = 15 from rfl]; rw [show Tryz.f113.results.toList = [.tmp 4] from rfl] at hfin; refine gxq (cj5 w1 h64 p1 h hl) ?_)
  exact Into.one rfl rfl
theorem con113 {Γ : Env} (h : EnvOk Tryz.prog Γ) (h64 : Γ 64 = some S64) : Con Tryz.prog 113 S113 :=
  funS_con h (fn := Tryz.f113) (by kernel_rfl) rfl (by kernel_rfl) inj113 (by first | (intro h; cases h; done) | exact fun _ _ => rfl) fun ⟨l, i⟩ h => body113 Γ h64 l i h.1 h.2.1 h.2.2
end Go.Proofs.YtbnnhffkbcekcaaGreatDoor.dirDone
end
section
namespace Go.Proofs.YtbnnhffkbcekcaaGreatDoor.dirDone
open Go Go.Eng Go.Proofs
abbrev Sec : Type := { l : List UInt8 // l.length = 1024 }
def secC (s : Sec) : List AV := s.1.map byteAV
instance : PureC secC := ⟨fun s => by simp only [secC, pureL_map], fun s => by simp only [secC]; exact one_map _⟩
instance : Width secC 1024 := ⟨fun s => by rw [secC, List.length_map, s.2]⟩
instance : Inhabited Sec := ⟨⟨List.replicate 1024 0, List.length_replicate⟩⟩
abbrev Wr : Type := Int × Sec
def wrC (w : Wr) : List AV := .int .i64 w.1 :: w.2.1.map byteAV
instance : PureC wrC := ⟨fun w => by simp only [wrC, pureL, pureA, pureL_map, Bool.and_self], fun w => by simp only [wrC, oneCells]; exact one_map _⟩
instance : Width wrC 1025 := ⟨fun w => by rw [wrC, List.length_cons, List.length_map, w.2.2]⟩
instance : Inhabited Wr := ⟨(0, default)⟩
theorem sec_inj (a b : Sec) (h : secC a = secC b) : a = b := Subtype.ext (my_iff.1 h)
theorem wr_inj (a b : Wr) (h : wrC a = wrC b) : a = b := by
  obtain ⟨n, s⟩ := a
  obtain ⟨k, t⟩ := b
  simp only [wrC, List.cons.injEq, AV.int.injEq, true_and] at h
  rw [h.1, sec_inj s t h.2]
theorem secs_iff {S T : List Sec} : S.flatMap secC = T.flatMap secC ↔ S = T := ⟨inj_fm (n := 1024) sec_inj (fun s => Width.len s) (by decide), fun h => by rw [h]⟩
theorem wrs_iff {S T : List Wr} : S.flatMap wrC = T.flatMap wrC ↔ S = T := ⟨inj_fm (n := 1025) wr_inj (fun s => Width.len s) (by decide), fun h => by rw [h]⟩
def dskH (S : List Sec) (W : List Wr) : Heap := [.row [.msl 1 0 0 S.length, .msl 2 W.length 0 W.length] 2 0, .row (S.flatMap secC) 1024 0, .row (W.flatMap wrC) 1025 W.length]
def e31 : (List Sec) × (List Wr) → List AV × Heap := fun (S, W) => ([.ref 0 0 0], dskH S W)
def p31 : (List Sec) × (List Wr) → Prop := fun (S, W) => True
def r31 : (List Sec) × (List Wr) → AV := fun (S, W) => .int .i64 S.length
def g31 : (List Sec) × (List Wr) → Heap := fun (S, W) => dskH S W
theorem inj31 : ∀ a b, e31 a = e31 b → a = b := by
  rintro ⟨S, W⟩ ⟨S', W'⟩ h
  simp only [e31, mi_iff, ms_iff, mb_iff, my_iff, UInt8.toNat_inj, secs_iff, wrs_iff, dskH, avinj, List.cons.injEq] at h
  simp_all only
noncomputable def S31 : FSpec := heapE true e31 p31 r31 g31
theorem ps31 (S : (List Sec)) (W : (List Wr)) : pselK e31 p31 ([.ref 0 0 0], dskH S W) = (True) := pselK_at inj31 p31 (S, W)
theorem rs31 (S : (List Sec)) (W : (List Wr)) : rselK e31 r31 .any ([.ref 0 0 0], dskH S W) = (.int .i64 S.length) := rselK_at inj31 r31 .any (S, W)
theorem hs31 (S : (List Sec)) (W : (List Wr)) : rselK e31 g31 [] ([.ref 0 0 0], dskH S W) = (dskH S W) := rselK_at inj31 g31 [] (S, W)
attribute [push_cast] S31 ps31 rs31 hs31
theorem body31 (Γ : Env) (S : List Sec) (W : List Wr) : BodyOk Tryz.prog Γ Tryz.f31 [.ref 0 0 0] (dskH S W) (.int .i64 S.length) (dskH S W) := by
  unfold dskH
  (intro X hP hΓ hL hfin; refine ⟨_, rfl, ?_⟩; rw [show Tryz.f31.ntmps = 10 from rfl]; rw [show Tryz.f31.results.toList = [.tmp 2] from rfl] at hfin; refine gxq0 ?_)
  exact Into.sameA
theorem con31 {Γ : Env} (h : EnvOk Tryz.prog Γ)  : Con Tryz.prog 31 S31 :=
  heapE_con h (fn := Tryz.f31) (by kernel_rfl) rfl (by kernel_rfl) inj31 fun ⟨S, W⟩ _ => body31 Γ S W
def e115 : (List Sec) × (List Wr) × (Int) → List AV × Heap := fun (S, W, n) => ([.ref 0 0 0, .int .i64 n], dskH S W)
def p115 : (List Sec) × (List Wr) × (Int) → Prop := fun (S, W, n) => True
def r115 : (List Sec) × (List Wr) × (Int) → AV := fun (S, W, n) => .int .i64 (if 0 ≤ n ∧ n < S.length then 0 else 31)
def g115 : (List Sec) × (List Wr) × (Int) → Heap := fun (S, W, n) => dskH S W
theorem inj115 : ∀ a b, e115 a = e115 b → a = b := by
  rintro ⟨S, W, n⟩ ⟨S', W', n'⟩ h
  simp only [e115, mi_iff, ms_iff, mb_iff, my_iff, UInt8.toNat_inj, secs_iff, wrs_iff, dskH, avinj, List.cons.injEq] at h
  simp_all only
noncomputable def S115 : FSpec := heapE true e115 p115 r115 g115
theorem ps115 (S : (List Sec)) (W : (List Wr)) (n : (Int)) : pselK e115 p115 ([.ref 0 0 0, .int .i64 n], dskH S W) = (True) := pselK_at inj115 p115 (S, W, n)
theorem rs115 (S : (List Sec)) (W : (List Wr)) (n : (Int)) : rselK e115 r115 .any ([.ref 0 0 0, .int .i64 n], dskH S W) = (.int .i64 (if 0 ≤ n ∧ n < S.length then 0 else 31)) := rselK_at inj115 r115 .any (S, W, n)
theorem hs115 (S : (List Sec)) (W : (List Wr)) (n : (Int)) : rselK e115 g115 [] ([.ref 0 0 0, .int .i64 n], dskH S W) = (dskH S W) := rselK_at inj115 g115 [] (S, W, n)
attribute [push_cast] S115 ps115 rs115 hs115
theorem body115 (Γ : Env) (S : List Sec) (W : List Wr) (n : Int) : BodyOk Tryz.prog Γ Tryz.f115 [.ref 0 0 0, .int .i64 n] (dskH S W) (.int .i64 (if 0 ≤ n ∧ n < S.length then 0 else 31)) (dskH S W) := by
  unfold dskH
  by_cases h : 0 ≤ n ∧ n < S.length
  · have d1 : (decide (n < 0) || decide ((S.length : Int) ≤ n)) = false := by
      rw [Bool.eq_false_iff]; intro h'; simp only [Bool.or_eq_true, decide_eq_true_eq] at h'; omega
    rw [if_pos h]
    (intro X hP hΓ hL hfin; refine ⟨_, rfl, ?_⟩; rw [show Tryz.f115.ntmps = 20 from rfl]; rw [show Tryz.f115.results.toList = [.tmp 4] from rfl] at hfin; refine gxq d1 ?_)
    exact Into.sameA
  · have d1 : (decide (n < 0) || decide ((S.length : Int) ≤ n)) = true := by
      simp only [Bool.or_eq_true, decide_eq_true_eq]; omega
    rw [if_neg h]
    (intro X hP hΓ hL hfin; refine ⟨_, rfl, ?_⟩; rw [show Tryz.f115.ntmps = 20 from rfl]; rw [show Tryz.f115.results.toList = [.tmp 4] from rfl] at hfin; refine gxq d1 ?_)
    exact Into.sameA
theorem con115 {Γ : Env} (h : EnvOk Tryz.prog Γ)  : Con Tryz.prog 115 S115 :=
  heapE_con h (fn := Tryz.f115) (by kernel_rfl) rfl (by kernel_rfl) inj115 fun ⟨S, W, n⟩ _ => body115 Γ S W n
end Go.Proofs.YtbnnhffkbcekcaaGreatDoor.dirDone
end
section
namespace Go.Proofs.YtbnnhffkbcekcaaGreatDoor.dirDone
open Go Go.Eng Go.Proofs
theorem za121 : zeroA Tryz.prog 121 = .agg (secC default) := by kernel_rfl
theorem hz121 : hasZero Tryz.prog 121 := by unfold hasZero; kernel_rfl
def rdA (S : List Sec) (n : Int) : AV := if 0 ≤ n ∧ n < S.length then .tup [.sl ((S.getD n.toNat default).1.map byteAV) (S.getD n.toNat default).1.length, .int .i64 0] else .tup [.sl [] 0, .int .i64 31]
def e62 : (List Sec) × (List Wr) × (Int) → List AV × Heap := fun (S, W, n) => ([.ref 0 0 0, .int .i64 n], dskH S W)
def p62 : (List Sec) × (List Wr) × (Int) → Prop := fun (S, W, n) => True
def r62 : (List Sec) × (List Wr) × (Int) → AV := fun (S, W, n) => rdA S n
def g62 : (List Sec) × (List Wr) × (Int) → Heap := fun (S, W, n) => dskH S W
theorem inj62 : ∀ a b, e62 a = e62 b → a = b := by
  rintro ⟨S, W, n⟩ ⟨S', W', n'⟩ h
  simp only [e62, mi_iff, ms_iff, mb_iff, my_iff, UInt8.toNat_inj, secs_iff, wrs_iff, dskH, avinj, List.cons.injEq] at h
  simp_all only
noncomputable def S62 : FSpec := heapE true e62 p62 r62 g62
theorem ps62 (S : (List Sec)) (W : (List Wr)) (n : (Int)) : pselK e62 p62 ([.ref 0 0 0, .int .i64 n], dskH S W) = (True) := pselK_at inj62 p62 (S, W, n)
theorem rs62 (S : (List Sec)) (W : (List Wr)) (n : (Int)) : rselK e62 r62 .any ([.ref 0 0 0, .int .i64 n], dskH S W) = (rdA S n) := rselK_at inj62 r62 .any (S, W, n)
theorem hs62 (S : (List Sec)) (W : (List Wr)) (n : (Int)) : rselK e62 g62 [] ([.ref 0 0 0, .int .i64 n], dskH S W) = (dskH S W) := rselK_at inj62 g62 [] (S, W, n)
attribute [push_cast] S62 ps62 rs62 hs62
theorem body62 (Γ : Env) (h115 : Γ 115 = some S115) (S : List Sec) (W : List Wr) (n : Int) : BodyOk Tryz.prog Γ Tryz.f62 [.ref 0 0 0, .int .i64 n] (dskH S W) (rdA S n) (dskH S W) := by
  have ps := ps115 S W n
  have rs := rs115 S W n
  have hs := hs115 S W n
  unfold rdA
  unfold dskH at *
  by_cases h : 0 ≤ n ∧ n < S.length
  · obtain ⟨k, rfl⟩ := Int.eq_ofNat_of_zero_le h.1
    have hk : k < S.length := by omega
    rw [if_pos h] at rs ⊢
    (intro X hP hΓ hL hfin; refine ⟨_, rfl, ?_⟩; rw [show Tryz.f62.ntmps = 22 from rfl]; rw [show Tryz.f62.results.toList = [.tmp 4, .tmp 5] from rfl] at hfin; apply holds_of_ex X 12; simp (maxSteps := 1000000) only [push_cast, reduceCtorEq, Nat.reduceAdd, Nat.reduceMul, Nat.reduceSub, Nat.reduceBEq, Nat.reduceGT, Nat.reduceLT, Int.toNat_zero, Nat.reduceLeDiff, Int.reduceEq, Int.reduceLT, Int.reduceLE, hP, hΓ, hL, hfin, String.reduceEq, Int.toNat_one, Bool.not_not, h115, ps, rs, hs, za121, hz121, hk])
    have hm : (k + 1) * 1024 ≤ S.length * 1024 := Nat.mul_le_mul_right _ hk
    refine ⟨by decide, by omega, ⟨by omega, by omega⟩, ?_⟩
    (refine Holds.frz 3 (by rw [hL]; simp) smf (gsq ?_))
    (refine gxq0 ?_)
    have e : AV.sl (secC (S.getD k default)) 1024 = AV.sl ((S.getD k default).1.map byteAV) (S.getD k default).1.length := by rw [(S.getD k default).2]; rfl
    rw [e]
    exact Into.keep3A
  · rw [if_neg h] at rs ⊢
    (intro X hP hΓ hL hfin; refine ⟨_, rfl, ?_⟩; rw [show Tryz.f62.ntmps = 22 from rfl]; rw [show Tryz.f62.results.toList = [.tmp 4, .tmp 5] from rfl] at hfin; refine gxq (cj4 h115 ps rs hs) ?_)
    refine ⟨by decide, ?_⟩
    refine IntoF.soft ?_
    simp only [push_cast]
    exact Into.sameA
theorem con62 {Γ : Env} (h : EnvOk Tryz.prog Γ) (h115 : Γ 115 = some S115) : Con Tryz.prog 62 S62 :=
  heapE_con h (fn := Tryz.f62) (by kernel_rfl) rfl (by kernel_rfl) inj62 fun ⟨S, W, n⟩ _ => body62 Γ h115 S W n
theorem za123 : zeroA Tryz.prog 123 = .agg (wrC default) := by kernel_rfl
theorem hz123 : hasZero Tryz.prog 123 := by unfold hasZero; kernel_rfl
theorem wr0 (w : Wr) (d : AV) : (wrC w).getD 0 d = .int .i64 w.1 := rfl
def wns (W : List Wr) : List Int := W.map Prod.fst
def e23 : (List Sec) × (List Wr) → List AV × Heap := fun (S, W) => ([.ref 0 0 0], dskH S W)
def p23 : (List Sec) × (List Wr) → Prop := fun (S, W) => W.length ≤ 4194304
def r23 : (List Sec) × (List Wr) → AV := fun (S, W) => .sl ((wns W).map (AV.int .i64)) (wns W).length
def g23 : (List Sec) × (List Wr) → Heap := fun (S, W) => dskH S W
theorem inj23 : ∀ a b, e23 a = e23 b → a = b := by
  rintro ⟨S, W⟩ ⟨S', W'⟩ h
  simp only [e23, mi_iff, ms_iff, mb_iff, my_iff, UInt8.toNat_inj, secs_iff, wrs_iff, dskH, avinj, List.cons.injEq] at h
  simp_all only
noncomputable def S23 : FSpec := heapE true e23 p23 r23 g23
theorem ps23 (S : (List Sec)) (W : (List Wr)) : pselK e23 p23 ([.ref 0 0 0], dskH S W) = (W.length ≤ 4194304) := pselK_at inj23 p23 (S, W)
theorem rs23 (S : (List Sec)) (W : (List Wr)) : rselK e23 r23 .any ([.ref 0 0 0], dskH S W) = (.sl ((wns W).map (AV.int .i64)) (wns W).length) := rselK_at inj23 r23 .any (S, W)
theorem hs23 (S : (List Sec)) (W : (List Wr)) : rselK e23 g23 [] ([.ref 0 0 0], dskH S W) = (dskH S W) := rselK_at inj23 g23 [] (S, W)
attribute [push_cast] S23 ps23 rs23 hs23
theorem body23 (Γ : Env) (S : List Sec) (W : List Wr) (hW : W.length ≤ 4194304) : BodyOk Tryz.prog Γ Tryz.f23 [.ref 0 0 0] (dskH S W) (.sl ((wns W).map (AV.int .i64)) (wns W).length) (dskH S W) := by
  unfold dskH
  (intro X hP hΓ hL hfin; refine ⟨_, rfl, ?_⟩; rw [show Tryz.f23.ntmps = 24 from rfl]; rw [show Tryz.f23.results.toList = [.tmp 2] from rfl] at hfin; refine gxq0 ?_)
  refine Holds.loopM (ι := {k : Nat // k ≤ W.length}) [ff,ff,tt,ff,ff,ff,ff,ff,ff,ff,ff,tt,tt,ff,ff,ff,ff,ff,ff,ff,ff,ff,ff,ff] (fun i => [(13, .int .i64 i.1), (3, .msl 3 0 0 i.1)]) (fun i => [.row [.msl 1 0 0 S.length, .msl 2 W.length 0 W.length] 2 0, .row (S.flatMap secC) 1024 0, .row (W.flatMap wrC) 1025 W.length, .row ((wns (W.take i.1)).map (AV.int .i64)) 1 0]) (fun i => W.length - i.1) ⟨0, Nat.zero_le _⟩ ?_ ?_
  · rw [hL]; simp only [push_cast, Int.natCast_zero, wns]
    (refine IntoF.nil 3  1 rfl (gsq ?_))
    exact Into.sameA
  rintro ⟨k, hk⟩
  (refine gxq0 ?_)
  ((with_reducible refine exB_split (fun h => ?_) (fun h => ?_)) <;> (try simp only [decide_eq_true_eq, decide_eq_false_iff_not, Bool.and_eq_true, Bool.or_eq_true, Bool.and_eq_false_iff, Bool.or_eq_false_iff, Bool.not_eq_true', Bool.not_eq_false', Bool.not_eq_true, Bool.not_eq_false, Int.not_lt, Int.not_le, beq_iff_eq, beq_eq_false_iff_ne, ne_eq] at h))
  · have hk' : k < W.length := by omega
    have e1 : wns (W.take (k + 1)) = wns (W.take k) ++ [(W.getD k default).1] := by
      unfold wns
      rw [List.take_succ_eq_append_getElem hk', List.map_append]
      simp [List.getD, hk']
    have hm : (k + 1) * 1025 ≤ W.length * 1025 := Nat.mul_le_mul_right _ hk'
    have hl1 : (wns (W.take k)).length = k := by unfold wns; rw [List.length_map, List.length_take]; omega
    ((first | with_reducible refine holds_of_ex X 400 _ _ _ ?_ | skip); simp (maxSteps := 1000000) only [push_cast, reduceCtorEq, Nat.reduceAdd, Nat.reduceMul, Nat.reduceSub, Nat.reduceBEq, Nat.reduceGT, Nat.reduceLT, Int.toNat_zero, Nat.reduceLeDiff, Int.reduceEq, Int.reduceLT, Int.reduceLE, hP, hΓ, hL, hfin, String.reduceEq, Int.toNat_one, Bool.not_not, hk', za123, hz123, wr0])
    refine ⟨by omega, ⟨by omega, by omega⟩, ⟨hl1, by omega⟩, ⟨k + 1, hk'⟩, by simp only; omega, ?_⟩
    dsimp only
    rw [wr_i64 ((k : Int) + 1) (by constructor <;> omega), e1, List.map_append]
    (refine IntoF.ver 3  0 sm smv (gsq ?_))
    exact Into.keep4A
  · obtain rfl : k = W.length := by omega
    rw [List.take_length]
    have hl1 : (wns W).length = W.length := by unfold wns; rw [List.length_map]
    (refine gxq0 ?_)
    (refine IntoF.frz 3 smo smf (gsq ?_))
    rw [← hl1, tk_map]
    exact Into.keep3A
theorem con23 {Γ : Env} (h : EnvOk Tryz.prog Γ)  : Con Tryz.prog 23 S23 :=
  heapE_con h (fn := Tryz.f23) (by kernel_rfl) rfl (by kernel_rfl) inj23 fun ⟨S, W⟩ h => body23 Γ S W h
end Go.Proofs.YtbnnhffkbcekcaaGreatDoor.dirDone
end
section
namespace Go.Proofs.YtbnnhffkbcekcaaGreatDoor.dirDone
open Go Go.Eng Go.Proofs
theorem wr_len (w : Wr) : (wrC w).length = 1025 := Width.len w
theorem wr_drop (w : Wr) : List.drop 1024 (List.drop 1 (wrC w)) = [] := by rw [List.drop_drop, List.drop_eq_nil_of_le]; rw [wr_len]; decide
theorem wr_mk (n : Int) (s : Sec) : AV.int .i64 n :: secC s = wrC (n, s) := rfl
theorem fm_snoc {α : Type} {g : α → List AV} (l : List α) (x : α) : (l ++ [x]).flatMap g = l.flatMap g ++ g x := by simp
theorem splice_row {α : Type} {g : α → List AV} {n : Nat} [Width g n] (l : List α) (k : Nat) (x : α) (hk : k < l.length) : (l.flatMap g).take (k * n) ++ g x ++ (l.flatMap g).drop (k * n + n) = (l.set k x).flatMap g := by
  have e : l.set k x = l.take k ++ x :: l.drop (k + 1) := by rw [List.set_eq_take_append_cons_drop, if_pos hk]
  rw [take_fm, show k * n + n = (k + 1) * n by rw [Nat.succ_mul], drop_fm, e]
  simp only [List.flatMap_append, List.flatMap_cons, List.append_assoc]
def toSec (b : List UInt8) : Sec := if h : b.length = 1024 then ⟨b, h⟩ else default
theorem toSec_of {b : List UInt8} (h : b.length = 1024) : (toSec b).1 = b := by rw [toSec, dif_pos h]
def wrE (S : List Sec) (W : List Wr) (n : Int) (b : List UInt8) : Int := if ¬ (0 ≤ n ∧ n < S.length) then 31 else if b.length ≠ 1024 then 32 else if W.length = 4096 then 33 else 0
def wrS (S : List Sec) (W : List Wr) (n : Int) (b : List UInt8) : List Sec := if wrE S W n b = 0 then S.set n.toNat (toSec b) else S
def wrW (S : List Sec) (W : List Wr) (n : Int) (b : List UInt8) : List Wr := if wrE S W n b = 0 then W ++ [(n, S.getD n.toNat default)] else W
def e61 : (List Sec) × (List Wr) × (Int) × (List UInt8) → List AV × Heap := fun (S, W, n, b) => ([.ref 0 0 0, .int .i64 n, .sl (b.map byteAV) b.length], dskH S W)
def p61 : (List Sec) × (List Wr) × (Int) × (List UInt8) → Prop := fun (S, W, n, b) => W.length ≤ 4096 ∧ S.length ≤ 4096
def r61 : (List Sec) × (List Wr) × (Int) × (List UInt8) → AV := fun (S, W, n, b) => .int .i64 (wrE S W n b)
def g61 : (List Sec) × (List Wr) × (Int) × (List UInt8) → Heap := fun (S, W, n, b) => dskH (wrS S W n b) (wrW S W n b)
theorem inj61 : ∀ a b, e61 a = e61 b → a = b := by
  rintro ⟨S, W, n, b⟩ ⟨S', W', n', b'⟩ h
  simp only [e61, mi_iff, ms_iff, mb_iff, my_iff, UInt8.toNat_inj, secs_iff, wrs_iff, dskH, avinj, List.cons.injEq] at h
  simp_all only
noncomputable def S61 : FSpec := heapE true e61 p61 r61 g61
theorem ps61 (S : (List Sec)) (W : (List Wr)) (n : (Int)) (b : (List UInt8)) : pselK e61 p61 ([.ref 0 0 0, .int .i64 n, .sl (b.map byteAV) b.length], dskH S W) = (W.length ≤ 4096 ∧ S.length ≤ 4096) := pselK_at inj61 p61 (S, W, n, b)
theorem rs61 (S : (List Sec)) (W : (List Wr)) (n : (Int)) (b : (List UInt8)) : rselK e61 r61 .any ([.ref 0 0 0, .int .i64 n, .sl (b.map byteAV) b.length], dskH S W) = (.int .i64 (wrE S W n b)) := rselK_at inj61 r61 .any (S, W, n, b)
theorem hs61 (S : (List Sec)) (W : (List Wr)) (n : (Int)) (b : (List UInt8)) : rselK e61 g61 [] ([.ref 0 0 0, .int .i64 n, .sl (b.map byteAV) b.length], dskH S W) = (dskH (wrS S W n b) (wrW S W n b)) := rselK_at inj61 g61 [] (S, W, n, b)
attribute [push_cast] S61 ps61 rs61 hs61
theorem body61 (Γ : Env) (h115 : Γ 115 = some S115) (S : List Sec) (W : List Wr) (n : Int) (b : List UInt8) (hW : W.length ≤ 4096) (hS : S.length ≤ 4096) : BodyOk Tryz.prog Γ Tryz.f61 [.ref 0 0 0, .int .i64 n, .sl (b.map byteAV) b.length] (dskH S W) (.int .i64 (wrE S W n b)) (dskH (wrS S W n b) (wrW S W n b)) := by
  have ps := ps115 S W n
  have rs := rs115 S W n
  have hs := hs115 S W n
  unfold wrS wrW
  by_cases h : 0 ≤ n ∧ n < S.length
  case neg =>
    have e : wrE S W n b = 31 := by unfold wrE; rw [if_pos h]
    rw [e, if_neg (by decide), if_neg (by decide)]
    unfold dskH at *
    rw [if_neg h] at rs
    (intro X hP hΓ hL hfin; refine ⟨_, rfl, ?_⟩; rw [show Tryz.f61.ntmps = 56 from rfl]; rw [show Tryz.f61.results.toList = [.tmp 6] from rfl] at hfin; refine gxq (cj4 h115 ps rs hs) ?_)
    refine ⟨by decide, ?_⟩
    exact Into.sameA
  by_cases hb : b.length = 1024
  case neg =>
    have e : wrE S W n b = 32 := by unfold wrE; rw [if_neg (fun h' => h' h), if_pos hb]
    rw [e, if_neg (by decide), if_neg (by decide)]
    unfold dskH at *
    rw [if_pos h] at rs
    have db : decide ((b.length : Int) = 1024) = false := decide_eq_false (by omega)
    (intro X hP hΓ hL hfin; refine ⟨_, rfl, ?_⟩; rw [show Tryz.f61.ntmps = 56 from rfl]; rw [show Tryz.f61.results.toList = [.tmp 6] from rfl] at hfin; refine gxq (cj5 h115 ps rs hs db) ?_)
    refine ⟨by decide, ?_⟩
    exact Into.sameA
  by_cases hw : W.length = 4096
  · have e : wrE S W n b = 33 := by unfold wrE; rw [if_neg (fun h' => h' h), if_neg (fun h' => h' hb), if_pos hw]
    rw [e, if_neg (by decide), if_neg (by decide)]
    unfold dskH at *
    rw [if_pos h] at rs
    have db : decide ((b.length : Int) = 1024) = true := decide_eq_true (by omega)
    have dw : decide ((W.length : Int) = 4096) = true := decide_eq_true (by omega)
    (intro X hP hΓ hL hfin; refine ⟨_, rfl, ?_⟩; rw [show Tryz.f61.ntmps = 56 from rfl]; rw [show Tryz.f61.results.toList = [.tmp 6] from rfl] at hfin; refine gxq (cj6 h115 ps rs hs db dw) ?_)
    refine ⟨by decide, ?_⟩
    exact Into.sameA
  have e : wrE S W n b = 0 := by unfold wrE; rw [if_neg (fun h' => h' h), if_neg (fun h' => h' hb), if_neg hw]
  rw [e, if_pos rfl, if_pos rfl]
  unfold dskH at *
  rw [if_pos h] at rs
  obtain ⟨k, rfl⟩ := Int.eq_ofNat_of_zero_le h.1
  have hk : k < S.length := by omega
  have db : decide ((b.length : Int) = 1024) = true := decide_eq_true (by omega)
  have dw : decide ((W.length : Int) = 4096) = false := decide_eq_false (by omega)
  (intro X hP hΓ hL hfin; refine ⟨_, rfl, ?_⟩; rw [show Tryz.f61.ntmps = 56 from rfl]; rw [show Tryz.f61.results.toList = [.tmp 6] from rfl] at hfin; refine gxq (cj7 h115 ps rs hs db dw hk) ?_)
  refine ⟨by decide, ?_⟩
  (refine Holds.drawnE (patH [.fix (.row [.msl 1 0 0 S.length, .msl 2 W.length 0 W.length] 2 0), .fix (.row (S.flatMap secC) 1024 0)]) [1, 2, 3, 4, 5, 6, 7, 8, 9, 10, 11, 12, 15, 18] [] [] true smp (by kernel_rfl) (by kernel_rfl) (by kernel_rfl) smh sms ?_; simp (maxSteps := 1000000) only [↓reduceIte, Option.getD_some, push_cast, reduceCtorEq, Nat.reduceAdd, Nat.reduceMul, Nat.reduceSub, Nat.reduceBEq, Nat.reduceGT, Nat.reduceLT, Int.toNat_zero, Nat.reduceLeDiff, Int.reduceEq, Int.reduceLT, Int.reduceLE, hP, hΓ, hL, hfin, String.reduceEq, Int.toNat_one, Bool.not_not, hk, za123, hz123, wr_len, wr_drop, wr_mk])
  have hm : (k + 1) * 1024 ≤ S.length * 1024 := Nat.mul_le_mul_right _ hk
  refine ⟨by omega, ⟨by omega, by omega⟩, by omega, ?_⟩
  (refine gxq0 ?_)
  (refine Holds.drawnE (patH [.fix (.row [.msl 1 0 0 S.length, .msl 2 (W.length + 1) 0 (W.length + 1)] 2 0), .row 1024 0]) [0, 1, 2, 3, 4, 5, 7, 8, 9] [] [] true smp (by kernel_rfl) (by kernel_rfl) (by kernel_rfl) smh sms (gyq hk ?_))
  have ho : oneCells (List.take 1024 (List.map byteAV b)) = true := by rw [← List.map_take]; exact one_map _
  refine ⟨⟨by omega, by omega⟩, by omega, by omega, ⟨by omega, by omega, by omega, ho⟩, ?_⟩
  (refine gxq0 ?_)
  have e3 : min 1024 b.length = 1024 := by omega
  have e4 : List.take 1024 (List.map byteAV b) = secC (toSec b) := by
    rw [List.take_of_length_le (by rw [List.length_map]; omega), secC, toSec_of hb]
  rw [e3, e4, splice_row S k (toSec b) hk, ← fm_snoc, List.length_set]
  exact Into.sameA
theorem con61 {Γ : Env} (h : EnvOk Tryz.prog Γ) (h115 : Γ 115 = some S115) : Con Tryz.prog 61 S61 :=
  heapE_con h (fn := Tryz.f61) (by kernel_rfl) rfl (by kernel_rfl) inj61 fun ⟨S, W, n, b⟩ h => body61 Γ h115 S W n b h.1 h.2
end Go.Proofs.YtbnnhffkbcekcaaGreatDoor.dirDone
end
section
namespace Go.Proofs.YtbnnhffkbcekcaaGreatDoor.dirDone
open Go Go.Eng Go.Proofs
def dskK (S : List Sec) (W : List Wr) : Heap := [.row [.msl 2 0 0 S.length, .msl 3 W.length 0 W.length] 2 0, .row (S.flatMap secC) 1024 0, .row (W.flatMap wrC) 1025 W.length]
def e90 : (List Sec) × (List Wr) × (Int) → List AV × Heap := fun (S, W, n) => ([.ref 0 0 0, .int .i64 n], dskH S W)
def p90 : (List Sec) × (List Wr) × (Int) → Prop := fun (S, W, n) => W.length ≤ 4096 ∧ -1000000 ≤ n ∧ n ≤ 1000000
def r90 : (List Sec) × (List Wr) × (Int) → AV := fun (S, W, n) => .bool (decide ((W.length : Int) + n ≤ 4096))
def g90 : (List Sec) × (List Wr) × (Int) → Heap := fun (S, W, n) => dskH S W
theorem inj90 : ∀ a b, e90 a = e90 b → a = b := by
  rintro ⟨S, W, n⟩ ⟨S', W', n'⟩ h
  simp only [e90, mi_iff, ms_iff, mb_iff, my_iff, UInt8.toNat_inj, secs_iff, wrs_iff, dskH, dskK, avinj, List.cons.injEq] at h
  simp_all only
noncomputable def S90 : FSpec := heapE true e90 p90 r90 g90
theorem ps90 (S : (List Sec)) (W : (List Wr)) (n : (Int)) : pselK e90 p90 ([.ref 0 0 0, .int .i64 n], dskH S W) = (W.length ≤ 4096 ∧ -1000000 ≤ n ∧ n ≤ 1000000) := pselK_at inj90 p90 (S, W, n)
theorem rs90 (S : (List Sec)) (W : (List Wr)) (n : (Int)) : rselK e90 r90 .any ([.ref 0 0 0, .int .i64 n], dskH S W) = (.bool (decide ((W.length : Int) + n ≤ 4096))) := rselK_at inj90 r90 .any (S, W, n)
theorem hs90 (S : (List Sec)) (W : (List Wr)) (n : (Int)) : rselK e90 g90 [] ([.ref 0 0 0, .int .i64 n], dskH S W) = (dskH S W) := rselK_at inj90 g90 [] (S, W, n)
attribute [push_cast] S90 ps90 rs90 hs90
theorem body90 (Γ : Env) (h23 : Γ 23 = some S23) (S : List Sec) (W : List Wr) (n : Int) (hW : W.length ≤ 4096) (hn : -1000000 ≤ n ∧ n ≤ 1000000) : BodyOk Tryz.prog Γ Tryz.f90 [.ref 0 0 0, .int .i64 n] (dskH S W) (.bool (decide ((W.length : Int) + n ≤ 4096))) (dskH S W) := by
  have ps := ps23 S W
  have rs := rs23 S W
  have hs := hs23 S W
  have hl : (wns W).length = W.length := by unfold wns; rw [List.length_map]
  unfold dskH at *
  (intro X hP hΓ hL hfin; refine ⟨_, rfl, ?_⟩; rw [show Tryz.f90.ntmps = 11 from rfl]; rw [show Tryz.f90.results.toList = [.tmp 4] from rfl] at hfin; refine gxq (cj5 h23 ps rs hs hl) ?_)
  refine ⟨by omega, ?_⟩
  rw [wr_i64 _ (by constructor <;> omega)]
  exact Into.sameA
theorem con90 {Γ : Env} (h : EnvOk Tryz.prog Γ) (h23 : Γ 23 = some S23) : Con Tryz.prog 90 S90 :=
  heapE_con h (fn := Tryz.f90) (by kernel_rfl) rfl (by kernel_rfl) inj90 fun ⟨S, W, n⟩ h => body90 Γ h23 S W n h.1 h.2
def newD (n : Int) : List Sec := List.replicate n.toNat default
def e49 : (Int) → List AV × Heap := fun n => ([.int .i64 n], [])
def p49 : (Int) → Prop := fun n => True
def r49 : (Int) → AV := fun n => if 8 ≤ n ∧ n ≤ 1024 then .tup [.ref 0 0 0, .int .i64 0] else .tup [.lit (.pointer none), .int .i64 30]
def g49 : (Int) → Heap := fun n => if 8 ≤ n ∧ n ≤ 1024 then dskH (newD n) [] else []
theorem inj49 : ∀ a b, e49 a = e49 b → a = b := by
  rintro n n' h
  simp only [e49, mi_iff, ms_iff, mb_iff, my_iff, UInt8.toNat_inj, secs_iff, wrs_iff, dskH, dskK, avinj, List.cons.injEq] at h
  simp_all only
noncomputable def S49 : FSpec := heapE true e49 p49 r49 g49
theorem ps49 (n : (Int)) : pselK e49 p49 ([.int .i64 n], []) = (True) := pselK_at inj49 p49 n
theorem rs49 (n : (Int)) : rselK e49 r49 .any ([.int .i64 n], []) = (if 8 ≤ n ∧ n ≤ 1024 then .tup [.ref 0 0 0, .int .i64 0] else .tup [.lit (.pointer none), .int .i64 30]) := rselK_at inj49 r49 .any n
theorem hs49 (n : (Int)) : rselK e49 g49 [] ([.int .i64 n], []) = (if 8 ≤ n ∧ n ≤ 1024 then dskH (newD n) [] else []) := rselK_at inj49 g49 [] n
attribute [push_cast] S49 ps49 rs49 hs49
theorem newD_len (n : Int) : (newD n).length = n.toNat := List.length_replicate
theorem fm_replicate {α : Type} {g : α → List AV} (x : α) : ∀ n : Nat, (List.replicate n x).flatMap g = reps n (g x)
  | 0 => rfl
  | n + 1 => by rw [List.replicate_succ, List.flatMap_cons, fm_replicate x n]; rfl
theorem body49 (Γ : Env) (n : Int) : BodyOk Tryz.prog Γ Tryz.f49 [.int .i64 n] [] (if 8 ≤ n ∧ n ≤ 1024 then .tup [.ref 0 0 0, .int .i64 0] else .tup [.lit (.pointer none), .int .i64 30]) (if 8 ≤ n ∧ n ≤ 1024 then dskH (newD n) [] else []) := by
  by_cases h : 8 ≤ n ∧ n ≤ 1024
  · have d1 : (decide (n < 8) || decide ((1024 : Int) < n)) = false := by
      rw [Bool.eq_false_iff]; intro h'; simp only [Bool.or_eq_true, decide_eq_true_eq] at h'; omega
    rw [if_pos h, if_pos h]
    unfold dskH
    (intro X hP hΓ hL hfin; refine ⟨_, rfl, ?_⟩; rw [show Tryz.f49.ntmps = 14 from rfl]; rw [show Tryz.f49.results.toList = [.tmp 2, .tmp 3] from rfl] at hfin; apply holds_of_ex X 400; simp (maxSteps := 1000000) only [push_cast, reduceCtorEq, Nat.reduceAdd, Nat.reduceMul, Nat.reduceSub, Nat.reduceBEq, Nat.reduceGT, Nat.reduceLT, Int.toNat_zero, Nat.reduceLeDiff, Int.reduceEq, Int.reduceLT, Int.reduceLE, hP, hΓ, hL, hfin, String.reduceEq, Int.toNat_one, Bool.not_not, d1, za121, hz121])
    refine ⟨⟨by omega, by omega, by omega⟩, ?_⟩
    refine IntoF.nilH 1 1 1025 rfl rfl ?_
    simp only [push_cast, newD_len]
    rw [show (List.replicate n.toNat (secC default)).flatten = (newD n).flatMap secC from (fm_replicate default n.toNat).symm]
    rw [List.flatMap_nil]
    exact IntoF.base [1, 0, 2] ⟨sml, smr, (by decide), (by first | rfl | decide), sm, sm⟩ smd
  · have d1 : (decide (n < 8) || decide ((1024 : Int) < n)) = true := by
      simp only [Bool.or_eq_true, decide_eq_true_eq]; omega
    rw [if_neg h, if_neg h]
    (intro X hP hΓ hL hfin; refine ⟨_, rfl, ?_⟩; rw [show Tryz.f49.ntmps = 14 from rfl]; rw [show Tryz.f49.results.toList = [.tmp 2, .tmp 3] from rfl] at hfin; refine gxq d1 ?_)
    exact Into.sameA
theorem con49 {Γ : Env} (h : EnvOk Tryz.prog Γ)  : Con Tryz.prog 49 S49 :=
  heapE_con h (fn := Tryz.f49) (by kernel_rfl) rfl (by kernel_rfl) inj49 fun n _ => body49 Γ n
def q8 (n : Nat) : Nat := n / 256
def q16 (n : Nat) : Nat := n / 65536
def q24 (n : Nat) : Nat := n / 16777216
def leW (w : Nat) : List UInt8 := [UInt8.ofNat w, UInt8.ofNat (q8 w), UInt8.ofNat (q16 w), UInt8.ofNat (q24 w)]
theorem leW_len (w : Nat) : (leW w).length = 4 := rfl
theorem wrap_u8 (n : Nat) : IntKind.u8.wrap (n : Int) = ((UInt8.ofNat n).toNat : Int) := by
  rw [show IntKind.u8.wrap (n : Int) = ((n % 256 : Nat) : Int) by simp [IntKind.wrap, IntKind.bits, IntKind.signed]]; congr 1
theorem shr_nat (n s : Nat) : (n : Int).fdiv (2 ^ s) = ((n / 2 ^ s : Nat) : Int) := by
  rw [Int.fdiv_eq_ediv_of_nonneg _ (by exact Int.le_of_lt (Int.pow_pos (by omega)))]
  simp
theorem sh8 (w : Nat) : (w : Int).fdiv (2 ^ min (Int.toNat 8) IntKind.u32.bits) = (q8 w : Int) := shr_nat w 8
theorem sh16 (w : Nat) : (w : Int).fdiv (2 ^ min (Int.toNat 16) IntKind.u32.bits) = (q16 w : Int) := shr_nat w 16
theorem sh24 (w : Nat) : (w : Int).fdiv (2 ^ min (Int.toNat 24) IntKind.u32.bits) = (q24 w : Int) := shr_nat w 24
inductive A91 where
  | c0 (w : (Nat))
  | c1 (w : (Nat)) (p : (List UInt8)) (v : (Nat))
def e91 : A91 → List AV × Heap
  | .c0 w => ([.lit (.slice none 0 0), .int .u32 w], [])
  | .c1 w p v => ([.msl 0 v 0 p.length, .int .u32 w], [.row (p.map byteAV) 1 v])
def p91 : A91 → Prop
  | .c0 w => True
  | .c1 w p v => p.length ≤ 1000000
def r91 : A91 → AV
  | .c0 w => .msl 0 0 0 4
  | .c1 w p v => .msl 0 (v + 1) 0 (p.length + 4)
def g91 : A91 → Heap
  | .c0 w => [.row ((leW w).map byteAV) 1 0]
  | .c1 w p v => [.row ((p ++ leW w).map byteAV) 1 (v + 1)]
theorem inj91 : ∀ a b, e91 a = e91 b → a = b := by
  intro a b h
  cases a <;> cases b <;> simp only [e91, mi_iff, ms_iff, mb_iff, my_iff, UInt8.toNat_inj, secs_iff, wrs_iff, dskH, dskK, avinj, List.cons.injEq, Fn.func.injEq, reduceCtorEq, Nat.reduceEqDiff, false_and, and_false, List.cons_ne_nil] at h <;> simp_all only
noncomputable def S91 : FSpec := heapF e91 p91 r91 g91
theorem ps91_0 (w : (Nat)) : pselK e91 p91 ([.lit (.slice none 0 0), .int .u32 w], []) = (True) := pselK_at inj91 p91 (.c0 w)
theorem rs91_0 (w : (Nat)) : rselK e91 r91 .any ([.lit (.slice none 0 0), .int .u32 w], []) = (.msl 0 0 0 4) := rselK_at inj91 r91 .any (.c0 w)
theorem hs91_0 (w : (Nat)) : rselK e91 g91 [] ([.lit (.slice none 0 0), .int .u32 w], []) = ([.row ((leW w).map byteAV) 1 0]) := rselK_at inj91 g91 [] (.c0 w)
theorem ps91_1 (w : (Nat)) (p : (List UInt8)) (v : (Nat)) : pselK e91 p91 ([.msl 0 v 0 p.length, .int .u32 w], [.row (p.map byteAV) 1 v]) = (p.length ≤ 1000000) := pselK_at inj91 p91 (.c1 w p v)
theorem rs91_1 (w : (Nat)) (p : (List UInt8)) (v : (Nat)) : rselK e91 r91 .any ([.msl 0 v 0 p.length, .int .u32 w], [.row (p.map byteAV) 1 v]) = (.msl 0 (v + 1) 0 (p.length + 4)) := rselK_at inj91 r91 .any (.c1 w p v)
theorem hs91_1 (w : (Nat)) (p : (List UInt8)) (v : (Nat)) : rselK e91 g91 [] ([.msl 0 v 0 p.length, .int .u32 w], [.row (p.map byteAV) 1 v]) = ([.row ((p ++ leW w).map byteAV) 1 (v + 1)]) := rselK_at inj91 g91 [] (.c1 w p v)
attribute [push_cast] S91 ps91_0 rs91_0 hs91_0 ps91_1 rs91_1 hs91_1
theorem body91n (Γ : Env) (w : Nat) : BodyOk Tryz.prog Γ Tryz.f91 [.lit (.slice none 0 0), .int .u32 w] [] (.msl 0 0 0 4) [.row ((leW w).map byteAV) 1 0] := by
  (intro X hP hΓ hL hfin; refine ⟨_, rfl, ?_⟩; rw [show Tryz.f91.ntmps = 19 from rfl]; rw [show Tryz.f91.results.toList = [.tmp 4] from rfl] at hfin; apply holds_of_ex X 400; simp (maxSteps := 1000000) only [push_cast, reduceCtorEq, Nat.reduceAdd, Nat.reduceMul, Nat.reduceSub, Nat.reduceBEq, Nat.reduceGT, Nat.reduceLT, Int.toNat_zero, Nat.reduceLeDiff, Int.reduceEq, Int.reduceLT, Int.reduceLE, hP, hΓ, hL, hfin, String.reduceEq, Int.toNat_one, Bool.not_not, sh8, sh16, sh24, wrap_u8])
  exact Into.sameA
theorem body91 (Γ : Env) (w : Nat) (p : List UInt8) (v : Nat) (hp : p.length ≤ 1000000) : BodyOk Tryz.prog Γ Tryz.f91 [.msl 0 v 0 p.length, .int .u32 w] [.row (p.map byteAV) 1 v] (.msl 0 (v + 1) 0 (p.length + 4)) [.row ((p ++ leW w).map byteAV) 1 (v + 1)] := by
  (intro X hP hΓ hL hfin; refine ⟨_, rfl, ?_⟩; rw [show Tryz.f91.ntmps = 19 from rfl]; rw [show Tryz.f91.results.toList = [.tmp 4] from rfl] at hfin; apply holds_of_ex X 400; simp (maxSteps := 1000000) only [push_cast, reduceCtorEq, Nat.reduceAdd, Nat.reduceMul, Nat.reduceSub, Nat.reduceBEq, Nat.reduceGT, Nat.reduceLT, Int.toNat_zero, Nat.reduceLeDiff, Int.reduceEq, Int.reduceLT, Int.reduceLE, hP, hΓ, hL, hfin, String.reduceEq, Int.toNat_one, Bool.not_not, sh8, sh16, sh24, wrap_u8])
  refine ⟨by omega, ?_⟩
  rw [List.map_append]
  exact Into.sameA
theorem con91 {Γ : Env} (h : EnvOk Tryz.prog Γ)  : Con Tryz.prog 91 S91 :=
  heapF_con h (fn := Tryz.f91) (by kernel_rfl) rfl (by kernel_rfl) inj91 fun a h => match a, h with | .c0 w, _ => body91n Γ w | .c1 w p v, h => body91 Γ w p v h
theorem pinfreeL_fmF {α : Type} {g : α → List AV} (h : ∀ x, pinfreeL (g x) = true) : ∀ xs : List α, pinfreeL (xs.flatMap g) = true
  | [] => rfl
  | x :: xs => by rw [List.flatMap_cons, pinfreeL_append, h, pinfreeL_fmF h xs]; rfl
theorem pf_sec (S : List Sec) : pinfreeL (S.flatMap secC) = true := pinfreeL_fmF (fun s => pinfreeL_bytes _) S
theorem pf_wr (W : List Wr) : pinfreeL (W.flatMap wrC) = true := pinfreeL_fmF (fun w => by simp only [wrC, pinfreeL, pinfree, Bool.true_and]; exact pinfreeL_bytes _) W
attribute [push_cast] pf_sec pf_wr
def padP (p : List UInt8) : List UInt8 := p ++ List.replicate (1024 - p.length) 0
theorem padP_len {p : List UInt8} (h : p.length ≤ 1024) : (padP p).length = 1024 := by unfold padP; rw [List.length_append, List.length_replicate]; omega
def e92 : (List Sec) × (List Wr) × (List UInt8) × (Nat) × (Int) → List AV × Heap := fun (S, W, p, v, n) => ([.msl 0 v 0 p.length, .ref 1 0 0, .int .i64 n], .row (p.map byteAV) 1 v :: dskK S W)
def p92 : (List Sec) × (List Wr) × (List UInt8) × (Nat) × (Int) → Prop := fun (S, W, p, v, n) => p.length ≤ 1024 ∧ W.length ≤ 4096 ∧ S.length ≤ 4096
def r92 : (List Sec) × (List Wr) × (List UInt8) × (Nat) × (Int) → AV := fun (S, W, p, v, n) => .tup []
def g92 : (List Sec) × (List Wr) × (List UInt8) × (Nat) × (Int) → Heap := fun (S, W, p, v, n) => .row ((padP p).map byteAV) 1 (v + 1) :: dskK (wrS S W n (padP p)) (wrW S W n (padP p))
theorem inj92 : ∀ a b, e92 a = e92 b → a = b := by
  rintro ⟨S, W, p, v, n⟩ ⟨S', W', p', v', n'⟩ h
  simp only [e92, mi_iff, ms_iff, mb_iff, my_iff, UInt8.toNat_inj, secs_iff, wrs_iff, dskH, dskK, avinj, List.cons.injEq] at h
  simp_all only
noncomputable def S92 : FSpec := heapF e92 p92 r92 g92
theorem ps92 (S : (List Sec)) (W : (List Wr)) (p : (List UInt8)) (v : (Nat)) (n : (Int)) : pselK e92 p92 ([.msl 0 v 0 p.length, .ref 1 0 0, .int .i64 n], .row (p.map byteAV) 1 v :: dskK S W) = (p.length ≤ 1024 ∧ W.length ≤ 4096 ∧ S.length ≤ 4096) := pselK_at inj92 p92 (S, W, p, v, n)
theorem rs92 (S : (List Sec)) (W : (List Wr)) (p : (List UInt8)) (v : (Nat)) (n : (Int)) : rselK e92 r92 .any ([.msl 0 v 0 p.length, .ref 1 0 0, .int .i64 n], .row (p.map byteAV) 1 v :: dskK S W) = (.tup []) := rselK_at inj92 r92 .any (S, W, p, v, n)
theorem hs92 (S : (List Sec)) (W : (List Wr)) (p : (List UInt8)) (v : (Nat)) (n : (Int)) : rselK e92 g92 [] ([.msl 0 v 0 p.length, .ref 1 0 0, .int .i64 n], .row (p.map byteAV) 1 v :: dskK S W) = (.row ((padP p).map byteAV) 1 (v + 1) :: dskK (wrS S W n (padP p)) (wrW S W n (padP p))) := rselK_at inj92 g92 [] (S, W, p, v, n)
attribute [push_cast] S92 ps92 rs92 hs92
theorem body92 (Γ : Env) (h61 : Γ 61 = some S61) (S : List Sec) (W : List Wr) (p : List UInt8) (v : Nat) (n : Int) (hp : p.length ≤ 1024) (hW : W.length ≤ 4096) (hS : S.length ≤ 4096) : BodyOk Tryz.prog Γ Tryz.f92 [.msl 0 v 0 p.length, .ref 1 0 0, .int .i64 n] (.row (p.map byteAV) 1 v :: dskK S W) (.tup []) (.row ((padP p).map byteAV) 1 (v + 1) :: dskK (wrS S W n (padP p)) (wrW S W n (padP p))) := by
  have ps := ps61 S W n (padP p)
  have rs := rs61 S W n (padP p)
  have hs := hs61 S W n (padP p)
  unfold dskH at *
  unfold dskK
  obtain ⟨q, hq⟩ : ∃ q, q = 1024 - p.length := ⟨_, rfl⟩
  have e1 : IntKind.i64.wrap (1024 - (p.length : Int)) = (q : Int) := by rw [wr_i64 _ (by constructor <;> omega)]; omega
  have e2 : List.map byteAV p ++ (List.replicate q [AV.int .u8 0]).flatten = (padP p).map byteAV := by
    unfold padP
    rw [List.map_append, ← hq]
    congr 1
    rw [List.map_replicate]
    clear hq e1
    induction q with
    | zero => rfl
    | succ q ih => rw [List.replicate_succ, List.flatten_cons, ih]; rfl
  have e3 : p.length + q = (padP p).length := by rw [padP_len hp]; omega
  have e4 := padP_len hp
  (intro X hP hΓ hL hfin; refine ⟨_, rfl, ?_⟩; rw [show Tryz.f92.ntmps = 14 from rfl]; rw [show Tryz.f92.results.toList = [] from rfl] at hfin; apply holds_of_ex X 400; simp (maxSteps := 1000000) only [push_cast, reduceCtorEq, Nat.reduceAdd, Nat.reduceMul, Nat.reduceSub, Nat.reduceBEq, Nat.reduceGT, Nat.reduceLT, Int.toNat_zero, Nat.reduceLeDiff, Int.reduceEq, Int.reduceLT, Int.reduceLE, hP, hΓ, hL, hfin, String.reduceEq, Int.toNat_one, Bool.not_not, h61, ps, rs, hs, e1, e2, e3, tk_map])
  refine ⟨by omega, ⟨by decide, ⟨hW, hS⟩⟩, ?_⟩
  exact Into.sameA
theorem con92 {Γ : Env} (h : EnvOk Tryz.prog Γ) (h61 : Γ 61 = some S61) : Con Tryz.prog 92 S92 :=
  heapF_con h (fn := Tryz.f92) (by kernel_rfl) rfl (by kernel_rfl) inj92 fun ⟨S, W, p, v, n⟩ h => body92 Γ h61 S W p v n h.1 h.2.1 h.2.2
def markR : Nat := 827475011
def fmtS (S : List Sec) (W : List Wr) : List Sec := wrS S W 0 (padP (leW markR))
def fmtW (S : List Sec) (W : List Wr) : List Wr := wrW S W 0 (padP (leW markR))
inductive A37 where
  | c0 
  | c1 (S : (List Sec)) (W : (List Wr))
def e37 : A37 → List AV × Heap
  | .c0  => ([.lit (.pointer none)], [])
  | .c1 S W => ([.ref 0 0 0], dskH S W)
def p37 : A37 → Prop
  | .c0  => True
  | .c1 S W => W.length ≤ 4096 ∧ S.length ≤ 4096
def r37 : A37 → AV
  | .c0  => .int .i64 1
  | .c1 S W => .int .i64 (if W.length < 4096 then 0 else 174)
def g37 : A37 → Heap
  | .c0  => []
  | .c1 S W => if W.length < 4096 then dskH (fmtS S W) (fmtW S W) else dskH S W
theorem inj37 : ∀ a b, e37 a = e37 b → a = b := by
  intro a b h
  cases a <;> cases b <;> simp only [e37, mi_iff, ms_iff, mb_iff, my_iff, UInt8.toNat_inj, secs_iff, wrs_iff, dskH, dskK, avinj, List.cons.injEq, Fn.func.injEq, reduceCtorEq, Nat.reduceEqDiff, false_and, and_false, List.cons_ne_nil] at h <;> simp_all only
noncomputable def S37 : FSpec := heapE true e37 p37 r37 g37
theorem ps37_0  : pselK e37 p37 ([.lit (.pointer none)], []) = (True) := pselK_at inj37 p37 (.c0 )
theorem rs37_0  : rselK e37 r37 .any ([.lit (.pointer none)], []) = (.int .i64 1) := rselK_at inj37 r37 .any (.c0 )
theorem hs37_0  : rselK e37 g37 [] ([.lit (.pointer none)], []) = ([]) := rselK_at inj37 g37 [] (.c0 )
theorem ps37_1 (S : (List Sec)) (W : (List Wr)) : pselK e37 p37 ([.ref 0 0 0], dskH S W) = (W.length ≤ 4096 ∧ S.length ≤ 4096) := pselK_at inj37 p37 (.c1 S W)
theorem rs37_1 (S : (List Sec)) (W : (List Wr)) : rselK e37 r37 .any ([.ref 0 0 0], dskH S W) = (.int .i64 (if W.length < 4096 then 0 else 174)) := rselK_at inj37 r37 .any (.c1 S W)
theorem hs37_1 (S : (List Sec)) (W : (List Wr)) : rselK e37 g37 [] ([.ref 0 0 0], dskH S W) = (if W.length < 4096 then dskH (fmtS S W) (fmtW S W) else dskH S W) := rselK_at inj37 g37 [] (.c1 S W)
attribute [push_cast] S37 ps37_0 rs37_0 hs37_0 ps37_1 rs37_1 hs37_1
theorem body37n (Γ : Env) : BodyOk Tryz.prog Γ Tryz.f37 [.lit (.pointer none)] [] (.int .i64 1) [] := by
  (intro X hP hΓ hL hfin; refine ⟨_, rfl, ?_⟩; rw [show Tryz.f37.ntmps = 13 from rfl]; rw [show Tryz.f37.results.toList = [.tmp 2] from rfl] at hfin; refine gxq0 ?_)
  exact Into.sameA
theorem body37 (Γ : Env) (h90 : Γ 90 = some S90) (h91 : Γ 91 = some S91) (h92 : Γ 92 = some S92) (S : List Sec) (W : List Wr) (hW : W.length ≤ 4096) (hS : S.length ≤ 4096) : BodyOk Tryz.prog Γ Tryz.f37 [.ref 0 0 0] (dskH S W) (.int .i64 (if W.length < 4096 then 0 else 174)) (if W.length < 4096 then dskH (fmtS S W) (fmtW S W) else dskH S W) := by
  have ps := ps90 S W 1
  have rs := rs90 S W 1
  have hs := hs90 S W 1
  have p2 := ps92 S W (leW markR) 0 0
  have r2 := rs92 S W (leW markR) 0 0
  have g2 := hs92 S W (leW markR) 0 0
  have p1 := ps91_0 markR
  have r1 := rs91_0 markR
  have g1 := hs91_0 markR
  rw [show ((markR : Nat) : Int) = 827475011 from rfl] at p1 r1 g1
  rw [leW_len] at p2 r2 g2
  by_cases h : W.length < 4096
  · have d1 : decide ((W.length : Int) + 1 ≤ 4096) = true := decide_eq_true (by omega)
    rw [if_pos h, if_pos h]
    unfold fmtS fmtW
    unfold dskH dskK at *
    (intro X hP hΓ hL hfin; refine ⟨_, rfl, ?_⟩; rw [show Tryz.f37.ntmps = 13 from rfl]; rw [show Tryz.f37.results.toList = [.tmp 2] from rfl] at hfin; refine gxq (cj13 h90 h91 h92 ps rs hs d1 p1 r1 g1 p2 r2 g2) ?_)
    refine ⟨⟨by decide, hW⟩, ⟨by decide, hW, hS⟩, ?_⟩
    exact Into.keep3A
  · have d1 : decide ((W.length : Int) + 1 ≤ 4096) = false := decide_eq_false (by omega)
    rw [if_neg h, if_neg h]
    unfold dskH at *
    (intro X hP hΓ hL hfin; refine ⟨_, rfl, ?_⟩; rw [show Tryz.f37.ntmps = 13 from rfl]; rw [show Tryz.f37.results.toList = [.tmp 2] from rfl] at hfin; refine gxq (cj5 h90 ps rs hs d1) ?_)
    refine ⟨by omega, ?_⟩
    exact Into.sameA
theorem con37 {Γ : Env} (h : EnvOk Tryz.prog Γ) (h90 : Γ 90 = some S90) (h91 : Γ 91 = some S91) (h92 : Γ 92 = some S92) : Con Tryz.prog 37 S37 :=
  heapE_con h (fn := Tryz.f37) (by kernel_rfl) rfl (by kernel_rfl) inj37 fun a h => match a, h with | .c0, _ => body37n Γ | .c1 S W, h => body37 Γ h90 h91 h92 S W h.1 h.2
end Go.Proofs.YtbnnhffkbcekcaaGreatDoor.dirDone
end
