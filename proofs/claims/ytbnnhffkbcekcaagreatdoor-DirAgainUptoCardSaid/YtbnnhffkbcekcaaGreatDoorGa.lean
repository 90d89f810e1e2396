/- Parts of the walk through directories. Conditions stand in each. -/
import Derived.Test.YtbnnhffkbcekcaaGreatDoorFt
import Derived.Test.YtbnnhffkbcekcaaGreatDoorFg
import Derived.Test.YtbnnhffkbcekcaaGreatDoorFe
import Derived.Test.YtbnnhffkbcekcaaGreatDoorFf
import Derived.Test.YtbnnhffkbcekcaaGreatDoorFv
import Derived.Test.YtbnnhffkbcekcaaGreatDoorFu
import Derived.IntWalk
set_option linter.unusedVariables false
set_option linter.unusedSimpArgs false
set_option maxRecDepth 100000
set_option maxHeartbeats 4000000
section
namespace Go.Proofs.YtbnnhffkbcekcaaGreatDoor.dirDone
open Go Go.Eng Go.Proofs
theorem Zq2 (n : Int) : IntKind.u32.wrap n = n % 4294967296 := by simp [IntKind.wrap, IntKind.bits, IntKind.signed]
theorem Z5K (n : Int) (h : 0 ≤ n ∧ n < 4294967296) : IntKind.u32.wrap n = n := by rw [Zq2]; omega
theorem Zrq (x y : Nat) (hx : x < 2 ^ 32) (hy : y < 2 ^ 32) : Z84 .or .u32 ↑x ↑y = ((x ||| y : Nat) : Int) := by
 show IntKind.u32.wrap (((BitVec.ofInt 32 (x : Int) ||| BitVec.ofInt 32 (y : Int)).toNat : Nat) : Int) = _
 rw [BitVec.toNat_or, BitVec.ofInt_natCast, BitVec.ofInt_natCast, BitVec.toNat_ofNat, BitVec.toNat_ofNat, Nat.mod_eq_of_lt hx, Nat.mod_eq_of_lt hy]
 have := Nat.or_lt_two_pow hx hy
 rw [Zq2]; omega
def leV : List UInt8 → Nat
 | [] => 0
 | b :: r => b.toNat + 256 * leV r
theorem ZaZ : ∀ l : List UInt8, leV l < 256 ^ l.length
 | [] => by simp [leV]
 | b :: r => by
  have h1 := ZaZ r
  have h2 := b.toNat_lt
  rw [leV, List.length_cons, Nat.pow_succ]; omega
theorem ZaY (b : UInt8) : ∀ l : List UInt8, leV (l ++ [b]) = leV l + b.toNat * 256 ^ l.length
 | [] => by simp [leV]
 | c :: r => by
  rw [List.cons_append, leV, leV, ZaY b r, List.length_cons, Nat.pow_succ, Nat.mul_add, Nat.mul_comm 256 (b.toNat * _), Nat.mul_assoc]; omega
theorem Zrc (l : List UInt8) (b : UInt8) (h : l.length < 4) : Z84 .or .u32 (leV l : Int) ((b.toNat : Int) * ((2 ^ (8 * l.length) : Nat) : Int)) = (leV (l ++ [b]) : Int) := by
 have h1 := ZaZ l
 have h2 := b.toNat_lt
 have e : (256 : Nat) ^ l.length = 2 ^ (8 * l.length) := by rw [Nat.pow_mul]
 have hle : 2 ^ (8 * l.length) ≤ 2 ^ 24 := Nat.pow_le_pow_right (by omega) (by omega)
 have hmul : b.toNat * 2 ^ (8 * l.length) ≤ 255 * 2 ^ 24 := Nat.mul_le_mul (by omega) hle
 rw [← Int.natCast_mul, Zrq _ _ (by omega) (by omega), ZaY, e, Nat.or_comm, Nat.mul_comm b.toNat, ← Nat.two_pow_add_eq_or_of_lt (by omega), Nat.add_comm]
theorem Zq4 (b : UInt8) (k : Nat) (h : k < 4) : IntKind.u32.wrap ((b.toNat : Int) * 2 ^ (min (8 * (k : Int)).toNat IntKind.u32.bits)) = (b.toNat : Int) * ((2 ^ (8 * k) : Nat) : Int) := by
 have h2 := b.toNat_lt
 rcases (by omega : k = 0 ∨ k = 1 ∨ k = 2 ∨ k = 3) with rfl | rfl | rfl | rfl
 all_goals
  simp [IntKind.bits]
  rw [Zq2]; omega
def ZmZ : (List UInt8) → List AV := fun l => [.sl (l.map Z04) l.length]
def Zr9 : (List UInt8) → Prop := fun l => l.length ≤ 4
def ZqA : (List UInt8) → AV := fun l => .int .u32 (leV l)
def ZrX : (List UInt8) → Z02 := fun l => []
theorem inj116 : ∀ a b, ZmZ a = ZmZ b → a = b := by
 rintro l l' h
 simp only [ZmZ, Z0g, Z0i, Z0k, Z0j, UInt8.toNat_inj, Z0C, List.cons.injEq] at h
 simp_all only
noncomputable def S116 : Z0p := Z5Y ZmZ Zr9 ZqA ZrX true
theorem ZqP (l : List UInt8) : Z5U ZmZ Zr9 [.sl (l.map Z04) l.length] = (l.length ≤ 4) := Z14 inj116 Zr9 l
theorem Zqh (l : List UInt8) : Z2q ZmZ ZqA .any [.sl (l.map Z04) l.length] = (.int .u32 (leV l)) := Z0w inj116 ZqA .any l
theorem ZrC (l : List UInt8) : Z2q ZmZ ZrX [] [.sl (l.map Z04) l.length] = ([]) := Z0w inj116 ZrX [] l
attribute [push_cast] S116 ZqP Zqh ZrC
theorem body116 (Γ : Env) (l : List UInt8) (hl : l.length ≤ 4) : Z08 Tryz.prog Γ Tryz.f116 [.sl (l.map Z04) l.length] [] (.int .u32 (leV l)) [] := by
 have e0 : ((leV [] : Nat) : Int) = 0 := rfl
 refine stt 22 [.tmp 2] fun X hP hΓ hL hfin => ?_; refine Z0G ?_
 refine Z03.loopM (ι := {k : Nat // k ≤ l.length}) [tt,ff,tt,ff,ff,ff,tt,ff,ff,ff,ff,ff,ff,ff,ff,ff,ff,ff,ff,ff,ff,ff] (fun i => [(7, .int .i64 i.1), (3, .int .u32 (leV (l.take i.1)))]) (fun i => []) (fun i => l.length - i.1) ⟨0, Nat.zero_le _⟩ ?_ ?_
 ·(rw [hL]; simp only [push_cast, Int.natCast_zero, e0]; exact Z07.sameA)
 rintro ⟨k, hk⟩
 refine Z0G ?_
 ((with_reducible refine Z0z (fun h => ?_) fun h => ?_) <;> try simp only [fkl, beq_iff_eq, beq_eq_false_iff_ne, ne_eq] at h)
 ·have hk' : k < l.length := by omega
  have w8 : IntKind.i64.wrap (8 * (k : Int)) = 8 * (k : Int) := wrq
  have hb := (l.getD k 0).toNat_lt
  have wb : IntKind.u32.wrap ((l.getD k 0).toNat : Int) = ((l.getD k 0).toNat : Int) := Z5K _ (by omega)
  have hs := Zq4 (l.getD k 0) k (by omega)
  have ht : (l.take k).length = k := by rw [List.length_take]; omega
  have ho := Zrc (l.take k) (l.getD k 0) (by omega)
  rw [ht] at ho
  have e1 : l.take k ++ [l.getD k 0] = l.take (k + 1) := by rw [List.take_succ_eq_append_getElem hk']; simp [List.getD, hk']
  rw [e1] at ho
  generalize hB : ((2 ^ (8 * k) : Nat) : Int) = B at *
  generalize hV : leV (l.take k) = V at *
  generalize hV2 : leV (l.take (k + 1)) = V2 at *
  refine gxq (cj4 w8 wb hs ho) ?_
  refine ⟨by omega, by omega, by omega, ⟨k + 1, hk'⟩, by simp only; omega, ?_⟩
  dsimp only
  rw [Z0u ((k : Int) + 1) (by constructor <;> omega), hV2]
  exact Z07.sameA
 ·obtain rfl : k = l.length := by omega
  rw [List.take_length]
  refine Z0G ?_
  exact Z07.one rfl rfl
theorem con116 {Γ : Env} (h : Z01 Tryz.prog Γ)  : Con Tryz.prog 116 S116 :=
 Z0W h (fn := Tryz.f116) (by kernel_rfl) rfl (by kernel_rfl) inj116 (by first | (intro h; cases h; done) | exact fun _ _ => rfl) fun l h => body116 Γ l h
def getW (l : List UInt8) (i : Nat) : Nat := leV ((l.take (i + 4)).drop i)
theorem Z1X (l : List UInt8) (i : Nat) : getW l i < 4294967296 := by
 have h := ZaZ ((l.take (i + 4)).drop i)
 have hl : ((l.take (i + 4)).drop i).length ≤ 4 := by rw [List.length_drop, List.length_take]; omega
 have := Nat.pow_le_pow_right (show 0 < 256 by decide) hl
 have e : (256 : Nat) ^ 4 = 4294967296 := by decide
 unfold getW; omega
def e64 : List UInt8 × Int → List AV := fun (l, i) => [.sl (l.map Z04) l.length, .int .i64 i]
def p64 : List UInt8 × Int → Prop := fun (l, i) => 0 ≤ i ∧ i + 4 ≤ (l.length : Int) ∧ l.length ≤ 4194304
def r64 : List UInt8 × Int → AV := fun (l, i) => .tup [.int .u32 (getW l i.toNat), .bool true]
def g64 : List UInt8 × Int → Z02 := fun (l, i) => []
theorem inj64 : ∀ a b, e64 a = e64 b → a = b := by
 rintro ⟨l, i⟩ ⟨l', i'⟩ h
 simp only [e64, Z0g, Z0i, Z0k, Z0j, UInt8.toNat_inj, Z0C, List.cons.injEq] at h
 simp_all only
noncomputable def S64 : Z0p := Z5Y e64 p64 r64 g64 true
theorem ps64 (l : List UInt8) (i : Int) : Z5U e64 p64 [.sl (l.map Z04) l.length, .int .i64 i] = (0 ≤ i ∧ i + 4 ≤ (l.length : Int) ∧ l.length ≤ 4194304) := Z14 inj64 p64 (l, i)
theorem rs64 (l : List UInt8) (i : Int) : Z2q e64 r64 .any [.sl (l.map Z04) l.length, .int .i64 i] = (.tup [.int .u32 (getW l i.toNat), .bool true]) := Z0w inj64 r64 .any (l, i)
theorem hs64 (l : List UInt8) (i : Int) : Z2q e64 g64 [] [.sl (l.map Z04) l.length, .int .i64 i] = ([]) := Z0w inj64 g64 [] (l, i)
attribute [push_cast] S64 ps64 rs64 hs64
theorem body64 (Γ : Env) (h116 : Γ 116 = some S116) (l : List UInt8) (i : Nat) (h : i + 4 ≤ l.length) (hl : l.length ≤ 4194304) : Z08 Tryz.prog Γ Tryz.f64 [.sl (l.map Z04) l.length, .int .i64 i] [] (.tup [.int .u32 (getW l i), .bool true]) [] := by
 have d1 : decide ((i : Int) < 0) = false := decide_eq_false (by omega)
 have w1 : IntKind.i64.wrap ((l.length : Int) - 4) = (l.length : Int) - 4 := wrq
 have w2 : IntKind.i64.wrap ((i : Int) + 4) = ((i + 4 : Nat) : Int) := by rw [Z0u _ (by constructor <;> omega)]; omega
 have d2 : decide ((l.length : Int) - 4 < (i : Int)) = false := decide_eq_false (by omega)
 have hlen : ((l.take (i + 4)).drop i).length = 4 := by rw [List.length_drop, List.length_take]; omega
 have h4 : ((l.take (i + 4)).drop i).length ≤ 4 := by omega
 unfold getW
 have e1 : List.drop i (List.take (i + 4) (l.map Z04)) = ((l.take (i + 4)).drop i).map Z04 := by rw [List.map_drop, List.map_take]
 have e2 : i + 4 - i = ((l.take (i + 4)).drop i).length := by omega
 generalize hs : (l.take (i + 4)).drop i = s at *
 generalize hj : i + 4 = j at *
 refine stt 21 [.tmp 4, .tmp 5] fun X hP hΓ hL hfin => ?_; refine gxq (cj8 d1 d2 w1 w2 e1 e2 h116 h4) ?_
 exact ⟨⟨by omega, by omega, by omega⟩, Z07.one rfl rfl⟩
theorem con64 {Γ : Env} (h : Z01 Tryz.prog Γ) (h116 : Γ 116 = some S116) : Con Tryz.prog 64 S64 :=
 Z0W h (fn := Tryz.f64) (by kernel_rfl) rfl (by kernel_rfl) inj64 (by first | (intro h; cases h; done) | exact fun _ _ => rfl) fun ⟨l, i⟩ h => by
  obtain ⟨n, rfl⟩ := Int.eq_ofNat_of_zero_le h.1
  exact body64 Γ h116 l n (by have := h.2.1; omega) h.2.2
def Zn0 : List UInt8 × Int → List AV := fun (l, i) => [.sl (l.map Z04) l.length, .int .i64 i]
def Zra : List UInt8 × Int → Prop := fun (l, i) => 0 ≤ i ∧ 4 * i + 4 ≤ (l.length : Int) ∧ l.length ≤ 4194304
def ZqB : List UInt8 × Int → AV := fun (l, i) => .int .u32 (getW l (4 * i).toNat)
def ZrY : List UInt8 × Int → Z02 := fun (l, i) => []
theorem inj113 : ∀ a b, Zn0 a = Zn0 b → a = b := by
 rintro ⟨l, i⟩ ⟨l', i'⟩ h
 simp only [Zn0, Z0g, Z0i, Z0k, Z0j, UInt8.toNat_inj, Z0C, List.cons.injEq] at h
 simp_all only
noncomputable def S113 : Z0p := Z5Y Zn0 Zra ZqB ZrY true
theorem ZqQ (l : List UInt8) (i : Int) : Z5U Zn0 Zra [.sl (l.map Z04) l.length, .int .i64 i] = (0 ≤ i ∧ 4 * i + 4 ≤ (l.length : Int) ∧ l.length ≤ 4194304) := Z14 inj113 Zra (l, i)
theorem ZnQ (l : List UInt8) (i : Int) : Z2q Zn0 ZqB .any [.sl (l.map Z04) l.length, .int .i64 i] = (.int .u32 (getW l (4 * i).toNat)) := Z0w inj113 ZqB .any (l, i)
theorem ZrD (l : List UInt8) (i : Int) : Z2q Zn0 ZrY [] [.sl (l.map Z04) l.length, .int .i64 i] = ([]) := Z0w inj113 ZrY [] (l, i)
attribute [push_cast] S113 ZqQ ZnQ ZrD
theorem body113 (Γ : Env) (h64 : Γ 64 = some S64) (l : List UInt8) (i : Int) (h0 : 0 ≤ i) (h : 4 * i + 4 ≤ (l.length : Int)) (hl : l.length ≤ 4194304) : Z08 Tryz.prog Γ Tryz.f113 [.sl (l.map Z04) l.length, .int .i64 i] [] (.int .u32 (getW l (4 * i).toNat)) [] := by
 have w1 : IntKind.i64.wrap (4 * i) = 4 * i := wrq
 have p1 : (0 : Int) ≤ 4 * i := by omega
 refine stt 15 [.tmp 4] fun X hP hΓ hL hfin => ?_; refine gxq (cj5 w1 h64 p1 h hl) ?_
 exact Z07.one rfl rfl
theorem con113 {Γ : Env} (h : Z01 Tryz.prog Γ) (h64 : Γ 64 = some S64) : Con Tryz.prog 113 S113 :=
 Z0W h (fn := Tryz.f113) (by kernel_rfl) rfl (by kernel_rfl) inj113 (by first | (intro h; cases h; done) | exact fun _ _ => rfl) fun ⟨l, i⟩ h => body113 Γ h64 l i h.1 h.2.1 h.2.2
abbrev Sec : Type := { l : List UInt8 // l.length = 1024 }
def Z2E (s : Sec) : List AV := s.1.map Z04
instance : Z28 Z2E := ⟨fun s => by simp only [Z2E, Z1c], fun s => by simp only [Z2E]; exact Z4A _⟩
instance : Z27 Z2E 1024 := ⟨fun s => by rw [Z2E, List.length_map, s.2]⟩
instance : Inhabited Sec := ⟨⟨List.replicate 1024 0, List.length_replicate⟩⟩
abbrev Wr : Type := Int × Sec
def wrC (w : Wr) : List AV := .int .i64 w.1 :: w.2.1.map Z04
instance : Z28 wrC := ⟨fun w => by simp only [wrC, Z1O, Z0v, Z1c, Bool.and_self], fun w => by simp only [wrC, Z0b]; exact Z4A _⟩
instance : Z27 wrC 1025 := ⟨fun w => by rw [wrC, List.length_cons, List.length_map, w.2.2]⟩
instance : Inhabited Wr := ⟨(0, default)⟩
theorem Zcz (a b : Sec) (h : Z2E a = Z2E b) : a = b := Subtype.ext (Z0j.1 h)
theorem ZnD (a b : Wr) (h : wrC a = wrC b) : a = b := by
 obtain ⟨n, s⟩ := a
 obtain ⟨k, t⟩ := b
 simp only [wrC, List.cons.injEq, AV.int.injEq, true_and] at h
 rw [h.1, Zcz s t h.2]
theorem Z09 {S T : List Sec} : S.flatMap Z2E = T.flatMap Z2E ↔ S = T := ⟨Zb2 (n := 1024) Zcz (fun s => Z27.len s) (by decide), fun h => by rw [h]⟩
theorem Z0c {S T : List Wr} : S.flatMap wrC = T.flatMap wrC ↔ S = T := ⟨Zb2 (n := 1025) ZnD (fun s => Z27.len s) (by decide), fun h => by rw [h]⟩
def Z0s (S : List Sec) (W : List Wr) : Z02 := [.row [.msl 1 0 0 S.length, .msl 2 W.length 0 W.length] 2 0, .row (S.flatMap Z2E) 1024 0, .row (W.flatMap wrC) 1025 W.length]
def k31 : List Sec × List Wr → Ct := fun (S, W) => ⟨([.ref 0 0 0], Z0s S W), True, .int .i64 S.length, Z0s S W⟩
theorem inj31 : ∀ a b, (k31 a).a = (k31 b).a → a = b := by
 rintro ⟨S, W⟩ ⟨S', W'⟩ h
 simp only [k31, Z0g, Z0i, Z0k, Z0j, UInt8.toNat_inj, Z09, Z0c, Z0s, Z0C, List.cons.injEq] at h
 simp_all only
noncomputable def S31 : Z0p := Z0V true k31
theorem ks31 (S : List Sec) (W : List Wr) : KS k31 ([.ref 0 0 0], Z0s S W) (True) (.int .i64 S.length) (Z0s S W) := kat inj31 (S, W)
attribute [push_cast] S31 ks31
theorem body31 (Γ : Env) (S : List Sec) (W : List Wr) : Z08 Tryz.prog Γ Tryz.f31 [.ref 0 0 0] (Z0s S W) (.int .i64 S.length) (Z0s S W) := by
 unfold Z0s
 refine stt 10 [.tmp 2] fun X hP hΓ hL hfin => ?_; refine Z0G ?_
 exact Z07.sameA
theorem con31 {Γ : Env} (h : Z01 Tryz.prog Γ)  : Con Tryz.prog 31 S31 :=
 kcn h (fn := Tryz.f31) inj31 fun ⟨S, W⟩ _ => body31 Γ S W
def k115 : List Sec × List Wr × Int → Ct := fun (S, W, n) => ⟨([.ref 0 0 0, .int .i64 n], Z0s S W), True, .int .i64 (if 0 ≤ n ∧ n < S.length then 0 else 31), Z0s S W⟩
theorem inj115 : ∀ a b, (k115 a).a = (k115 b).a → a = b := by
 rintro ⟨S, W, n⟩ ⟨S', W', n'⟩ h
 simp only [k115, Z0g, Z0i, Z0k, Z0j, UInt8.toNat_inj, Z09, Z0c, Z0s, Z0C, List.cons.injEq] at h
 simp_all only
noncomputable def S115 : Z0p := Z0V true k115
theorem ks115 (S : List Sec) (W : List Wr) (n : Int) : KS k115 ([.ref 0 0 0, .int .i64 n], Z0s S W) (True) (.int .i64 (if 0 ≤ n ∧ n < S.length then 0 else 31)) (Z0s S W) := kat inj115 (S, W, n)
attribute [push_cast] S115 ks115
theorem body115 (Γ : Env) (S : List Sec) (W : List Wr) (n : Int) : Z08 Tryz.prog Γ Tryz.f115 [.ref 0 0 0, .int .i64 n] (Z0s S W) (.int .i64 (if 0 ≤ n ∧ n < S.length then 0 else 31)) (Z0s S W) := by
 unfold Z0s
 by_cases h : 0 ≤ n ∧ n < S.length
 ·have d1 : (decide (n < 0) || decide ((S.length : Int) ≤ n)) = false := by
   rw [Bool.eq_false_iff]; intro h'; simp only [Bool.or_eq_true, decide_eq_true_eq] at h'; omega
  rw [if_pos h]
  refine stt 20 [.tmp 4] fun X hP hΓ hL hfin => ?_; refine gxq d1 ?_
  exact Z07.sameA
 ·have d1 : (decide (n < 0) || decide ((S.length : Int) ≤ n)) = true := by
   simp only [Bool.or_eq_true, decide_eq_true_eq]; omega
  rw [if_neg h]
  refine stt 20 [.tmp 4] fun X hP hΓ hL hfin => ?_; refine gxq d1 ?_
  exact Z07.sameA
theorem con115 {Γ : Env} (h : Z01 Tryz.prog Γ)  : Con Tryz.prog 115 S115 :=
 kcn h (fn := Tryz.f115) inj115 fun ⟨S, W, n⟩ _ => body115 Γ S W n
theorem za121 : zeroA Tryz.prog 121 = .agg (Z2E default) := by kernel_rfl
theorem Zmv : Z1d Tryz.prog 121 := by unfold Z1d; kernel_rfl
def rdA (S : List Sec) (n : Int) : AV := if 0 ≤ n ∧ n < S.length then .tup [.sl ((S.getD n.toNat default).1.map Z04) (S.getD n.toNat default).1.length, .int .i64 0] else .tup [.sl [] 0, .int .i64 31]
def k62 : List Sec × List Wr × Int → Ct := fun (S, W, n) => ⟨([.ref 0 0 0, .int .i64 n], Z0s S W), True, rdA S n, Z0s S W⟩
theorem inj62 : ∀ a b, (k62 a).a = (k62 b).a → a = b := by
 rintro ⟨S, W, n⟩ ⟨S', W', n'⟩ h
 simp only [k62, Z0g, Z0i, Z0k, Z0j, UInt8.toNat_inj, Z09, Z0c, Z0s, Z0C, List.cons.injEq] at h
 simp_all only
noncomputable def S62 : Z0p := Z0V true k62
theorem ks62 (S : List Sec) (W : List Wr) (n : Int) : KS k62 ([.ref 0 0 0, .int .i64 n], Z0s S W) (True) (rdA S n) (Z0s S W) := kat inj62 (S, W, n)
attribute [push_cast] S62 ks62
theorem body62 (Γ : Env) (h115 : Γ 115 = some S115) (S : List Sec) (W : List Wr) (n : Int) : Z08 Tryz.prog Γ Tryz.f62 [.ref 0 0 0, .int .i64 n] (Z0s S W) (rdA S n) (Z0s S W) := by
 have ⟨ps, rs, hs⟩ := ks115 S W n
 unfold rdA
 unfold Z0s at *
 by_cases h : 0 ≤ n ∧ n < S.length
 ·obtain ⟨k, rfl⟩ := Int.eq_ofNat_of_zero_le h.1
  have hk : k < S.length := by omega
  rw [if_pos h] at rs ⊢
  refine stt 22 [.tmp 4, .tmp 5] fun X hP hΓ hL hfin => ?_; refine gmq 12 (cj7 h115 ps rs hs @za121 @Zmv hk) ?_
  have hm : (k + 1) * 1024 ≤ S.length * 1024 := Nat.mul_le_mul_right _ hk
  refine ⟨by decide, by omega, ⟨by omega, by omega⟩, ?_⟩
  refine Z03.frz 3 (by rw [hL]; simp) smf (gsq ?_)
  refine Z0G ?_
  have e : AV.sl (Z2E (S.getD k default)) 1024 = AV.sl ((S.getD k default).1.map Z04) (S.getD k default).1.length := by rw [(S.getD k default).2]; rfl
  rw [e]
  exact Z07.keep3A
 ·rw [if_neg h] at rs ⊢
  refine stt 22 [.tmp 4, .tmp 5] fun X hP hΓ hL hfin => ?_; refine gxq (cj4 h115 ps rs hs) ?_
  refine ⟨by decide, ?_⟩
  refine Z0o.soft ?_
  simp only [push_cast]
  exact Z07.sameA
theorem con62 {Γ : Env} (h : Z01 Tryz.prog Γ) (h115 : Γ 115 = some S115) : Con Tryz.prog 62 S62 :=
 kcn h (fn := Tryz.f62) inj62 fun ⟨S, W, n⟩ _ => body62 Γ h115 S W n
theorem za123 : zeroA Tryz.prog 123 = .agg (wrC default) := by kernel_rfl
theorem ZoN : Z1d Tryz.prog 123 := by unfold Z1d; kernel_rfl
theorem wr0 (w : Wr) (d : AV) : (wrC w).getD 0 d = .int .i64 w.1 := rfl
def wns (W : List Wr) : List Int := W.map Prod.fst
def k23 : List Sec × List Wr → Ct := fun (S, W) => ⟨([.ref 0 0 0], Z0s S W), W.length ≤ 4194304, .sl ((wns W).map (AV.int .i64)) (wns W).length, Z0s S W⟩
theorem inj23 : ∀ a b, (k23 a).a = (k23 b).a → a = b := by
 rintro ⟨S, W⟩ ⟨S', W'⟩ h
 simp only [k23, Z0g, Z0i, Z0k, Z0j, UInt8.toNat_inj, Z09, Z0c, Z0s, Z0C, List.cons.injEq] at h
 simp_all only
noncomputable def S23 : Z0p := Z0V true k23
theorem ks23 (S : List Sec) (W : List Wr) : KS k23 ([.ref 0 0 0], Z0s S W) (W.length ≤ 4194304) (.sl ((wns W).map (AV.int .i64)) (wns W).length) (Z0s S W) := kat inj23 (S, W)
attribute [push_cast] S23 ks23
theorem body23 (Γ : Env) (S : List Sec) (W : List Wr) (hW : W.length ≤ 4194304) : Z08 Tryz.prog Γ Tryz.f23 [.ref 0 0 0] (Z0s S W) (.sl ((wns W).map (AV.int .i64)) (wns W).length) (Z0s S W) := by
 unfold Z0s
 refine stt 24 [.tmp 2] fun X hP hΓ hL hfin => ?_; refine Z0G ?_
 refine Z03.loopM (ι := {k : Nat // k ≤ W.length}) [ff,ff,tt,ff,ff,ff,ff,ff,ff,ff,ff,tt,tt,ff,ff,ff,ff,ff,ff,ff,ff,ff,ff,ff] (fun i => [(13, .int .i64 i.1), (3, .msl 3 0 0 i.1)]) (fun i => [.row [.msl 1 0 0 S.length, .msl 2 W.length 0 W.length] 2 0, .row (S.flatMap Z2E) 1024 0, .row (W.flatMap wrC) 1025 W.length, .row ((wns (W.take i.1)).map (AV.int .i64)) 1 0]) (fun i => W.length - i.1) ⟨0, Nat.zero_le _⟩ ?_ ?_
 ·rw [hL]; simp only [push_cast, Int.natCast_zero, wns]
  refine Z0o.nil 3  1 rfl (gsq ?_)
  exact Z07.sameA
 rintro ⟨k, hk⟩
 refine Z0G ?_
 ((with_reducible refine Z0z (fun h => ?_) fun h => ?_) <;> try simp only [fkl, beq_iff_eq, beq_eq_false_iff_ne, ne_eq] at h)
 ·have hk' : k < W.length := by omega
  have e1 : wns (W.take (k + 1)) = wns (W.take k) ++ [(W.getD k default).1] := by
   unfold wns
   rw [List.take_succ_eq_append_getElem hk', List.map_append]
   simp [List.getD, hk']
  have hm : (k + 1) * 1025 ≤ W.length * 1025 := Nat.mul_le_mul_right _ hk'
  have hl1 : (wns (W.take k)).length = k := by unfold wns; rw [List.length_map, List.length_take]; omega
  refine gxq (cj4 hk' @za123 @ZoN @wr0) ?_
  refine ⟨by omega, ⟨by omega, by omega⟩, ⟨hl1, by omega⟩, ⟨k + 1, hk'⟩, by simp only; omega, ?_⟩
  dsimp only
  rw [Z0u ((k : Int) + 1) (by constructor <;> omega), e1, List.map_append]
  refine Z0o.ver 3  0 sm smv (gsq ?_)
  exact Z07.keep4A
 ·obtain rfl : k = W.length := by omega
  rw [List.take_length]
  have hl1 : (wns W).length = W.length := by unfold wns; rw [List.length_map]
  refine Z0G ?_
  refine Z0o.frz 3 smo smf (gsq ?_)
  rw [← hl1, Zam]
  exact Z07.keep3A
theorem con23 {Γ : Env} (h : Z01 Tryz.prog Γ)  : Con Tryz.prog 23 S23 :=
 kcn h (fn := Tryz.f23) inj23 fun ⟨S, W⟩ h => body23 Γ S W h
theorem Zkx (w : Wr) : (wrC w).length = 1025 := Z27.len w
theorem ZlI (w : Wr) : List.drop 1024 (List.drop 1 (wrC w)) = [] := by rw [List.drop_drop, List.drop_eq_nil_of_le]; rw [Zkx]; decide
theorem ZpZ (n : Int) (s : Sec) : AV.int .i64 n :: Z2E s = wrC (n, s) := rfl
theorem ZmF {α : Type} {g : α → List AV} (l : List α) (x : α) : (l ++ [x]).flatMap g = l.flatMap g ++ g x := by simp
theorem Z3c {α : Type} {g : α → List AV} {n : Nat} [Z27 g n] (l : List α) (k : Nat) (x : α) (hk : k < l.length) : (l.flatMap g).take (k * n) ++ g x ++ (l.flatMap g).drop (k * n + n) = (l.set k x).flatMap g := by
 have e : l.set k x = l.take k ++ x :: l.drop (k + 1) := by rw [List.set_eq_take_append_cons_drop, if_pos hk]
 rw [Z21, show k * n + n = (k + 1) * n by rw [Nat.succ_mul], Z10, e]
 simp only [List.flatMap_append, List.flatMap_cons, List.append_assoc]
def Z2o (b : List UInt8) : Sec := if h : b.length = 1024 then ⟨b, h⟩ else default
theorem Z4N {b : List UInt8} (h : b.length = 1024) : (Z2o b).1 = b := by rw [Z2o, dif_pos h]
def wrE (S : List Sec) (W : List Wr) (n : Int) (b : List UInt8) : Int := if ¬ (0 ≤ n ∧ n < S.length) then 31 else if b.length ≠ 1024 then 32 else if W.length = 4096 then 33 else 0
def wrS (S : List Sec) (W : List Wr) (n : Int) (b : List UInt8) : List Sec := if wrE S W n b = 0 then S.set n.toNat (Z2o b) else S
def wrW (S : List Sec) (W : List Wr) (n : Int) (b : List UInt8) : List Wr := if wrE S W n b = 0 then W ++ [(n, S.getD n.toNat default)] else W
def k61 : List Sec × List Wr × Int × List UInt8 → Ct := fun (S, W, n, b) => ⟨([.ref 0 0 0, .int .i64 n, .sl (b.map Z04) b.length], Z0s S W), W.length ≤ 4096 ∧ S.length ≤ 4096, .int .i64 (wrE S W n b), Z0s (wrS S W n b) (wrW S W n b)⟩
theorem inj61 : ∀ a b, (k61 a).a = (k61 b).a → a = b := by
 rintro ⟨S, W, n, b⟩ ⟨S', W', n', b'⟩ h
 simp only [k61, Z0g, Z0i, Z0k, Z0j, UInt8.toNat_inj, Z09, Z0c, Z0s, Z0C, List.cons.injEq] at h
 simp_all only
noncomputable def S61 : Z0p := Z0V true k61
theorem ks61 (S : List Sec) (W : List Wr) (n : Int) (b : List UInt8) : KS k61 ([.ref 0 0 0, .int .i64 n, .sl (b.map Z04) b.length], Z0s S W) (W.length ≤ 4096 ∧ S.length ≤ 4096) (.int .i64 (wrE S W n b)) (Z0s (wrS S W n b) (wrW S W n b)) := kat inj61 (S, W, n, b)
attribute [push_cast] S61 ks61
theorem body61 (Γ : Env) (h115 : Γ 115 = some S115) (S : List Sec) (W : List Wr) (n : Int) (b : List UInt8) (hW : W.length ≤ 4096) (hS : S.length ≤ 4096) : Z08 Tryz.prog Γ Tryz.f61 [.ref 0 0 0, .int .i64 n, .sl (b.map Z04) b.length] (Z0s S W) (.int .i64 (wrE S W n b)) (Z0s (wrS S W n b) (wrW S W n b)) := by
 have ⟨ps, rs, hs⟩ := ks115 S W n
 unfold wrS wrW
 by_cases h : 0 ≤ n ∧ n < S.length
 case neg =>
  have e : wrE S W n b = 31 := by unfold wrE; rw [if_pos h]
  rw [e, if_neg (by decide), if_neg (by decide)]
  unfold Z0s at *
  rw [if_neg h] at rs
  refine stt 56 [.tmp 6] fun X hP hΓ hL hfin => ?_; refine gxq (cj4 h115 ps rs hs) ?_
  refine ⟨by decide, ?_⟩
  exact Z07.sameA
 by_cases hb : b.length = 1024
 case neg =>
  have e : wrE S W n b = 32 := by unfold wrE; rw [if_neg (fun h' => h' h), if_pos hb]
  rw [e, if_neg (by decide), if_neg (by decide)]
  unfold Z0s at *
  rw [if_pos h] at rs
  have db : decide ((b.length : Int) = 1024) = false := decide_eq_false (by omega)
  refine stt 56 [.tmp 6] fun X hP hΓ hL hfin => ?_; refine gxq (cj5 h115 ps rs hs db) ?_
  refine ⟨by decide, ?_⟩
  exact Z07.sameA
 by_cases hw : W.length = 4096
 ·have e : wrE S W n b = 33 := by unfold wrE; rw [if_neg (fun h' => h' h), if_neg (fun h' => h' hb), if_pos hw]
  rw [e, if_neg (by decide), if_neg (by decide)]
  unfold Z0s at *
  rw [if_pos h] at rs
  have db : decide ((b.length : Int) = 1024) = true := decide_eq_true (by omega)
  have dw : decide ((W.length : Int) = 4096) = true := decide_eq_true (by omega)
  refine stt 56 [.tmp 6] fun X hP hΓ hL hfin => ?_; refine gxq (cj6 h115 ps rs hs db dw) ?_
  refine ⟨by decide, ?_⟩
  exact Z07.sameA
 have e : wrE S W n b = 0 := by unfold wrE; rw [if_neg (fun h' => h' h), if_neg (fun h' => h' hb), if_neg hw]
 rw [e, if_pos rfl, if_pos rfl]
 unfold Z0s at *
 rw [if_pos h] at rs
 obtain ⟨k, rfl⟩ := Int.eq_ofNat_of_zero_le h.1
 have hk : k < S.length := by omega
 have db : decide ((b.length : Int) = 1024) = true := decide_eq_true (by omega)
 have dw : decide ((W.length : Int) = 4096) = false := decide_eq_false (by omega)
 refine stt 56 [.tmp 6] fun X hP hΓ hL hfin => ?_; refine gxq (cj7 h115 ps rs hs db dw hk) ?_
 refine ⟨by decide, ?_⟩
 refine Z03.dE (Z1w [.fix (.row [.msl 1 0 0 S.length, .msl 2 W.length 0 W.length] 2 0), .fix (.row (S.flatMap Z2E) 1024 0)]) [1, 2, 3, 4, 5, 6, 7, 8, 9, 10, 11, 12, 15, 18] [] [] true (gyq (cj6 hk @za123 @ZoN @Zkx @ZlI @ZpZ) ?_)
 have hm : (k + 1) * 1024 ≤ S.length * 1024 := Nat.mul_le_mul_right _ hk
 refine ⟨by omega, ⟨by omega, by omega⟩, by omega, ?_⟩
 refine Z0G ?_
 refine Z03.dE (Z1w [.fix (.row [.msl 1 0 0 S.length, .msl 2 (W.length + 1) 0 (W.length + 1)] 2 0), .row 1024 0]) [0, 1, 2, 3, 4, 5, 7, 8, 9] [] [] true (gyq hk ?_)
 have ho : Z0b (List.take 1024 (List.map Z04 b)) = true := by rw [← List.map_take]; exact Z4A _
 refine ⟨⟨by omega, by omega⟩, by omega, by omega, ⟨by omega, by omega, by omega, ho⟩, ?_⟩
 refine Z0G ?_
 have e3 : min 1024 b.length = 1024 := by omega
 have e4 : List.take 1024 (List.map Z04 b) = Z2E (Z2o b) := by
  rw [List.take_of_length_le (by rw [List.length_map]; omega), Z2E, Z4N hb]
 rw [e3, e4, Z3c S k (Z2o b) hk, ← ZmF, List.length_set]
 exact Z07.sameA
theorem con61 {Γ : Env} (h : Z01 Tryz.prog Γ) (h115 : Γ 115 = some S115) : Con Tryz.prog 61 S61 :=
 kcn h (fn := Tryz.f61) inj61 fun ⟨S, W, n, b⟩ h => body61 Γ h115 S W n b h.1 h.2
def Z1b (S : List Sec) (W : List Wr) : Z02 := [.row [.msl 2 0 0 S.length, .msl 3 W.length 0 W.length] 2 0, .row (S.flatMap Z2E) 1024 0, .row (W.flatMap wrC) 1025 W.length]
def k90 : List Sec × List Wr × Int → Ct := fun (S, W, n) => ⟨([.ref 0 0 0, .int .i64 n], Z0s S W), W.length ≤ 4096 ∧ -1000000 ≤ n ∧ n ≤ 1000000, .bool (decide ((W.length : Int) + n ≤ 4096)), Z0s S W⟩
theorem inj90 : ∀ a b, (k90 a).a = (k90 b).a → a = b := by
 rintro ⟨S, W, n⟩ ⟨S', W', n'⟩ h
 simp only [k90, Z0g, Z0i, Z0k, Z0j, UInt8.toNat_inj, Z09, Z0c, Z0s, Z1b, Z0C, List.cons.injEq] at h
 simp_all only
noncomputable def S90 : Z0p := Z0V true k90
theorem ks90 (S : List Sec) (W : List Wr) (n : Int) : KS k90 ([.ref 0 0 0, .int .i64 n], Z0s S W) (W.length ≤ 4096 ∧ -1000000 ≤ n ∧ n ≤ 1000000) (.bool (decide ((W.length : Int) + n ≤ 4096))) (Z0s S W) := kat inj90 (S, W, n)
attribute [push_cast] S90 ks90
theorem body90 (Γ : Env) (h23 : Γ 23 = some S23) (S : List Sec) (W : List Wr) (n : Int) (hW : W.length ≤ 4096) (hn : -1000000 ≤ n ∧ n ≤ 1000000) : Z08 Tryz.prog Γ Tryz.f90 [.ref 0 0 0, .int .i64 n] (Z0s S W) (.bool (decide ((W.length : Int) + n ≤ 4096))) (Z0s S W) := by
 have ⟨ps, rs, hs⟩ := ks23 S W
 have hl : (wns W).length = W.length := by unfold wns; rw [List.length_map]
 unfold Z0s at *
 refine stt 11 [.tmp 4] fun X hP hΓ hL hfin => ?_; refine gxq (cj5 h23 ps rs hs hl) ?_
 refine ⟨by omega, ?_⟩
 rw [Z0u _ (by constructor <;> omega)]
 exact Z07.sameA
theorem con90 {Γ : Env} (h : Z01 Tryz.prog Γ) (h23 : Γ 23 = some S23) : Con Tryz.prog 90 S90 :=
 kcn h (fn := Tryz.f90) inj90 fun ⟨S, W, n⟩ h => body90 Γ h23 S W n h.1 h.2
def ZkT (n : Int) : List Sec := List.replicate n.toNat default
def k49 : Int → Ct := fun n => ⟨([.int .i64 n], []), True, if 8 ≤ n ∧ n ≤ 1024 then .tup [.ref 0 0 0, .int .i64 0] else .tup [.lit (.pointer none), .int .i64 30], if 8 ≤ n ∧ n ≤ 1024 then Z0s (ZkT n) [] else []⟩
theorem inj49 : ∀ a b, (k49 a).a = (k49 b).a → a = b := by
 rintro n n' h
 simp only [k49, Z0g, Z0i, Z0k, Z0j, UInt8.toNat_inj, Z09, Z0c, Z0s, Z1b, Z0C, List.cons.injEq] at h
 simp_all only
noncomputable def S49 : Z0p := Z0V true k49
theorem ks49 (n : Int) : KS k49 ([.int .i64 n], []) (True) (if 8 ≤ n ∧ n ≤ 1024 then .tup [.ref 0 0 0, .int .i64 0] else .tup [.lit (.pointer none), .int .i64 30]) (if 8 ≤ n ∧ n ≤ 1024 then Z0s (ZkT n) [] else []) := kat inj49 n
attribute [push_cast] S49 ks49
theorem ZjL (n : Int) : (ZkT n).length = n.toNat := List.length_replicate
theorem Z5G {α : Type} {g : α → List AV} (x : α) : ∀ n : Nat, (List.replicate n x).flatMap g = reps n (g x)
 | 0 => rfl
 | n + 1 => by rw [List.replicate_succ, List.flatMap_cons, Z5G x n]; rfl
theorem body49 (Γ : Env) (n : Int) : Z08 Tryz.prog Γ Tryz.f49 [.int .i64 n] [] (if 8 ≤ n ∧ n ≤ 1024 then .tup [.ref 0 0 0, .int .i64 0] else .tup [.lit (.pointer none), .int .i64 30]) (if 8 ≤ n ∧ n ≤ 1024 then Z0s (ZkT n) [] else []) := by
 by_cases h : 8 ≤ n ∧ n ≤ 1024
 ·have d1 : (decide (n < 8) || decide ((1024 : Int) < n)) = false := by
   rw [Bool.eq_false_iff]; intro h'; simp only [Bool.or_eq_true, decide_eq_true_eq] at h'; omega
  rw [if_pos h, if_pos h]
  unfold Z0s
  refine stt 14 [.tmp 2, .tmp 3] fun X hP hΓ hL hfin => ?_; refine gxq (cj3 d1 @za121 @Zmv) ?_
  refine ⟨⟨by omega, by omega, by omega⟩, ?_⟩
  refine Z0o.nilH 1 1 1025 rfl rfl ?_
  simp only [push_cast, ZjL]
  rw [show (List.replicate n.toNat (Z2E default)).flatten = (ZkT n).flatMap Z2E from (Z5G default n.toNat).symm]
  rw [List.flatMap_nil]
  exact Z0o.base [1, 0, 2] ⟨sml, smr, (by decide), (by first | rfl | decide), sm, sm⟩ smd
 ·have d1 : (decide (n < 8) || decide ((1024 : Int) < n)) = true := by
   simp only [Bool.or_eq_true, decide_eq_true_eq]; omega
  rw [if_neg h, if_neg h]
  refine stt 14 [.tmp 2, .tmp 3] fun X hP hΓ hL hfin => ?_; refine gxq d1 ?_
  exact Z07.sameA
theorem con49 {Γ : Env} (h : Z01 Tryz.prog Γ)  : Con Tryz.prog 49 S49 :=
 kcn h (fn := Tryz.f49) inj49 fun n _ => body49 Γ n
def q8 (n : Nat) : Nat := n / 256
def q16 (n : Nat) : Nat := n / 65536
def q24 (n : Nat) : Nat := n / 16777216
def leW (w : Nat) : List UInt8 := [UInt8.ofNat w, UInt8.ofNat (q8 w), UInt8.ofNat (q16 w), UInt8.ofNat (q24 w)]
theorem Z0O (w : Nat) : (leW w).length = 4 := rfl
theorem Z7z (n : Nat) : IntKind.u8.wrap (n : Int) = ((UInt8.ofNat n).toNat : Int) := by
 rw [show IntKind.u8.wrap (n : Int) = ((n % 256 : Nat) : Int) by simp [IntKind.wrap, IntKind.bits, IntKind.signed]]; congr 1
theorem Z7J (n s : Nat) : (n : Int).fdiv (2 ^ s) = ((n / 2 ^ s : Nat) : Int) := by
 rw [Int.fdiv_eq_ediv_of_nonneg _ (by exact Int.le_of_lt (Int.pow_pos (by omega)))]
 simp
theorem sh8 (w : Nat) : (w : Int).fdiv (2 ^ min (Int.toNat 8) IntKind.u32.bits) = (q8 w : Int) := Z7J w 8
theorem sh16 (w : Nat) : (w : Int).fdiv (2 ^ min (Int.toNat 16) IntKind.u32.bits) = (q16 w : Int) := Z7J w 16
theorem sh24 (w : Nat) : (w : Int).fdiv (2 ^ min (Int.toNat 24) IntKind.u32.bits) = (q24 w : Int) := Z7J w 24
inductive A91 where
 | c0 (w : Nat)
 | c1 (w : Nat) (p : List UInt8) (v : Nat)
def e91 : A91 → List AV × Z02
 | .c0 w => ([.lit (.slice none 0 0), .int .u32 w], [])
 | .c1 w p v => ([.msl 0 v 0 p.length, .int .u32 w], [.row (p.map Z04) 1 v])
def p91 : A91 → Prop
 | .c0 w => True
 | .c1 w p v => p.length ≤ 1000000
def r91 : A91 → AV
 | .c0 w => .msl 0 0 0 4
 | .c1 w p v => .msl 0 (v + 1) 0 (p.length + 4)
def g91 : A91 → Z02
 | .c0 w => [.row ((leW w).map Z04) 1 0]
 | .c1 w p v => [.row ((p ++ leW w).map Z04) 1 (v + 1)]
theorem inj91 : ∀ a b, e91 a = e91 b → a = b := by
 intro a b h
 cases a <;> cases b <;> simp only [e91, Z0g, Z0i, Z0k, Z0j, UInt8.toNat_inj, Z09, Z0c, Z0s, Z1b, Z0C, List.cons.injEq, Fn.func.injEq, reduceCtorEq, Nat.reduceEqDiff, false_and, and_false, List.cons_ne_nil] at h <;> simp_all only
noncomputable def S91 : Z0p := Z6V e91 p91 r91 g91
theorem ZaN (w : Nat) : Z1V e91 p91 ([.lit (.slice none 0 0), .int .u32 w], []) = (True) := Z0J inj91 p91 (.c0 w)
theorem Zax (w : Nat) : Z0U e91 r91 .any ([.lit (.slice none 0 0), .int .u32 w], []) = (.msl 0 0 0 4) := Z0e inj91 r91 .any (.c0 w)
theorem Zb4 (w : Nat) : Z0U e91 g91 [] ([.lit (.slice none 0 0), .int .u32 w], []) = ([.row ((leW w).map Z04) 1 0]) := Z0e inj91 g91 [] (.c0 w)
theorem Z7a (w : Nat) (p : List UInt8) (v : Nat) : Z1V e91 p91 ([.msl 0 v 0 p.length, .int .u32 w], [.row (p.map Z04) 1 v]) = (p.length ≤ 1000000) := Z0J inj91 p91 (.c1 w p v)
theorem Z71 (w : Nat) (p : List UInt8) (v : Nat) : Z0U e91 r91 .any ([.msl 0 v 0 p.length, .int .u32 w], [.row (p.map Z04) 1 v]) = (.msl 0 (v + 1) 0 (p.length + 4)) := Z0e inj91 r91 .any (.c1 w p v)
theorem Z7k (w : Nat) (p : List UInt8) (v : Nat) : Z0U e91 g91 [] ([.msl 0 v 0 p.length, .int .u32 w], [.row (p.map Z04) 1 v]) = ([.row ((p ++ leW w).map Z04) 1 (v + 1)]) := Z0e inj91 g91 [] (.c1 w p v)
attribute [push_cast] S91 ZaN Zax Zb4 Z7a Z71 Z7k
theorem body91n (Γ : Env) (w : Nat) : Z08 Tryz.prog Γ Tryz.f91 [.lit (.slice none 0 0), .int .u32 w] [] (.msl 0 0 0 4) [.row ((leW w).map Z04) 1 0] := by
 refine stt 19 [.tmp 4] fun X hP hΓ hL hfin => ?_; refine gxq (cj4 @sh8 @sh16 @sh24 @Z7z) ?_
 exact Z07.sameA
theorem body91 (Γ : Env) (w : Nat) (p : List UInt8) (v : Nat) (hp : p.length ≤ 1000000) : Z08 Tryz.prog Γ Tryz.f91 [.msl 0 v 0 p.length, .int .u32 w] [.row (p.map Z04) 1 v] (.msl 0 (v + 1) 0 (p.length + 4)) [.row ((p ++ leW w).map Z04) 1 (v + 1)] := by
 refine stt 19 [.tmp 4] fun X hP hΓ hL hfin => ?_; refine gxq (cj4 @sh8 @sh16 @sh24 @Z7z) ?_
 refine ⟨by omega, ?_⟩
 rw [List.map_append]
 exact Z07.sameA
theorem con91 {Γ : Env} (h : Z01 Tryz.prog Γ)  : Con Tryz.prog 91 S91 :=
 Z2f h (fn := Tryz.f91) (by kernel_rfl) rfl (by kernel_rfl) inj91 fun a h => match a, h with | .c0 w, _ => body91n Γ w | .c1 w p v, h => body91 Γ w p v h
theorem Z3S {α : Type} {g : α → List AV} (h : ∀ x, Z0R (g x) = true) : ∀ xs : List α, Z0R (xs.flatMap g) = true
 | [] => rfl
 | x :: xs => by rw [List.flatMap_cons, Z3T, h, Z3S h xs]; rfl
theorem Zoc (S : List Sec) : Z0R (S.flatMap Z2E) = true := Z3S (fun s => Z35 _) S
theorem ZqU (W : List Wr) : Z0R (W.flatMap wrC) = true := Z3S (fun w => by simp only [wrC, Z0R, Z25, Bool.true_and]; exact Z35 _) W
attribute [push_cast] Zoc ZqU
def padP (p : List UInt8) : List UInt8 := p ++ List.replicate (1024 - p.length) 0
theorem Z2a {p : List UInt8} (h : p.length ≤ 1024) : (padP p).length = 1024 := by unfold padP; rw [List.length_append, List.length_replicate]; omega
def e92 : List Sec × List Wr × List UInt8 × Nat × Int → List AV × Z02 := fun (S, W, p, v, n) => ([.msl 0 v 0 p.length, .ref 1 0 0, .int .i64 n], .row (p.map Z04) 1 v :: Z1b S W)
def p92 : List Sec × List Wr × List UInt8 × Nat × Int → Prop := fun (S, W, p, v, n) => p.length ≤ 1024 ∧ W.length ≤ 4096 ∧ S.length ≤ 4096
def r92 : List Sec × List Wr × List UInt8 × Nat × Int → AV := fun (S, W, p, v, n) => .tup []
def g92 : List Sec × List Wr × List UInt8 × Nat × Int → Z02 := fun (S, W, p, v, n) => .row ((padP p).map Z04) 1 (v + 1) :: Z1b (wrS S W n (padP p)) (wrW S W n (padP p))
theorem inj92 : ∀ a b, e92 a = e92 b → a = b := by
 rintro ⟨S, W, p, v, n⟩ ⟨S', W', p', v', n'⟩ h
 simp only [e92, Z0g, Z0i, Z0k, Z0j, UInt8.toNat_inj, Z09, Z0c, Z0s, Z1b, Z0C, List.cons.injEq] at h
 simp_all only
noncomputable def S92 : Z0p := Z6V e92 p92 r92 g92
theorem ZpN (S : List Sec) (W : List Wr) (p : List UInt8) (v : Nat) (n : Int) : Z1V e92 p92 ([.msl 0 v 0 p.length, .ref 1 0 0, .int .i64 n], .row (p.map Z04) 1 v :: Z1b S W) = (p.length ≤ 1024 ∧ W.length ≤ 4096 ∧ S.length ≤ 4096) := Z0J inj92 p92 (S, W, p, v, n)
theorem ZpM (S : List Sec) (W : List Wr) (p : List UInt8) (v : Nat) (n : Int) : Z0U e92 r92 .any ([.msl 0 v 0 p.length, .ref 1 0 0, .int .i64 n], .row (p.map Z04) 1 v :: Z1b S W) = (.tup []) := Z0e inj92 r92 .any (S, W, p, v, n)
theorem ZpS (S : List Sec) (W : List Wr) (p : List UInt8) (v : Nat) (n : Int) : Z0U e92 g92 [] ([.msl 0 v 0 p.length, .ref 1 0 0, .int .i64 n], .row (p.map Z04) 1 v :: Z1b S W) = (.row ((padP p).map Z04) 1 (v + 1) :: Z1b (wrS S W n (padP p)) (wrW S W n (padP p))) := Z0e inj92 g92 [] (S, W, p, v, n)
attribute [push_cast] S92 ZpN ZpM ZpS
theorem body92 (Γ : Env) (h61 : Γ 61 = some S61) (S : List Sec) (W : List Wr) (p : List UInt8) (v : Nat) (n : Int) (hp : p.length ≤ 1024) (hW : W.length ≤ 4096) (hS : S.length ≤ 4096) : Z08 Tryz.prog Γ Tryz.f92 [.msl 0 v 0 p.length, .ref 1 0 0, .int .i64 n] (.row (p.map Z04) 1 v :: Z1b S W) (.tup []) (.row ((padP p).map Z04) 1 (v + 1) :: Z1b (wrS S W n (padP p)) (wrW S W n (padP p))) := by
 have ⟨ps, rs, hs⟩ := ks61 S W n (padP p)
 unfold Z0s at *
 unfold Z1b
 obtain ⟨q, hq⟩ : ∃ q, q = 1024 - p.length := ⟨_, rfl⟩
 have e1 : IntKind.i64.wrap (1024 - (p.length : Int)) = (q : Int) := by rw [Z0u _ (by constructor <;> omega)]; omega
 have e2 : List.map Z04 p ++ (List.replicate q [AV.int .u8 0]).flatten = (padP p).map Z04 := by
  unfold padP
  rw [List.map_append, ← hq]
  congr 1
  rw [List.map_replicate]
  clear hq e1
  induction q with
  | zero => rfl
  | succ q ih => rw [List.replicate_succ, List.flatten_cons, ih]; rfl
 have e3 : p.length + q = (padP p).length := by rw [Z2a hp]; omega
 have e4 := Z2a hp
 refine stt 14 [] fun X hP hΓ hL hfin => ?_; apply holds_of_ex X 400; simp (maxSteps := 1000000) only [push_cast, reduceCtorEq, Nat.reduceAdd, Nat.reduceMul, Nat.reduceSub, Nat.reduceBEq, Nat.reduceGT, Nat.reduceLT, Int.toNat_zero, Nat.reduceLeDiff, Int.reduceEq, Int.reduceLT, Int.reduceLE, hP, hΓ, hL, hfin, String.reduceEq, Int.toNat_one, Bool.not_not, h61, ps, rs, hs, e1, e2, e3, Zam]
 refine ⟨by omega, ⟨by decide, ⟨hW, hS⟩⟩, ?_⟩
 exact Z07.sameA
theorem con92 {Γ : Env} (h : Z01 Tryz.prog Γ) (h61 : Γ 61 = some S61) : Con Tryz.prog 92 S92 :=
 Z2f h (fn := Tryz.f92) (by kernel_rfl) rfl (by kernel_rfl) inj92 fun ⟨S, W, p, v, n⟩ h => body92 Γ h61 S W p v n h.1 h.2.1 h.2.2
def markR : Nat := 827475011
def Zp1 (S : List Sec) (W : List Wr) : List Sec := wrS S W 0 (padP (leW markR))
def Zp0 (S : List Sec) (W : List Wr) : List Wr := wrW S W 0 (padP (leW markR))
inductive A37 where
 | c0 
 | c1 (S : List Sec) (W : List Wr)
def e37 : A37 → List AV × Z02
 | .c0  => ([.lit (.pointer none)], [])
 | .c1 S W => ([.ref 0 0 0], Z0s S W)
def p37 : A37 → Prop
 | .c0  => True
 | .c1 S W => W.length ≤ 4096 ∧ S.length ≤ 4096
def r37 : A37 → AV
 | .c0  => .int .i64 1
 | .c1 S W => .int .i64 (if W.length < 4096 then 0 else 174)
def g37 : A37 → Z02
 | .c0  => []
 | .c1 S W => if W.length < 4096 then Z0s (Zp1 S W) (Zp0 S W) else Z0s S W
theorem inj37 : ∀ a b, e37 a = e37 b → a = b := by
 intro a b h
 cases a <;> cases b <;> simp only [e37, Z0g, Z0i, Z0k, Z0j, UInt8.toNat_inj, Z09, Z0c, Z0s, Z1b, Z0C, List.cons.injEq, Fn.func.injEq, reduceCtorEq, Nat.reduceEqDiff, false_and, and_false, List.cons_ne_nil] at h <;> simp_all only
noncomputable def S37 : Z0p := Z86 true e37 p37 r37 g37
theorem Zo7  : Z1V e37 p37 ([.lit (.pointer none)], []) = (True) := Z0J inj37 p37 (.c0 )
theorem ZnM  : Z0U e37 r37 .any ([.lit (.pointer none)], []) = (.int .i64 1) := Z0e inj37 r37 .any (.c0 )
theorem ZoO  : Z0U e37 g37 [] ([.lit (.pointer none)], []) = ([]) := Z0e inj37 g37 [] (.c0 )
theorem ZaP (S : List Sec) (W : List Wr) : Z1V e37 p37 ([.ref 0 0 0], Z0s S W) = (W.length ≤ 4096 ∧ S.length ≤ 4096) := Z0J inj37 p37 (.c1 S W)
theorem Zaz (S : List Sec) (W : List Wr) : Z0U e37 r37 .any ([.ref 0 0 0], Z0s S W) = (.int .i64 (if W.length < 4096 then 0 else 174)) := Z0e inj37 r37 .any (.c1 S W)
theorem Zb6 (S : List Sec) (W : List Wr) : Z0U e37 g37 [] ([.ref 0 0 0], Z0s S W) = (if W.length < 4096 then Z0s (Zp1 S W) (Zp0 S W) else Z0s S W) := Z0e inj37 g37 [] (.c1 S W)
attribute [push_cast] S37 Zo7 ZnM ZoO ZaP Zaz Zb6
theorem body37n (Γ : Env) : Z08 Tryz.prog Γ Tryz.f37 [.lit (.pointer none)] [] (.int .i64 1) [] := by
 refine stt 13 [.tmp 2] fun X hP hΓ hL hfin => ?_; refine Z0G ?_
 exact Z07.sameA
theorem body37 (Γ : Env) (h90 : Γ 90 = some S90) (h91 : Γ 91 = some S91) (h92 : Γ 92 = some S92) (S : List Sec) (W : List Wr) (hW : W.length ≤ 4096) (hS : S.length ≤ 4096) : Z08 Tryz.prog Γ Tryz.f37 [.ref 0 0 0] (Z0s S W) (.int .i64 (if W.length < 4096 then 0 else 174)) (if W.length < 4096 then Z0s (Zp1 S W) (Zp0 S W) else Z0s S W) := by
 have ⟨ps, rs, hs⟩ := ks90 S W 1
 have p2 := ZpN S W (leW markR) 0 0
 have r2 := ZpM S W (leW markR) 0 0
 have g2 := ZpS S W (leW markR) 0 0
 have p1 := ZaN markR
 have r1 := Zax markR
 have g1 := Zb4 markR
 rw [show ((markR : Nat) : Int) = 827475011 from rfl] at p1 r1 g1
 rw [Z0O] at p2 r2 g2
 by_cases h : W.length < 4096
 ·have d1 : decide ((W.length : Int) + 1 ≤ 4096) = true := decide_eq_true (by omega)
  rw [if_pos h, if_pos h]
  unfold Zp1 Zp0
  unfold Z0s Z1b at *
  refine stt 13 [.tmp 2] fun X hP hΓ hL hfin => ?_; refine gxq (Ziv h90 h91 h92 ps rs hs d1 p1 r1 g1 p2 r2 g2) ?_
  refine ⟨⟨by decide, hW⟩, ⟨by decide, hW, hS⟩, ?_⟩
  exact Z07.keep3A
 ·have d1 : decide ((W.length : Int) + 1 ≤ 4096) = false := decide_eq_false (by omega)
  rw [if_neg h, if_neg h]
  unfold Z0s at *
  refine stt 13 [.tmp 2] fun X hP hΓ hL hfin => ?_; refine gxq (cj5 h90 ps rs hs d1) ?_
  refine ⟨by omega, ?_⟩
  exact Z07.sameA
theorem con37 {Γ : Env} (h : Z01 Tryz.prog Γ) (h90 : Γ 90 = some S90) (h91 : Γ 91 = some S91) (h92 : Γ 92 = some S92) : Con Tryz.prog 37 S37 :=
 Z2g h (fn := Tryz.f37) (by kernel_rfl) rfl (by kernel_rfl) inj37 fun a h => match a, h with | .c0, _ => body37n Γ | .c1 S W, h => body37 Γ h90 h91 h92 S W h.1 h.2
end Go.Proofs.YtbnnhffkbcekcaaGreatDoor.dirDone
end
