/- Of disks: words of bytes. Conditions stand in each. Of disks: sectors, writes. Conditions stand in each. Of disks: a sector read; the writes told. Conditions stand in each. Of disks: a sector written. Conditions stand in each. Of disks: a new one; what it bears; pages. Conditions stand in each. -/
import Derived.Test.YtbnnhffkbcekcaaGreatDoorFt
import Derived.Test.YtbnnhffkbcekcaaGreatDoorFg
import Derived.Test.YtbnnhffkbcekcaaGreatDoorFe
import Derived.Test.YtbnnhffkbcekcaaGreatDoorFf
import Derived.Test.YtbnnhffkbcekcaaGreatDoorFv
import Derived.Test.YtbnnhffkbcekcaaGreatDoorFu
import Derived.IntWalk
set_option linter.unusedVariables false
set_option linter.unusedSimpArgs false
set_option maxRecDepth 100000
set_option maxHeartbeats 4000000
section
namespace Go.Proofs.YtbnnhffkbcekcaaGreatDoor.dirDone
open Go Go.Eng Go.Proofs
theorem ZlM (n : Int) : IntKind.u32.wrap n = n % 4294967296 := by simp [IntKind.wrap, IntKind.bits, IntKind.signed]
theorem Z5r (n : Int) (h : 0 ≤ n ∧ n < 4294967296) : IntKind.u32.wrap n = n := by rw [ZlM]; omega
theorem Zn9 (x y : Nat) (hx : x < 2 ^ 32) (hy : y < 2 ^ 32) : Z7u .or .u32 ↑x ↑y = ((x ||| y : Nat) : Int) := by
 show IntKind.u32.wrap (((BitVec.ofInt 32 (x : Int) ||| BitVec.ofInt 32 (y : Int)).toNat : Nat) : Int) = _
 rw [BitVec.toNat_or, BitVec.ofInt_natCast, BitVec.ofInt_natCast, BitVec.toNat_ofNat, BitVec.toNat_ofNat, Nat.mod_eq_of_lt hx, Nat.mod_eq_of_lt hy]
 have := Nat.or_lt_two_pow hx hy
 rw [ZlM]; omega
def leV : List UInt8 → Nat
 | [] => 0
 | b :: r => b.toNat + 256 * leV r
theorem Zan : ∀ l : List UInt8, leV l < 256 ^ l.length
 | [] => by simp [leV]
 | b :: r => by
  have h1 := Zan r
  have h2 := b.toNat_lt
  rw [leV, List.length_cons, Nat.pow_succ]; omega
theorem Zam (b : UInt8) : ∀ l : List UInt8, leV (l ++ [b]) = leV l + b.toNat * 256 ^ l.length
 | [] => by simp [leV]
 | c :: r => by
  rw [List.cons_append, leV, leV, Zam b r, List.length_cons, Nat.pow_succ, Nat.mul_add, Nat.mul_comm 256 (b.toNat * _), Nat.mul_assoc]; omega
theorem ZmV (l : List UInt8) (b : UInt8) (h : l.length < 4) : Z7u .or .u32 (leV l : Int) ((b.toNat : Int) * ((2 ^ (8 * l.length) : Nat) : Int)) = (leV (l ++ [b]) : Int) := by
 have h1 := Zan l
 have h2 := b.toNat_lt
 have e : (256 : Nat) ^ l.length = 2 ^ (8 * l.length) := by rw [Nat.pow_mul]
 have hle : 2 ^ (8 * l.length) ≤ 2 ^ 24 := Nat.pow_le_pow_right (by omega) (by omega)
 have hmul : b.toNat * 2 ^ (8 * l.length) ≤ 255 * 2 ^ 24 := Nat.mul_le_mul (by omega) hle
 rw [← Int.natCast_mul, Zn9 _ _ (by omega) (by omega), Zam, e, Nat.or_comm, Nat.mul_comm b.toNat, ← Nat.two_pow_add_eq_or_of_lt (by omega), Nat.add_comm]
theorem ZlN (b : UInt8) (k : Nat) (h : k < 4) : IntKind.u32.wrap ((b.toNat : Int) * 2 ^ (min (8 * (k : Int)).toNat IntKind.u32.bits)) = (b.toNat : Int) * ((2 ^ (8 * k) : Nat) : Int) := by
 have h2 := b.toNat_lt
 rcases (by omega : k = 0 ∨ k = 1 ∨ k = 2 ∨ k = 3) with rfl | rfl | rfl | rfl
 all_goals
  simp [IntKind.bits]
  rw [ZlM]; omega
def ZiV : (List UInt8) → List AV := fun l => [.sl (l.map Z03) l.length]
def ZmS : (List UInt8) → Prop := fun l => l.length ≤ 4
def Zmj : (List UInt8) → AV := fun l => .int .u32 (leV l)
def ZnE : (List UInt8) → Z01 := fun l => []
theorem inj116 : ∀ a b, ZiV a = ZiV b → a = b := by
 rintro l l' h
 simp only [ZiV, Z0g, Z0h, Z0k, Z0j, UInt8.toNat_inj, Z0x, List.cons.injEq] at h
 simp_all only
noncomputable def S116 : Z0n := Z5C ZiV ZmS Zmj ZnE true
theorem Zmy (l : (List UInt8)) : Z5B ZiV ZmS [.sl (l.map Z03) l.length] = (l.length ≤ 4) := Z12 inj116 ZmS l
theorem Zm0 (l : (List UInt8)) : Z2k ZiV Zmj .any [.sl (l.map Z03) l.length] = (.int .u32 (leV l)) := Z0t inj116 Zmj .any l
theorem Znl (l : (List UInt8)) : Z2k ZiV ZnE [] [.sl (l.map Z03) l.length] = ([]) := Z0t inj116 ZnE [] l
attribute [push_cast] S116 Zmy Zm0 Znl
theorem body116 (Γ : Env) (l : List UInt8) (hl : l.length ≤ 4) : Z09 Tryz.prog Γ Tryz.f116 [.sl (l.map Z03) l.length] [] (.int .u32 (leV l)) [] := by
 have e0 : ((leV [] : Nat) : Int) = 0 := rfl
 refine stt 22 [.tmp 2] fun X hP hΓ hL hfin => ?_; refine Z0D ?_
 refine Z02.loopM (ι := {k : Nat // k ≤ l.length}) [tt,ff,tt,ff,ff,ff,tt,ff,ff,ff,ff,ff,ff,ff,ff,ff,ff,ff,ff,ff,ff,ff] (fun i => [(7, .int .i64 i.1), (3, .int .u32 (leV (l.take i.1)))]) (fun i => []) (fun i => l.length - i.1) ⟨0, Nat.zero_le _⟩ ?_ ?_
 ·(rw [hL]; simp only [push_cast, Int.natCast_zero, e0]; exact Z07.sameA)
 rintro ⟨k, hk⟩
 refine Z0D ?_
 ((with_reducible refine Z0v (fun h => ?_) fun h => ?_) <;> try simp only [fkl, beq_iff_eq, beq_eq_false_iff_ne, ne_eq] at h)
 ·have hk' : k < l.length := by omega
  have w8 : IntKind.i64.wrap (8 * (k : Int)) = 8 * (k : Int) := Z08 _ (by constructor <;> omega)
  have hb := (l.getD k 0).toNat_lt
  have wb : IntKind.u32.wrap ((l.getD k 0).toNat : Int) = ((l.getD k 0).toNat : Int) := Z5r _ (by omega)
  have hs := ZlN (l.getD k 0) k (by omega)
  have ht : (l.take k).length = k := by rw [List.length_take]; omega
  have ho := ZmV (l.take k) (l.getD k 0) (by omega)
  rw [ht] at ho
  have e1 : l.take k ++ [l.getD k 0] = l.take (k + 1) := by rw [List.take_succ_eq_append_getElem hk']; simp [List.getD, hk']
  rw [e1] at ho
  generalize hB : ((2 ^ (8 * k) : Nat) : Int) = B at *
  generalize hV : leV (l.take k) = V at *
  generalize hV2 : leV (l.take (k + 1)) = V2 at *
  refine gxq (cj4 w8 wb hs ho) ?_
  refine ⟨by omega, by omega, by omega, ⟨k + 1, hk'⟩, by simp only; omega, ?_⟩
  dsimp only
  rw [Z08 ((k : Int) + 1) (by constructor <;> omega), hV2]
  exact Z07.sameA
 ·obtain rfl : k = l.length := by omega
  rw [List.take_length]
  refine Z0D ?_
  exact Z07.one rfl rfl
theorem con116 {Γ : Env} (h : Z06 Tryz.prog Γ)  : Con Tryz.prog 116 S116 :=
 Z0T h (fn := Tryz.f116) (by kernel_rfl) rfl (by kernel_rfl) inj116 (by first | (intro h; cases h; done) | exact fun _ _ => rfl) fun l h => body116 Γ l h
def getW (l : List UInt8) (i : Nat) : Nat := leV ((l.take (i + 4)).drop i)
theorem Z1T (l : List UInt8) (i : Nat) : getW l i < 4294967296 := by
 have h := Zan ((l.take (i + 4)).drop i)
 have hl : ((l.take (i + 4)).drop i).length ≤ 4 := by rw [List.length_drop, List.length_take]; omega
 have := Nat.pow_le_pow_right (show 0 < 256 by decide) hl
 have e : (256 : Nat) ^ 4 = 4294967296 := by decide
 unfold getW; omega
def e64 : (List UInt8) × (Int) → List AV := fun (l, i) => [.sl (l.map Z03) l.length, .int .i64 i]
def p64 : (List UInt8) × (Int) → Prop := fun (l, i) => 0 ≤ i ∧ i + 4 ≤ (l.length : Int) ∧ l.length ≤ 4194304
def r64 : (List UInt8) × (Int) → AV := fun (l, i) => .tup [.int .u32 (getW l i.toNat), .bool true]
def g64 : (List UInt8) × (Int) → Z01 := fun (l, i) => []
theorem inj64 : ∀ a b, e64 a = e64 b → a = b := by
 rintro ⟨l, i⟩ ⟨l', i'⟩ h
 simp only [e64, Z0g, Z0h, Z0k, Z0j, UInt8.toNat_inj, Z0x, List.cons.injEq] at h
 simp_all only
noncomputable def S64 : Z0n := Z5C e64 p64 r64 g64 true
theorem ps64 (l : (List UInt8)) (i : (Int)) : Z5B e64 p64 [.sl (l.map Z03) l.length, .int .i64 i] = (0 ≤ i ∧ i + 4 ≤ (l.length : Int) ∧ l.length ≤ 4194304) := Z12 inj64 p64 (l, i)
theorem rs64 (l : (List UInt8)) (i : (Int)) : Z2k e64 r64 .any [.sl (l.map Z03) l.length, .int .i64 i] = (.tup [.int .u32 (getW l i.toNat), .bool true]) := Z0t inj64 r64 .any (l, i)
theorem hs64 (l : (List UInt8)) (i : (Int)) : Z2k e64 g64 [] [.sl (l.map Z03) l.length, .int .i64 i] = ([]) := Z0t inj64 g64 [] (l, i)
attribute [push_cast] S64 ps64 rs64 hs64
theorem body64 (Γ : Env) (h116 : Γ 116 = some S116) (l : List UInt8) (i : Nat) (h : i + 4 ≤ l.length) (hl : l.length ≤ 4194304) : Z09 Tryz.prog Γ Tryz.f64 [.sl (l.map Z03) l.length, .int .i64 i] [] (.tup [.int .u32 (getW l i), .bool true]) [] := by
 have d1 : decide ((i : Int) < 0) = false := decide_eq_false (by omega)
 have w1 : IntKind.i64.wrap ((l.length : Int) - 4) = (l.length : Int) - 4 := Z08 _ (by constructor <;> omega)
 have w2 : IntKind.i64.wrap ((i : Int) + 4) = ((i + 4 : Nat) : Int) := by rw [Z08 _ (by constructor <;> omega)]; omega
 have d2 : decide ((l.length : Int) - 4 < (i : Int)) = false := decide_eq_false (by omega)
 have hlen : ((l.take (i + 4)).drop i).length = 4 := by rw [List.length_drop, List.length_take]; omega
 have h4 : ((l.take (i + 4)).drop i).length ≤ 4 := by omega
 unfold getW
 have e1 : List.drop i (List.take (i + 4) (l.map Z03)) = ((l.take (i + 4)).drop i).map Z03 := by rw [List.map_drop, List.map_take]
 have e2 : i + 4 - i = ((l.take (i + 4)).drop i).length := by omega
 generalize hs : (l.take (i + 4)).drop i = s at *
 generalize hj : i + 4 = j at *
 refine stt 21 [.tmp 4, .tmp 5] fun X hP hΓ hL hfin => ?_; refine gxq (cj8 d1 d2 w1 w2 e1 e2 h116 h4) ?_
 exact ⟨⟨by omega, by omega, by omega⟩, Z07.one rfl rfl⟩
theorem con64 {Γ : Env} (h : Z06 Tryz.prog Γ) (h116 : Γ 116 = some S116) : Con Tryz.prog 64 S64 :=
 Z0T h (fn := Tryz.f64) (by kernel_rfl) rfl (by kernel_rfl) inj64 (by first | (intro h; cases h; done) | exact fun _ _ => rfl) fun ⟨l, i⟩ h => by
  obtain ⟨n, rfl⟩ := Int.eq_ofNat_of_zero_le h.1
  exact body64 Γ h116 l n (by have := h.2.1; omega) h.2.2
def ZiW : (List UInt8) × (Int) → List AV := fun (l, i) => [.sl (l.map Z03) l.length, .int .i64 i]
def ZmT : (List UInt8) × (Int) → Prop := fun (l, i) => 0 ≤ i ∧ 4 * i + 4 ≤ (l.length : Int) ∧ l.length ≤ 4194304
def Zmk : (List UInt8) × (Int) → AV := fun (l, i) => .int .u32 (getW l (4 * i).toNat)
def ZnF : (List UInt8) × (Int) → Z01 := fun (l, i) => []
theorem inj113 : ∀ a b, ZiW a = ZiW b → a = b := by
 rintro ⟨l, i⟩ ⟨l', i'⟩ h
 simp only [ZiW, Z0g, Z0h, Z0k, Z0j, UInt8.toNat_inj, Z0x, List.cons.injEq] at h
 simp_all only
noncomputable def S113 : Z0n := Z5C ZiW ZmT Zmk ZnF true
theorem Zmz (l : (List UInt8)) (i : (Int)) : Z5B ZiW ZmT [.sl (l.map Z03) l.length, .int .i64 i] = (0 ≤ i ∧ 4 * i + 4 ≤ (l.length : Int) ∧ l.length ≤ 4194304) := Z12 inj113 ZmT (l, i)
theorem ZjH (l : (List UInt8)) (i : (Int)) : Z2k ZiW Zmk .any [.sl (l.map Z03) l.length, .int .i64 i] = (.int .u32 (getW l (4 * i).toNat)) := Z0t inj113 Zmk .any (l, i)
theorem Znm (l : (List UInt8)) (i : (Int)) : Z2k ZiW ZnF [] [.sl (l.map Z03) l.length, .int .i64 i] = ([]) := Z0t inj113 ZnF [] (l, i)
attribute [push_cast] S113 Zmz ZjH Znm
theorem body113 (Γ : Env) (h64 : Γ 64 = some S64) (l : List UInt8) (i : Int) (h0 : 0 ≤ i) (h : 4 * i + 4 ≤ (l.length : Int)) (hl : l.length ≤ 4194304) : Z09 Tryz.prog Γ Tryz.f113 [.sl (l.map Z03) l.length, .int .i64 i] [] (.int .u32 (getW l (4 * i).toNat)) [] := by
 have w1 : IntKind.i64.wrap (4 * i) = 4 * i := Z08 _ (by constructor <;> omega)
 have p1 : (0 : Int) ≤ 4 * i := by omega
 refine stt 15 [.tmp 4] fun X hP hΓ hL hfin => ?_; refine gxq (cj5 w1 h64 p1 h hl) ?_
 exact Z07.one rfl rfl
theorem con113 {Γ : Env} (h : Z06 Tryz.prog Γ) (h64 : Γ 64 = some S64) : Con Tryz.prog 113 S113 :=
 Z0T h (fn := Tryz.f113) (by kernel_rfl) rfl (by kernel_rfl) inj113 (by first | (intro h; cases h; done) | exact fun _ _ => rfl) fun ⟨l, i⟩ h => body113 Γ h64 l i h.1 h.2.1 h.2.2
abbrev Sec : Type := { l : List UInt8 // l.length = 1024 }
def Z2B (s : Sec) : List AV := s.1.map Z03
instance : Z24 Z2B := ⟨fun s => by simp only [Z2B, Z18], fun s => by simp only [Z2B]; exact Z4m _⟩
instance : Z23 Z2B 1024 := ⟨fun s => by rw [Z2B, List.length_map, s.2]⟩
instance : Inhabited Sec := ⟨⟨List.replicate 1024 0, List.length_replicate⟩⟩
abbrev Wr : Type := Int × Sec
def wrC (w : Wr) : List AV := .int .i64 w.1 :: w.2.1.map Z03
instance : Z24 wrC := ⟨fun w => by simp only [wrC, Z1J, Z0r, Z18, Bool.and_self], fun w => by simp only [wrC, Z0c]; exact Z4m _⟩
instance : Z23 wrC 1025 := ⟨fun w => by rw [wrC, List.length_cons, List.length_map, w.2.2]⟩
instance : Inhabited Wr := ⟨(0, default)⟩
theorem ZbP (a b : Sec) (h : Z2B a = Z2B b) : a = b := Subtype.ext (Z0j.1 h)
theorem Zju (a b : Wr) (h : wrC a = wrC b) : a = b := by
 obtain ⟨n, s⟩ := a
 obtain ⟨k, t⟩ := b
 simp only [wrC, List.cons.injEq, AV.int.injEq, true_and] at h
 rw [h.1, ZbP s t h.2]
theorem Z0a {S T : List Sec} : S.flatMap Z2B = T.flatMap Z2B ↔ S = T := ⟨Zao (n := 1024) ZbP (fun s => Z23.len s) (by decide), fun h => by rw [h]⟩
theorem Z0d {S T : List Wr} : S.flatMap wrC = T.flatMap wrC ↔ S = T := ⟨Zao (n := 1025) Zju (fun s => Z23.len s) (by decide), fun h => by rw [h]⟩
def Z0q (S : List Sec) (W : List Wr) : Z01 := [.row [.msl 1 0 0 S.length, .msl 2 W.length 0 W.length] 2 0, .row (S.flatMap Z2B) 1024 0, .row (W.flatMap wrC) 1025 W.length]
def k31 : List Sec × List Wr → Ct := fun (S, W) => ⟨([.ref 0 0 0], Z0q S W), True, .int .i64 S.length, Z0q S W⟩
theorem inj31 : ∀ a b, (k31 a).a = (k31 b).a → a = b := by
 rintro ⟨S, W⟩ ⟨S', W'⟩ h
 simp only [k31, Z0g, Z0h, Z0k, Z0j, UInt8.toNat_inj, Z0a, Z0d, Z0q, Z0x, List.cons.injEq] at h
 simp_all only
noncomputable def S31 : Z0n := Z0Q true k31
theorem ks31 (S : List Sec) (W : List Wr) : KS k31 ([.ref 0 0 0], Z0q S W) (True) (.int .i64 S.length) (Z0q S W) := kat inj31 (S, W)
attribute [push_cast] S31 ks31
theorem body31 (Γ : Env) (S : List Sec) (W : List Wr) : Z09 Tryz.prog Γ Tryz.f31 [.ref 0 0 0] (Z0q S W) (.int .i64 S.length) (Z0q S W) := by
 unfold Z0q
 refine stt 10 [.tmp 2] fun X hP hΓ hL hfin => ?_; refine Z0D ?_
 exact Z07.sameA
theorem con31 {Γ : Env} (h : Z06 Tryz.prog Γ)  : Con Tryz.prog 31 S31 :=
 Z1W h (fn := Tryz.f31) (by kernel_rfl) rfl (by kernel_rfl) inj31 fun ⟨S, W⟩ _ => body31 Γ S W
def k115 : List Sec × List Wr × Int → Ct := fun (S, W, n) => ⟨([.ref 0 0 0, .int .i64 n], Z0q S W), True, .int .i64 (if 0 ≤ n ∧ n < S.length then 0 else 31), Z0q S W⟩
theorem inj115 : ∀ a b, (k115 a).a = (k115 b).a → a = b := by
 rintro ⟨S, W, n⟩ ⟨S', W', n'⟩ h
 simp only [k115, Z0g, Z0h, Z0k, Z0j, UInt8.toNat_inj, Z0a, Z0d, Z0q, Z0x, List.cons.injEq] at h
 simp_all only
noncomputable def S115 : Z0n := Z0Q true k115
theorem ks115 (S : List Sec) (W : List Wr) (n : Int) : KS k115 ([.ref 0 0 0, .int .i64 n], Z0q S W) (True) (.int .i64 (if 0 ≤ n ∧ n < S.length then 0 else 31)) (Z0q S W) := kat inj115 (S, W, n)
attribute [push_cast] S115 ks115
theorem body115 (Γ : Env) (S : List Sec) (W : List Wr) (n : Int) : Z09 Tryz.prog Γ Tryz.f115 [.ref 0 0 0, .int .i64 n] (Z0q S W) (.int .i64 (if 0 ≤ n ∧ n < S.length then 0 else 31)) (Z0q S W) := by
 unfold Z0q
 by_cases h : 0 ≤ n ∧ n < S.length
 ·have d1 : (decide (n < 0) || decide ((S.length : Int) ≤ n)) = false := by
   rw [Bool.eq_false_iff]; intro h'; simp only [Bool.or_eq_true, decide_eq_true_eq] at h'; omega
  rw [if_pos h]
  refine stt 20 [.tmp 4] fun X hP hΓ hL hfin => ?_; refine gxq d1 ?_
  exact Z07.sameA
 ·have d1 : (decide (n < 0) || decide ((S.length : Int) ≤ n)) = true := by
   simp only [Bool.or_eq_true, decide_eq_true_eq]; omega
  rw [if_neg h]
  refine stt 20 [.tmp 4] fun X hP hΓ hL hfin => ?_; refine gxq d1 ?_
  exact Z07.sameA
theorem con115 {Γ : Env} (h : Z06 Tryz.prog Γ)  : Con Tryz.prog 115 S115 :=
 Z1W h (fn := Tryz.f115) (by kernel_rfl) rfl (by kernel_rfl) inj115 fun ⟨S, W, n⟩ _ => body115 Γ S W n
theorem za121 : zeroA Tryz.prog 121 = .agg (Z2B default) := by kernel_rfl
theorem Zir : Z1a Tryz.prog 121 := by unfold Z1a; kernel_rfl
def rdA (S : List Sec) (n : Int) : AV := if 0 ≤ n ∧ n < S.length then .tup [.sl ((S.getD n.toNat default).1.map Z03) (S.getD n.toNat default).1.length, .int .i64 0] else .tup [.sl [] 0, .int .i64 31]
def k62 : List Sec × List Wr × Int → Ct := fun (S, W, n) => ⟨([.ref 0 0 0, .int .i64 n], Z0q S W), True, rdA S n, Z0q S W⟩
theorem inj62 : ∀ a b, (k62 a).a = (k62 b).a → a = b := by
 rintro ⟨S, W, n⟩ ⟨S', W', n'⟩ h
 simp only [k62, Z0g, Z0h, Z0k, Z0j, UInt8.toNat_inj, Z0a, Z0d, Z0q, Z0x, List.cons.injEq] at h
 simp_all only
noncomputable def S62 : Z0n := Z0Q true k62
theorem ks62 (S : List Sec) (W : List Wr) (n : Int) : KS k62 ([.ref 0 0 0, .int .i64 n], Z0q S W) (True) (rdA S n) (Z0q S W) := kat inj62 (S, W, n)
attribute [push_cast] S62 ks62
theorem body62 (Γ : Env) (h115 : Γ 115 = some S115) (S : List Sec) (W : List Wr) (n : Int) : Z09 Tryz.prog Γ Tryz.f62 [.ref 0 0 0, .int .i64 n] (Z0q S W) (rdA S n) (Z0q S W) := by
 have ⟨ps, rs, hs⟩ := ks115 S W n
 unfold rdA
 unfold Z0q at *
 by_cases h : 0 ≤ n ∧ n < S.length
 ·obtain ⟨k, rfl⟩ := Int.eq_ofNat_of_zero_le h.1
  have hk : k < S.length := by omega
  rw [if_pos h] at rs ⊢
  refine stt 22 [.tmp 4, .tmp 5] fun X hP hΓ hL hfin => ?_; refine gmq 12 (cj7 h115 ps rs hs @za121 @Zir hk) ?_
  have hm : (k + 1) * 1024 ≤ S.length * 1024 := Nat.mul_le_mul_right _ hk
  refine ⟨by decide, by omega, ⟨by omega, by omega⟩, ?_⟩
  refine Z02.frz 3 (by rw [hL]; simp) smf (gsq ?_)
  refine Z0D ?_
  have e : AV.sl (Z2B (S.getD k default)) 1024 = AV.sl ((S.getD k default).1.map Z03) (S.getD k default).1.length := by rw [(S.getD k default).2]; rfl
  rw [e]
  exact Z07.keep3A
 ·rw [if_neg h] at rs ⊢
  refine stt 22 [.tmp 4, .tmp 5] fun X hP hΓ hL hfin => ?_; refine gxq (cj4 h115 ps rs hs) ?_
  refine ⟨by decide, ?_⟩
  refine Z0o.soft ?_
  simp only [push_cast]
  exact Z07.sameA
theorem con62 {Γ : Env} (h : Z06 Tryz.prog Γ) (h115 : Γ 115 = some S115) : Con Tryz.prog 62 S62 :=
 Z1W h (fn := Tryz.f62) (by kernel_rfl) rfl (by kernel_rfl) inj62 fun ⟨S, W, n⟩ _ => body62 Γ h115 S W n
theorem za123 : zeroA Tryz.prog 123 = .agg (wrC default) := by kernel_rfl
theorem ZkD : Z1a Tryz.prog 123 := by unfold Z1a; kernel_rfl
theorem wr0 (w : Wr) (d : AV) : (wrC w).getD 0 d = .int .i64 w.1 := rfl
def wns (W : List Wr) : List Int := W.map Prod.fst
def k23 : List Sec × List Wr → Ct := fun (S, W) => ⟨([.ref 0 0 0], Z0q S W), W.length ≤ 4194304, .sl ((wns W).map (AV.int .i64)) (wns W).length, Z0q S W⟩
theorem inj23 : ∀ a b, (k23 a).a = (k23 b).a → a = b := by
 rintro ⟨S, W⟩ ⟨S', W'⟩ h
 simp only [k23, Z0g, Z0h, Z0k, Z0j, UInt8.toNat_inj, Z0a, Z0d, Z0q, Z0x, List.cons.injEq] at h
 simp_all only
noncomputable def S23 : Z0n := Z0Q true k23
theorem ks23 (S : List Sec) (W : List Wr) : KS k23 ([.ref 0 0 0], Z0q S W) (W.length ≤ 4194304) (.sl ((wns W).map (AV.int .i64)) (wns W).length) (Z0q S W) := kat inj23 (S, W)
attribute [push_cast] S23 ks23
theorem body23 (Γ : Env) (S : List Sec) (W : List Wr) (hW : W.length ≤ 4194304) : Z09 Tryz.prog Γ Tryz.f23 [.ref 0 0 0] (Z0q S W) (.sl ((wns W).map (AV.int .i64)) (wns W).length) (Z0q S W) := by
 unfold Z0q
 refine stt 24 [.tmp 2] fun X hP hΓ hL hfin => ?_; refine Z0D ?_
 refine Z02.loopM (ι := {k : Nat // k ≤ W.length}) [ff,ff,tt,ff,ff,ff,ff,ff,ff,ff,ff,tt,tt,ff,ff,ff,ff,ff,ff,ff,ff,ff,ff,ff] (fun i => [(13, .int .i64 i.1), (3, .msl 3 0 0 i.1)]) (fun i => [.row [.msl 1 0 0 S.length, .msl 2 W.length 0 W.length] 2 0, .row (S.flatMap Z2B) 1024 0, .row (W.flatMap wrC) 1025 W.length, .row ((wns (W.take i.1)).map (AV.int .i64)) 1 0]) (fun i => W.length - i.1) ⟨0, Nat.zero_le _⟩ ?_ ?_
 ·rw [hL]; simp only [push_cast, Int.natCast_zero, wns]
  refine Z0o.nil 3  1 rfl (gsq ?_)
  exact Z07.sameA
 rintro ⟨k, hk⟩
 refine Z0D ?_
 ((with_reducible refine Z0v (fun h => ?_) fun h => ?_) <;> try simp only [fkl, beq_iff_eq, beq_eq_false_iff_ne, ne_eq] at h)
 ·have hk' : k < W.length := by omega
  have e1 : wns (W.take (k + 1)) = wns (W.take k) ++ [(W.getD k default).1] := by
   unfold wns
   rw [List.take_succ_eq_append_getElem hk', List.map_append]
   simp [List.getD, hk']
  have hm : (k + 1) * 1025 ≤ W.length * 1025 := Nat.mul_le_mul_right _ hk'
  have hl1 : (wns (W.take k)).length = k := by unfold wns; rw [List.length_map, List.length_take]; omega
  refine gxq (cj4 hk' @za123 @ZkD @wr0) ?_
  refine ⟨by omega, ⟨by omega, by omega⟩, ⟨hl1, by omega⟩, ⟨k + 1, hk'⟩, by simp only; omega, ?_⟩
  dsimp only
  rw [Z08 ((k : Int) + 1) (by constructor <;> omega), e1, List.map_append]
  refine Z0o.ver 3  0 sm smv (gsq ?_)
  exact Z07.keep4A
 ·obtain rfl : k = W.length := by omega
  rw [List.take_length]
  have hl1 : (wns W).length = W.length := by unfold wns; rw [List.length_map]
  refine Z0D ?_
  refine Z0o.frz 3 smo smf (gsq ?_)
  rw [← hl1, Z9O]
  exact Z07.keep3A
theorem con23 {Γ : Env} (h : Z06 Tryz.prog Γ)  : Con Tryz.prog 23 S23 :=
 Z1W h (fn := Tryz.f23) (by kernel_rfl) rfl (by kernel_rfl) inj23 fun ⟨S, W⟩ h => body23 Γ S W h
theorem Zh4 (w : Wr) : (wrC w).length = 1025 := Z23.len w
theorem ZhJ (w : Wr) : List.drop 1024 (List.drop 1 (wrC w)) = [] := by rw [List.drop_drop, List.drop_eq_nil_of_le]; rw [Zh4]; decide
theorem ZlJ (n : Int) (s : Sec) : AV.int .i64 n :: Z2B s = wrC (n, s) := rfl
theorem ZiB {α : Type} {g : α → List AV} (l : List α) (x : α) : (l ++ [x]).flatMap g = l.flatMap g ++ g x := by simp
theorem Z2X {α : Type} {g : α → List AV} {n : Nat} [Z23 g n] (l : List α) (k : Nat) (x : α) (hk : k < l.length) : (l.flatMap g).take (k * n) ++ g x ++ (l.flatMap g).drop (k * n + n) = (l.set k x).flatMap g := by
 have e : l.set k x = l.take k ++ x :: l.drop (k + 1) := by rw [List.set_eq_take_append_cons_drop, if_pos hk]
 rw [Z1X, show k * n + n = (k + 1) * n by rw [Nat.succ_mul], Z16, e]
 simp only [List.flatMap_append, List.flatMap_cons, List.append_assoc]
def Z4Y (b : List UInt8) : Sec := if h : b.length = 1024 then ⟨b, h⟩ else default
theorem Z9M {b : List UInt8} (h : b.length = 1024) : (Z4Y b).1 = b := by rw [Z4Y, dif_pos h]
def wrE (S : List Sec) (W : List Wr) (n : Int) (b : List UInt8) : Int := if ¬ (0 ≤ n ∧ n < S.length) then 31 else if b.length ≠ 1024 then 32 else if W.length = 4096 then 33 else 0
def wrS (S : List Sec) (W : List Wr) (n : Int) (b : List UInt8) : List Sec := if wrE S W n b = 0 then S.set n.toNat (Z4Y b) else S
def wrW (S : List Sec) (W : List Wr) (n : Int) (b : List UInt8) : List Wr := if wrE S W n b = 0 then W ++ [(n, S.getD n.toNat default)] else W
def k61 : List Sec × List Wr × Int × List UInt8 → Ct := fun (S, W, n, b) => ⟨([.ref 0 0 0, .int .i64 n, .sl (b.map Z03) b.length], Z0q S W), W.length ≤ 4096 ∧ S.length ≤ 4096, .int .i64 (wrE S W n b), Z0q (wrS S W n b) (wrW S W n b)⟩
theorem inj61 : ∀ a b, (k61 a).a = (k61 b).a → a = b := by
 rintro ⟨S, W, n, b⟩ ⟨S', W', n', b'⟩ h
 simp only [k61, Z0g, Z0h, Z0k, Z0j, UInt8.toNat_inj, Z0a, Z0d, Z0q, Z0x, List.cons.injEq] at h
 simp_all only
noncomputable def S61 : Z0n := Z0Q true k61
theorem ks61 (S : List Sec) (W : List Wr) (n : Int) (b : List UInt8) : KS k61 ([.ref 0 0 0, .int .i64 n, .sl (b.map Z03) b.length], Z0q S W) (W.length ≤ 4096 ∧ S.length ≤ 4096) (.int .i64 (wrE S W n b)) (Z0q (wrS S W n b) (wrW S W n b)) := kat inj61 (S, W, n, b)
attribute [push_cast] S61 ks61
theorem body61 (Γ : Env) (h115 : Γ 115 = some S115) (S : List Sec) (W : List Wr) (n : Int) (b : List UInt8) (hW : W.length ≤ 4096) (hS : S.length ≤ 4096) : Z09 Tryz.prog Γ Tryz.f61 [.ref 0 0 0, .int .i64 n, .sl (b.map Z03) b.length] (Z0q S W) (.int .i64 (wrE S W n b)) (Z0q (wrS S W n b) (wrW S W n b)) := by
 have ⟨ps, rs, hs⟩ := ks115 S W n
 unfold wrS wrW
 by_cases h : 0 ≤ n ∧ n < S.length
 case neg =>
  have e : wrE S W n b = 31 := by unfold wrE; rw [if_pos h]
  rw [e, if_neg (by decide), if_neg (by decide)]
  unfold Z0q at *
  rw [if_neg h] at rs
  refine stt 56 [.tmp 6] fun X hP hΓ hL hfin => ?_; refine gxq (cj4 h115 ps rs hs) ?_
  refine ⟨by decide, ?_⟩
  exact Z07.sameA
 by_cases hb : b.length = 1024
 case neg =>
  have e : wrE S W n b = 32 := by unfold wrE; rw [if_neg (fun h' => h' h), if_pos hb]
  rw [e, if_neg (by decide), if_neg (by decide)]
  unfold Z0q at *
  rw [if_pos h] at rs
  have db : decide ((b.length : Int) = 1024) = false := decide_eq_false (by omega)
  refine stt 56 [.tmp 6] fun X hP hΓ hL hfin => ?_; refine gxq (cj5 h115 ps rs hs db) ?_
  refine ⟨by decide, ?_⟩
  exact Z07.sameA
 by_cases hw : W.length = 4096
 ·have e : wrE S W n b = 33 := by unfold wrE; rw [if_neg (fun h' => h' h), if_neg (fun h' => h' hb), if_pos hw]
  rw [e, if_neg (by decide), if_neg (by decide)]
  unfold Z0q at *
  rw [if_pos h] at rs
  have db : decide ((b.length : Int) = 1024) = true := decide_eq_true (by omega)
  have dw : decide ((W.length : Int) = 4096) = true := decide_eq_true (by omega)
  refine stt 56 [.tmp 6] fun X hP hΓ hL hfin => ?_; refine gxq (cj6 h115 ps rs hs db dw) ?_
  refine ⟨by decide, ?_⟩
  exact Z07.sameA
 have e : wrE S W n b = 0 := by unfold wrE; rw [if_neg (fun h' => h' h), if_neg (fun h' => h' hb), if_neg hw]
 rw [e, if_pos rfl, if_pos rfl]
 unfold Z0q at *
 rw [if_pos h] at rs
 obtain ⟨k, rfl⟩ := Int.eq_ofNat_of_zero_le h.1
 have hk : k < S.length := by omega
 have db : decide ((b.length : Int) = 1024) = true := decide_eq_true (by omega)
 have dw : decide ((W.length : Int) = 4096) = false := decide_eq_false (by omega)
 refine stt 56 [.tmp 6] fun X hP hΓ hL hfin => ?_; refine gxq (cj7 h115 ps rs hs db dw hk) ?_
 refine ⟨by decide, ?_⟩
 refine Z02.drawnE (Z1s [.fix (.row [.msl 1 0 0 S.length, .msl 2 W.length 0 W.length] 2 0), .fix (.row (S.flatMap Z2B) 1024 0)]) [1, 2, 3, 4, 5, 6, 7, 8, 9, 10, 11, 12, 15, 18] [] [] true smp (by kernel_rfl) (by kernel_rfl) (by kernel_rfl) smh sms (gyq (cj6 hk @za123 @ZkD @Zh4 @ZhJ @ZlJ) ?_)
 have hm : (k + 1) * 1024 ≤ S.length * 1024 := Nat.mul_le_mul_right _ hk
 refine ⟨by omega, ⟨by omega, by omega⟩, by omega, ?_⟩
 refine Z0D ?_
 refine Z02.drawnE (Z1s [.fix (.row [.msl 1 0 0 S.length, .msl 2 (W.length + 1) 0 (W.length + 1)] 2 0), .row 1024 0]) [0, 1, 2, 3, 4, 5, 7, 8, 9] [] [] true smp (by kernel_rfl) (by kernel_rfl) (by kernel_rfl) smh sms (gyq hk ?_)
 have ho : Z0c (List.take 1024 (List.map Z03 b)) = true := by rw [← List.map_take]; exact Z4m _
 refine ⟨⟨by omega, by omega⟩, by omega, by omega, ⟨by omega, by omega, by omega, ho⟩, ?_⟩
 refine Z0D ?_
 have e3 : min 1024 b.length = 1024 := by omega
 have e4 : List.take 1024 (List.map Z03 b) = Z2B (Z4Y b) := by
  rw [List.take_of_length_le (by rw [List.length_map]; omega), Z2B, Z9M hb]
 rw [e3, e4, Z2X S k (Z4Y b) hk, ← ZiB, List.length_set]
 exact Z07.sameA
theorem con61 {Γ : Env} (h : Z06 Tryz.prog Γ) (h115 : Γ 115 = some S115) : Con Tryz.prog 61 S61 :=
 Z1W h (fn := Tryz.f61) (by kernel_rfl) rfl (by kernel_rfl) inj61 fun ⟨S, W, n, b⟩ h => body61 Γ h115 S W n b h.1 h.2
def Z17 (S : List Sec) (W : List Wr) : Z01 := [.row [.msl 2 0 0 S.length, .msl 3 W.length 0 W.length] 2 0, .row (S.flatMap Z2B) 1024 0, .row (W.flatMap wrC) 1025 W.length]
def k90 : List Sec × List Wr × Int → Ct := fun (S, W, n) => ⟨([.ref 0 0 0, .int .i64 n], Z0q S W), W.length ≤ 4096 ∧ -1000000 ≤ n ∧ n ≤ 1000000, .bool (decide ((W.length : Int) + n ≤ 4096)), Z0q S W⟩
theorem inj90 : ∀ a b, (k90 a).a = (k90 b).a → a = b := by
 rintro ⟨S, W, n⟩ ⟨S', W', n'⟩ h
 simp only [k90, Z0g, Z0h, Z0k, Z0j, UInt8.toNat_inj, Z0a, Z0d, Z0q, Z17, Z0x, List.cons.injEq] at h
 simp_all only
noncomputable def S90 : Z0n := Z0Q true k90
theorem ks90 (S : List Sec) (W : List Wr) (n : Int) : KS k90 ([.ref 0 0 0, .int .i64 n], Z0q S W) (W.length ≤ 4096 ∧ -1000000 ≤ n ∧ n ≤ 1000000) (.bool (decide ((W.length : Int) + n ≤ 4096))) (Z0q S W) := kat inj90 (S, W, n)
attribute [push_cast] S90 ks90
theorem body90 (Γ : Env) (h23 : Γ 23 = some S23) (S : List Sec) (W : List Wr) (n : Int) (hW : W.length ≤ 4096) (hn : -1000000 ≤ n ∧ n ≤ 1000000) : Z09 Tryz.prog Γ Tryz.f90 [.ref 0 0 0, .int .i64 n] (Z0q S W) (.bool (decide ((W.length : Int) + n ≤ 4096))) (Z0q S W) := by
 have ⟨ps, rs, hs⟩ := ks23 S W
 have hl : (wns W).length = W.length := by unfold wns; rw [List.length_map]
 unfold Z0q at *
 refine stt 11 [.tmp 4] fun X hP hΓ hL hfin => ?_; refine gxq (cj5 h23 ps rs hs hl) ?_
 refine ⟨by omega, ?_⟩
 rw [Z08 _ (by constructor <;> omega)]
 exact Z07.sameA
theorem con90 {Γ : Env} (h : Z06 Tryz.prog Γ) (h23 : Γ 23 = some S23) : Con Tryz.prog 90 S90 :=
 Z1W h (fn := Tryz.f90) (by kernel_rfl) rfl (by kernel_rfl) inj90 fun ⟨S, W, n⟩ h => body90 Γ h23 S W n h.1 h.2
def Zhj (n : Int) : List Sec := List.replicate n.toNat default
def k49 : Int → Ct := fun n => ⟨([.int .i64 n], []), True, if 8 ≤ n ∧ n ≤ 1024 then .tup [.ref 0 0 0, .int .i64 0] else .tup [.lit (.pointer none), .int .i64 30], if 8 ≤ n ∧ n ≤ 1024 then Z0q (Zhj n) [] else []⟩
theorem inj49 : ∀ a b, (k49 a).a = (k49 b).a → a = b := by
 rintro n n' h
 simp only [k49, Z0g, Z0h, Z0k, Z0j, UInt8.toNat_inj, Z0a, Z0d, Z0q, Z17, Z0x, List.cons.injEq] at h
 simp_all only
noncomputable def S49 : Z0n := Z0Q true k49
theorem ks49 (n : Int) : KS k49 ([.int .i64 n], []) (True) (if 8 ≤ n ∧ n ≤ 1024 then .tup [.ref 0 0 0, .int .i64 0] else .tup [.lit (.pointer none), .int .i64 30]) (if 8 ≤ n ∧ n ≤ 1024 then Z0q (Zhj n) [] else []) := kat inj49 n
attribute [push_cast] S49 ks49
theorem Zgo (n : Int) : (Zhj n).length = n.toNat := List.length_replicate
theorem Z5n {α : Type} {g : α → List AV} (x : α) : ∀ n : Nat, (List.replicate n x).flatMap g = reps n (g x)
 | 0 => rfl
 | n + 1 => by rw [List.replicate_succ, List.flatMap_cons, Z5n x n]; rfl
theorem body49 (Γ : Env) (n : Int) : Z09 Tryz.prog Γ Tryz.f49 [.int .i64 n] [] (if 8 ≤ n ∧ n ≤ 1024 then .tup [.ref 0 0 0, .int .i64 0] else .tup [.lit (.pointer none), .int .i64 30]) (if 8 ≤ n ∧ n ≤ 1024 then Z0q (Zhj n) [] else []) := by
 by_cases h : 8 ≤ n ∧ n ≤ 1024
 ·have d1 : (decide (n < 8) || decide ((1024 : Int) < n)) = false := by
   rw [Bool.eq_false_iff]; intro h'; simp only [Bool.or_eq_true, decide_eq_true_eq] at h'; omega
  rw [if_pos h, if_pos h]
  unfold Z0q
  refine stt 14 [.tmp 2, .tmp 3] fun X hP hΓ hL hfin => ?_; refine gxq (cj3 d1 @za121 @Zir) ?_
  refine ⟨⟨by omega, by omega, by omega⟩, ?_⟩
  refine Z0o.nilH 1 1 1025 rfl rfl ?_
  simp only [push_cast, Zgo]
  rw [show (List.replicate n.toNat (Z2B default)).flatten = (Zhj n).flatMap Z2B from (Z5n default n.toNat).symm]
  rw [List.flatMap_nil]
  exact Z0o.base [1, 0, 2] ⟨sml, smr, (by decide), (by first | rfl | decide), sm, sm⟩ smd
 ·have d1 : (decide (n < 8) || decide ((1024 : Int) < n)) = true := by
   simp only [Bool.or_eq_true, decide_eq_true_eq]; omega
  rw [if_neg h, if_neg h]
  refine stt 14 [.tmp 2, .tmp 3] fun X hP hΓ hL hfin => ?_; refine gxq d1 ?_
  exact Z07.sameA
theorem con49 {Γ : Env} (h : Z06 Tryz.prog Γ)  : Con Tryz.prog 49 S49 :=
 Z1W h (fn := Tryz.f49) (by kernel_rfl) rfl (by kernel_rfl) inj49 fun n _ => body49 Γ n
def q8 (n : Nat) : Nat := n / 256
def q16 (n : Nat) : Nat := n / 65536
def q24 (n : Nat) : Nat := n / 16777216
def leW (w : Nat) : List UInt8 := [UInt8.ofNat w, UInt8.ofNat (q8 w), UInt8.ofNat (q16 w), UInt8.ofNat (q24 w)]
theorem Z19 (w : Nat) : (leW w).length = 4 := rfl
theorem Z6Z (n : Nat) : IntKind.u8.wrap (n : Int) = ((UInt8.ofNat n).toNat : Int) := by
 rw [show IntKind.u8.wrap (n : Int) = ((n % 256 : Nat) : Int) by simp [IntKind.wrap, IntKind.bits, IntKind.signed]]; congr 1
theorem Z78 (n s : Nat) : (n : Int).fdiv (2 ^ s) = ((n / 2 ^ s : Nat) : Int) := by
 rw [Int.fdiv_eq_ediv_of_nonneg _ (by exact Int.le_of_lt (Int.pow_pos (by omega)))]
 simp
theorem sh8 (w : Nat) : (w : Int).fdiv (2 ^ min (Int.toNat 8) IntKind.u32.bits) = (q8 w : Int) := Z78 w 8
theorem sh16 (w : Nat) : (w : Int).fdiv (2 ^ min (Int.toNat 16) IntKind.u32.bits) = (q16 w : Int) := Z78 w 16
theorem sh24 (w : Nat) : (w : Int).fdiv (2 ^ min (Int.toNat 24) IntKind.u32.bits) = (q24 w : Int) := Z78 w 24
inductive A91 where
 | c0 (w : (Nat))
 | c1 (w : (Nat)) (p : (List UInt8)) (v : (Nat))
def e91 : A91 → List AV × Z01
 | .c0 w => ([.lit (.slice none 0 0), .int .u32 w], [])
 | .c1 w p v => ([.msl 0 v 0 p.length, .int .u32 w], [.row (p.map Z03) 1 v])
def p91 : A91 → Prop
 | .c0 w => True
 | .c1 w p v => p.length ≤ 1000000
def r91 : A91 → AV
 | .c0 w => .msl 0 0 0 4
 | .c1 w p v => .msl 0 (v + 1) 0 (p.length + 4)
def g91 : A91 → Z01
 | .c0 w => [.row ((leW w).map Z03) 1 0]
 | .c1 w p v => [.row ((p ++ leW w).map Z03) 1 (v + 1)]
theorem inj91 : ∀ a b, e91 a = e91 b → a = b := by
 intro a b h
 cases a <;> cases b <;> simp only [e91, Z0g, Z0h, Z0k, Z0j, UInt8.toNat_inj, Z0a, Z0d, Z0q, Z17, Z0x, List.cons.injEq, Fn.func.injEq, reduceCtorEq, Nat.reduceEqDiff, false_and, and_false, List.cons_ne_nil] at h <;> simp_all only
noncomputable def S91 : Z0n := Z6q e91 p91 r91 g91
theorem Zac (w : (Nat)) : Z1R e91 p91 ([.lit (.slice none 0 0), .int .u32 w], []) = (True) := Z0H inj91 p91 (.c0 w)
theorem Z9W (w : (Nat)) : Z0P e91 r91 .any ([.lit (.slice none 0 0), .int .u32 w], []) = (.msl 0 0 0 4) := Z0e inj91 r91 .any (.c0 w)
theorem Zaq (w : (Nat)) : Z0P e91 g91 [] ([.lit (.slice none 0 0), .int .u32 w], []) = ([.row ((leW w).map Z03) 1 0]) := Z0e inj91 g91 [] (.c0 w)
theorem Z6F (w : (Nat)) (p : (List UInt8)) (v : (Nat)) : Z1R e91 p91 ([.msl 0 v 0 p.length, .int .u32 w], [.row (p.map Z03) 1 v]) = (p.length ≤ 1000000) := Z0H inj91 p91 (.c1 w p v)
theorem Z6x (w : (Nat)) (p : (List UInt8)) (v : (Nat)) : Z0P e91 r91 .any ([.msl 0 v 0 p.length, .int .u32 w], [.row (p.map Z03) 1 v]) = (.msl 0 (v + 1) 0 (p.length + 4)) := Z0e inj91 r91 .any (.c1 w p v)
theorem Z6N (w : (Nat)) (p : (List UInt8)) (v : (Nat)) : Z0P e91 g91 [] ([.msl 0 v 0 p.length, .int .u32 w], [.row (p.map Z03) 1 v]) = ([.row ((p ++ leW w).map Z03) 1 (v + 1)]) := Z0e inj91 g91 [] (.c1 w p v)
attribute [push_cast] S91 Zac Z9W Zaq Z6F Z6x Z6N
theorem body91n (Γ : Env) (w : Nat) : Z09 Tryz.prog Γ Tryz.f91 [.lit (.slice none 0 0), .int .u32 w] [] (.msl 0 0 0 4) [.row ((leW w).map Z03) 1 0] := by
 refine stt 19 [.tmp 4] fun X hP hΓ hL hfin => ?_; refine gxq (cj4 @sh8 @sh16 @sh24 @Z6Z) ?_
 exact Z07.sameA
theorem body91 (Γ : Env) (w : Nat) (p : List UInt8) (v : Nat) (hp : p.length ≤ 1000000) : Z09 Tryz.prog Γ Tryz.f91 [.msl 0 v 0 p.length, .int .u32 w] [.row (p.map Z03) 1 v] (.msl 0 (v + 1) 0 (p.length + 4)) [.row ((p ++ leW w).map Z03) 1 (v + 1)] := by
 refine stt 19 [.tmp 4] fun X hP hΓ hL hfin => ?_; refine gxq (cj4 @sh8 @sh16 @sh24 @Z6Z) ?_
 refine ⟨by omega, ?_⟩
 rw [List.map_append]
 exact Z07.sameA
theorem con91 {Γ : Env} (h : Z06 Tryz.prog Γ)  : Con Tryz.prog 91 S91 :=
 Z28 h (fn := Tryz.f91) (by kernel_rfl) rfl (by kernel_rfl) inj91 fun a h => match a, h with | .c0 w, _ => body91n Γ w | .c1 w p v, h => body91 Γ w p v h
theorem Z3I {α : Type} {g : α → List AV} (h : ∀ x, Z0N (g x) = true) : ∀ xs : List α, Z0N (xs.flatMap g) = true
 | [] => rfl
 | x :: xs => by rw [List.flatMap_cons, Z3J, h, Z3I h xs]; rfl
theorem Zk2 (S : List Sec) : Z0N (S.flatMap Z2B) = true := Z3I (fun s => Z2S _) S
theorem ZmD (W : List Wr) : Z0N (W.flatMap wrC) = true := Z3I (fun w => by simp only [wrC, Z0N, Z21, Bool.true_and]; exact Z2S _) W
attribute [push_cast] Zk2 ZmD
def padP (p : List UInt8) : List UInt8 := p ++ List.replicate (1024 - p.length) 0
theorem Z3h {p : List UInt8} (h : p.length ≤ 1024) : (padP p).length = 1024 := by unfold padP; rw [List.length_append, List.length_replicate]; omega
def e92 : (List Sec) × (List Wr) × (List UInt8) × (Nat) × (Int) → List AV × Z01 := fun (S, W, p, v, n) => ([.msl 0 v 0 p.length, .ref 1 0 0, .int .i64 n], .row (p.map Z03) 1 v :: Z17 S W)
def p92 : (List Sec) × (List Wr) × (List UInt8) × (Nat) × (Int) → Prop := fun (S, W, p, v, n) => p.length ≤ 1024 ∧ W.length ≤ 4096 ∧ S.length ≤ 4096
def r92 : (List Sec) × (List Wr) × (List UInt8) × (Nat) × (Int) → AV := fun (S, W, p, v, n) => .tup []
def g92 : (List Sec) × (List Wr) × (List UInt8) × (Nat) × (Int) → Z01 := fun (S, W, p, v, n) => .row ((padP p).map Z03) 1 (v + 1) :: Z17 (wrS S W n (padP p)) (wrW S W n (padP p))
theorem inj92 : ∀ a b, e92 a = e92 b → a = b := by
 rintro ⟨S, W, p, v, n⟩ ⟨S', W', p', v', n'⟩ h
 simp only [e92, Z0g, Z0h, Z0k, Z0j, UInt8.toNat_inj, Z0a, Z0d, Z0q, Z17, Z0x, List.cons.injEq] at h
 simp_all only
noncomputable def S92 : Z0n := Z6q e92 p92 r92 g92
theorem Zly (S : (List Sec)) (W : (List Wr)) (p : (List UInt8)) (v : (Nat)) (n : (Int)) : Z1R e92 p92 ([.msl 0 v 0 p.length, .ref 1 0 0, .int .i64 n], .row (p.map Z03) 1 v :: Z17 S W) = (p.length ≤ 1024 ∧ W.length ≤ 4096 ∧ S.length ≤ 4096) := Z0H inj92 p92 (S, W, p, v, n)
theorem Zlx (S : (List Sec)) (W : (List Wr)) (p : (List UInt8)) (v : (Nat)) (n : (Int)) : Z0P e92 r92 .any ([.msl 0 v 0 p.length, .ref 1 0 0, .int .i64 n], .row (p.map Z03) 1 v :: Z17 S W) = (.tup []) := Z0e inj92 r92 .any (S, W, p, v, n)
theorem ZlC (S : (List Sec)) (W : (List Wr)) (p : (List UInt8)) (v : (Nat)) (n : (Int)) : Z0P e92 g92 [] ([.msl 0 v 0 p.length, .ref 1 0 0, .int .i64 n], .row (p.map Z03) 1 v :: Z17 S W) = (.row ((padP p).map Z03) 1 (v + 1) :: Z17 (wrS S W n (padP p)) (wrW S W n (padP p))) := Z0e inj92 g92 [] (S, W, p, v, n)
attribute [push_cast] S92 Zly Zlx ZlC
theorem body92 (Γ : Env) (h61 : Γ 61 = some S61) (S : List Sec) (W : List Wr) (p : List UInt8) (v : Nat) (n : Int) (hp : p.length ≤ 1024) (hW : W.length ≤ 4096) (hS : S.length ≤ 4096) : Z09 Tryz.prog Γ Tryz.f92 [.msl 0 v 0 p.length, .ref 1 0 0, .int .i64 n] (.row (p.map Z03) 1 v :: Z17 S W) (.tup []) (.row ((padP p).map Z03) 1 (v + 1) :: Z17 (wrS S W n (padP p)) (wrW S W n (padP p))) := by
 have ⟨ps, rs, hs⟩ := ks61 S W n (padP p)
 unfold Z0q at *
 unfold Z17
 obtain ⟨q, hq⟩ : ∃ q, q = 1024 - p.length := ⟨_, rfl⟩
 have e1 : IntKind.i64.wrap (1024 - (p.length : Int)) = (q : Int) := by rw [Z08 _ (by constructor <;> omega)]; omega
 have e2 : List.map Z03 p ++ (List.replicate q [AV.int .u8 0]).flatten = (padP p).map Z03 := by
  unfold padP
  rw [List.map_append, ← hq]
  congr 1
  rw [List.map_replicate]
  clear hq e1
  induction q with
  | zero => rfl
  | succ q ih => rw [List.replicate_succ, List.flatten_cons, ih]; rfl
 have e3 : p.length + q = (padP p).length := by rw [Z3h hp]; omega
 have e4 := Z3h hp
 refine stt 14 [] fun X hP hΓ hL hfin => ?_; apply holds_of_ex X 400; simp (maxSteps := 1000000) only [push_cast, reduceCtorEq, Nat.reduceAdd, Nat.reduceMul, Nat.reduceSub, Nat.reduceBEq, Nat.reduceGT, Nat.reduceLT, Int.toNat_zero, Nat.reduceLeDiff, Int.reduceEq, Int.reduceLT, Int.reduceLE, hP, hΓ, hL, hfin, String.reduceEq, Int.toNat_one, Bool.not_not, h61, ps, rs, hs, e1, e2, e3, Z9O]
 refine ⟨by omega, ⟨by decide, ⟨hW, hS⟩⟩, ?_⟩
 exact Z07.sameA
theorem con92 {Γ : Env} (h : Z06 Tryz.prog Γ) (h61 : Γ 61 = some S61) : Con Tryz.prog 92 S92 :=
 Z28 h (fn := Tryz.f92) (by kernel_rfl) rfl (by kernel_rfl) inj92 fun ⟨S, W, p, v, n⟩ h => body92 Γ h61 S W p v n h.1 h.2.1 h.2.2
def markR : Nat := 827475011
def ZkQ (S : List Sec) (W : List Wr) : List Sec := wrS S W 0 (padP (leW markR))
def ZkP (S : List Sec) (W : List Wr) : List Wr := wrW S W 0 (padP (leW markR))
inductive A37 where
 | c0 
 | c1 (S : (List Sec)) (W : (List Wr))
def e37 : A37 → List AV × Z01
 | .c0  => ([.lit (.pointer none)], [])
 | .c1 S W => ([.ref 0 0 0], Z0q S W)
def p37 : A37 → Prop
 | .c0  => True
 | .c1 S W => W.length ≤ 4096 ∧ S.length ≤ 4096
def r37 : A37 → AV
 | .c0  => .int .i64 1
 | .c1 S W => .int .i64 (if W.length < 4096 then 0 else 174)
def g37 : A37 → Z01
 | .c0  => []
 | .c1 S W => if W.length < 4096 then Z0q (ZkQ S W) (ZkP S W) else Z0q S W
theorem inj37 : ∀ a b, e37 a = e37 b → a = b := by
 intro a b h
 cases a <;> cases b <;> simp only [e37, Z0g, Z0h, Z0k, Z0j, UInt8.toNat_inj, Z0a, Z0d, Z0q, Z17, Z0x, List.cons.injEq, Fn.func.injEq, reduceCtorEq, Nat.reduceEqDiff, false_and, and_false, List.cons_ne_nil] at h <;> simp_all only
noncomputable def S37 : Z0n := Z7w true e37 p37 r37 g37
theorem ZjX  : Z1R e37 p37 ([.lit (.pointer none)], []) = (True) := Z0H inj37 p37 (.c0 )
theorem ZjD  : Z0P e37 r37 .any ([.lit (.pointer none)], []) = (.int .i64 1) := Z0e inj37 r37 .any (.c0 )
theorem ZkE  : Z0P e37 g37 [] ([.lit (.pointer none)], []) = ([]) := Z0e inj37 g37 [] (.c0 )
theorem Zae (S : (List Sec)) (W : (List Wr)) : Z1R e37 p37 ([.ref 0 0 0], Z0q S W) = (W.length ≤ 4096 ∧ S.length ≤ 4096) := Z0H inj37 p37 (.c1 S W)
theorem Z9Y (S : (List Sec)) (W : (List Wr)) : Z0P e37 r37 .any ([.ref 0 0 0], Z0q S W) = (.int .i64 (if W.length < 4096 then 0 else 174)) := Z0e inj37 r37 .any (.c1 S W)
theorem Zas (S : (List Sec)) (W : (List Wr)) : Z0P e37 g37 [] ([.ref 0 0 0], Z0q S W) = (if W.length < 4096 then Z0q (ZkQ S W) (ZkP S W) else Z0q S W) := Z0e inj37 g37 [] (.c1 S W)
attribute [push_cast] S37 ZjX ZjD ZkE Zae Z9Y Zas
theorem body37n (Γ : Env) : Z09 Tryz.prog Γ Tryz.f37 [.lit (.pointer none)] [] (.int .i64 1) [] := by
 refine stt 13 [.tmp 2] fun X hP hΓ hL hfin => ?_; refine Z0D ?_
 exact Z07.sameA
theorem body37 (Γ : Env) (h90 : Γ 90 = some S90) (h91 : Γ 91 = some S91) (h92 : Γ 92 = some S92) (S : List Sec) (W : List Wr) (hW : W.length ≤ 4096) (hS : S.length ≤ 4096) : Z09 Tryz.prog Γ Tryz.f37 [.ref 0 0 0] (Z0q S W) (.int .i64 (if W.length < 4096 then 0 else 174)) (if W.length < 4096 then Z0q (ZkQ S W) (ZkP S W) else Z0q S W) := by
 have ⟨ps, rs, hs⟩ := ks90 S W 1
 have p2 := Zly S W (leW markR) 0 0
 have r2 := Zlx S W (leW markR) 0 0
 have g2 := ZlC S W (leW markR) 0 0
 have p1 := Zac markR
 have r1 := Z9W markR
 have g1 := Zaq markR
 rw [show ((markR : Nat) : Int) = 827475011 from rfl] at p1 r1 g1
 rw [Z19] at p2 r2 g2
 by_cases h : W.length < 4096
 ·have d1 : decide ((W.length : Int) + 1 ≤ 4096) = true := decide_eq_true (by omega)
  rw [if_pos h, if_pos h]
  unfold ZkQ ZkP
  unfold Z0q Z17 at *
  refine stt 13 [.tmp 2] fun X hP hΓ hL hfin => ?_; refine gxq (Zfs h90 h91 h92 ps rs hs d1 p1 r1 g1 p2 r2 g2) ?_
  refine ⟨⟨by decide, hW⟩, ⟨by decide, hW, hS⟩, ?_⟩
  exact Z07.keep3A
 ·have d1 : decide ((W.length : Int) + 1 ≤ 4096) = false := decide_eq_false (by omega)
  rw [if_neg h, if_neg h]
  unfold Z0q at *
  refine stt 13 [.tmp 2] fun X hP hΓ hL hfin => ?_; refine gxq (cj5 h90 ps rs hs d1) ?_
  refine ⟨by omega, ?_⟩
  exact Z07.sameA
theorem con37 {Γ : Env} (h : Z06 Tryz.prog Γ) (h90 : Γ 90 = some S90) (h91 : Γ 91 = some S91) (h92 : Γ 92 = some S92) : Con Tryz.prog 37 S37 :=
 Z29 h (fn := Tryz.f37) (by kernel_rfl) rfl (by kernel_rfl) inj37 fun a h => match a, h with | .c0, _ => body37n Γ | .c1 S W, h => body37 Γ h90 h91 h92 S W h.1 h.2
end Go.Proofs.YtbnnhffkbcekcaaGreatDoor.dirDone
end
