/- Of assembly texts: numbers and registers are read, by the program and by the document. Conditions stand in each. Of assembly texts: numbers and registers are read, by the document. Conditions stand in each. Of assembly texts: registers and conditions, by the document; branches. Conditions stand in each. Of assembly texts: branches, by the program and by the document. Conditions stand in each. -/
import Derived.Test.YtgemeilncdmapaaGreatDoorPO
import Derived.Test.YtgemeilncdmapaaGreatDoorPL
section
namespace Go.Proofs.YtgemeilncdmapaaGreatDoor.asmDone
open Go Go.Eng Go.Proofs Go.RowKit
open Go.Asm (mayB in16 rightB laid sx In flds rightI laidI decB laid_lo ops cnds opT cnT regT sufT nameT hexC hexT sep lastT insT showF joinT numO prgN prgB regO dgt dval ixO)
set_option linter.unusedVariables false
set_option linter.unusedSimpArgs false
set_option maxRecDepth 100000
set_option maxHeartbeats 4000000
def e97 : (List UInt8) → List AV := fun s => [.str s]
def p97 : (List UInt8) → Prop := fun s => s.length ≤ 4194304
def r97 : (List UInt8) → AV := fun s => .tup [.int .i64 (prgN s), .bool (prgB s)]
def g97 : (List UInt8) → Heap := fun s => []
theorem inj97 : ∀ a b, e97 a = e97 b → a = b := by
  rintro s s' h
  simp only [e97, mi_iff, ms_iff, mb_iff, my_iff, UInt8.toNat_inj, List.cons.injEq, AV.int.injEq, AV.str.injEq, AV.bool.injEq, AV.sl.injEq, AV.agg.injEq, AV.ip.injEq, AV.fn.injEq, AV.ifc.injEq, AV.mpr.injEq, Int.natCast_inj, and_true, true_and] at h
  simp_all only
noncomputable def S97 : FSpec := funS e97 p97 r97 g97 true
theorem ps97 (s : (List UInt8)) : psel e97 p97 [.str s] = (s.length ≤ 4194304) := psel_at inj97 p97 s
theorem rs97 (s : (List UInt8)) : rsel e97 r97 .any [.str s] = (.tup [.int .i64 (prgN s), .bool (prgB s)]) := rsel_at inj97 r97 .any s
theorem hs97 (s : (List UInt8)) : rsel e97 g97 [] [.str s] = ([]) := rsel_at inj97 g97 [] s
attribute [push_cast] S97 ps97 rs97 hs97
theorem body97 (Γ : Env) (h121 : Γ 121 = some S121) (h122 : Γ 122 = some S122) (s : List UInt8) (hs : s.length ≤ 4194304) : BodyOk Tryz.prog Γ Tryz.f97 [.str s] [] (.tup [.int .i64 (prgN s), .bool (prgB s)]) [] := by
  cases hpi : Lib.parseIntB 64 s with
  | ok v =>
    have hb := Lib.parseIntB_bounds hpi
    have hv : prgN s = v := by rw [prgN, hpi]
    have hb1 : -9223372036854775808 ≤ v := by simpa using hb.1
    have hb2 : v ≤ 9223372036854775807 := by have := hb.2; simp only [Nat.reduceSub, Nat.reducePow] at this; omega
    rw [prgB, hpi, hv]
    (intro X hP hΓ hL hfin; refine ⟨_, rfl, ?_⟩; rw [show Tryz.f97.ntmps = 20 from rfl]; rw [show Tryz.f97.results.toList = [.tmp 2, .tmp 3] from rfl] at hfin; apply holds_of_ex X 400; simp (maxSteps := 1000000) only [push_cast, reduceCtorEq, Nat.reduceAdd, Nat.reduceMul, Nat.reduceSub, Nat.reduceBEq, Nat.reduceGT, Nat.reduceLT, Int.toNat_zero, Nat.reduceLeDiff, Int.reduceEq, Int.reduceLT, Int.reduceLE, hP, hΓ, hL, hfin, String.reduceEq, not_false_eq_true, if_true, if_false, Int.toNat_one, Bool.not_not, h121, h122, hpi, hv, hs, hb1, hb2, and_self])
    exact Into.sameA
  | range =>
    rw [prgB, hpi]
    (intro X hP hΓ hL hfin; refine ⟨_, rfl, ?_⟩; rw [show Tryz.f97.ntmps = 20 from rfl]; rw [show Tryz.f97.results.toList = [.tmp 2, .tmp 3] from rfl] at hfin; apply holds_of_ex X 400; simp (maxSteps := 1000000) only [push_cast, reduceCtorEq, Nat.reduceAdd, Nat.reduceMul, Nat.reduceSub, Nat.reduceBEq, Nat.reduceGT, Nat.reduceLT, Int.toNat_zero, Nat.reduceLeDiff, Int.reduceEq, Int.reduceLT, Int.reduceLE, hP, hΓ, hL, hfin, String.reduceEq, not_false_eq_true, if_true, if_false, Int.toNat_one, Bool.not_not, h121, h122, hpi, hs])
    exact Into.sameA
  | _ =>
    rw [prgB, hpi]
    (intro X hP hΓ hL hfin; refine ⟨_, rfl, ?_⟩; rw [show Tryz.f97.ntmps = 20 from rfl]; rw [show Tryz.f97.results.toList = [.tmp 2, .tmp 3] from rfl] at hfin; apply holds_of_ex X 400; simp (maxSteps := 1000000) only [push_cast, reduceCtorEq, Nat.reduceAdd, Nat.reduceMul, Nat.reduceSub, Nat.reduceBEq, Nat.reduceGT, Nat.reduceLT, Int.toNat_zero, Nat.reduceLeDiff, Int.reduceEq, Int.reduceLT, Int.reduceLE, hP, hΓ, hL, hfin, String.reduceEq, not_false_eq_true, if_true, if_false, Int.toNat_one, Bool.not_not, h121, h122, hpi, hs])
    exact Into.sameA
theorem con97 {Γ : Env} (h : EnvOk Tryz.prog Γ) (h121 : Γ 121 = some S121) (h122 : Γ 122 = some S122) : Con Tryz.prog 97 S97 :=
  funS_con h (fn := Tryz.f97) (by kernel_rfl) rfl (by kernel_rfl) inj97 (by first | (intro h; cases h; done) | exact fun _ _ => rfl) fun s h => body97 Γ h121 h122 s h
def rgN (s : List UInt8) : Int := prgN (Lib.trimPrefix s [82])
theorem pre_r (s : List UInt8) : (Lib.hasPrefix s [82] = true ∧ ∃ t, s = 82 :: t ∧ Lib.trimPrefix s [82] = t) ∨ (Lib.hasPrefix s [82] = false ∧ ∀ t, s ≠ 82 :: t) := by
  cases s with
  | nil => right; exact ⟨by simp [Lib.hasPrefix], fun t h => by cases h⟩
  | cons c t =>
    by_cases hc : c = 82
    · subst hc; left; exact ⟨by simp [Lib.hasPrefix], t, rfl, by simp [Lib.trimPrefix, Lib.hasPrefix]⟩
    · right; exact ⟨by simp [Lib.hasPrefix, List.isPrefixOf, Ne.symm hc], fun t' h => hc (by cases h; rfl)⟩
theorem reg_no {s : List UInt8} (h : ∀ t, s ≠ 82 :: t) : regO s = none := by
  unfold regO
  split
  · rename_i t; exact absurd rfl (h t)
  · rfl
theorem reg_82 (t : List UInt8) : regO (82 :: t) = match numO t with
    | some n => if 0 ≤ n ∧ n ≤ 15 then some n else none
    | none => none := rfl
theorem rg_is (s : List UInt8) : (Lib.hasPrefix s [82] && prgB (Lib.trimPrefix s [82]) && decide (0 ≤ rgN s) && decide (rgN s ≤ 15)) = (regO s).isSome := by
  rcases pre_r s with ⟨h1, t, rfl, h2⟩ | ⟨h1, h2⟩
  · rw [h1, reg_82, rgN, h2]
    cases hn : numO t with
    | none =>
      have : prgB t = false := by
        cases hb : prgB t with
        | false => rfl
        | true => obtain ⟨n, h, _⟩ := (Go.Asm.prg_is t).1 hb; rw [hn] at h; cases h
      rw [this]; simp
    | some n =>
      simp only
      by_cases hr : 0 ≤ n ∧ n ≤ 15
      · rw [if_pos hr, (Go.Asm.prg_is t).2 ⟨n, hn, by omega, by omega⟩, Go.Asm.prg_val hn (by omega)]
        simp [hr.1, hr.2]
      · rw [if_neg hr]
        cases hb : prgB t with
        | false => simp
        | true =>
          obtain ⟨n', h, hb'⟩ := (Go.Asm.prg_is t).1 hb
          rw [hn] at h; cases h
          rw [Go.Asm.prg_val hn (by omega)]
          simp only [Bool.true_and, Option.isSome_none, Bool.and_eq_false_iff, decide_eq_false_iff_not]
          omega
  · rw [h1, reg_no h2]; rfl
theorem rg_val {s : List UInt8} {n : Int} (h : regO s = some n) : rgN s = n ∧ 0 ≤ n ∧ n ≤ 15 := by
  rcases pre_r s with ⟨h1, t, rfl, h2⟩ | ⟨h1, h2⟩
  · rw [reg_82] at h
    cases hn : numO t with
    | none => rw [hn] at h; cases h
    | some k =>
      rw [hn] at h
      simp only at h
      split at h
      · rename_i hr
        cases h
        exact ⟨by rw [rgN, h2, Go.Asm.prg_val hn (by omega)], hr⟩
      · cases h
  · rw [reg_no h2] at h; cases h
def e69 : (List UInt8) → List AV := fun s => [.str s]
def p69 : (List UInt8) → Prop := fun s => s.length ≤ 4194304
def r69 : (List UInt8) → AV := fun s => .tup [.int .i64 (rgN s), .bool (regO s).isSome]
def g69 : (List UInt8) → Heap := fun s => []
theorem inj69 : ∀ a b, e69 a = e69 b → a = b := by
  rintro s s' h
  simp only [e69, mi_iff, ms_iff, mb_iff, my_iff, UInt8.toNat_inj, List.cons.injEq, AV.int.injEq, AV.str.injEq, AV.bool.injEq, AV.sl.injEq, AV.agg.injEq, AV.ip.injEq, AV.fn.injEq, AV.ifc.injEq, AV.mpr.injEq, Int.natCast_inj, and_true, true_and] at h
  simp_all only
noncomputable def S69 : FSpec := funS e69 p69 r69 g69 true
theorem ps69 (s : (List UInt8)) : psel e69 p69 [.str s] = (s.length ≤ 4194304) := psel_at inj69 p69 s
theorem rs69 (s : (List UInt8)) : rsel e69 r69 .any [.str s] = (.tup [.int .i64 (rgN s), .bool (regO s).isSome]) := rsel_at inj69 r69 .any s
theorem hs69 (s : (List UInt8)) : rsel e69 g69 [] [.str s] = ([]) := rsel_at inj69 g69 [] s
attribute [push_cast] S69 ps69 rs69 hs69
theorem rg_b {s : List UInt8} : IntKind.i64.wrap (rgN s) = rgN s := by
  unfold rgN prgN
  cases h : Lib.parseIntB 64 (Lib.trimPrefix s [82]) with
  | ok v =>
    have hb := Lib.parseIntB_bounds h
    simp only [Nat.reduceSub, Nat.reducePow] at hb
    exact wr_i64 _ (by constructor <;> simp only <;> omega)
  | range =>
    simp only [Lib.intSat]
    split <;> rfl
  | _ => rfl
theorem body69 (Γ : Env) (h97 : Γ 97 = some S97) (h98 : Γ 98 = some S98) (s : List UInt8) (hs : s.length ≤ 4194304) : BodyOk Tryz.prog Γ Tryz.f69 [.str s] [] (.tup [.int .i64 (rgN s), .bool (regO s).isSome]) [] := by
  have hl : (Lib.trimPrefix s [82]).length ≤ 4194304 := by
    unfold Lib.trimPrefix; split
    · rw [List.length_drop]; omega
    · exact hs
  have hb := rg_b (s := s)
  have hg := rg_is s
  have hu : prgN (Lib.trimPrefix s [82]) = rgN s := rfl
  (intro X hP hΓ hL hfin; refine ⟨_, rfl, ?_⟩; rw [show Tryz.f69.ntmps = 31 from rfl]; rw [show Tryz.f69.results.toList = [.tmp 2, .tmp 3] from rfl] at hfin; apply holds_of_ex X 400; simp (maxSteps := 1000000) only [push_cast, reduceCtorEq, Nat.reduceAdd, Nat.reduceMul, Nat.reduceSub, Nat.reduceBEq, Nat.reduceGT, Nat.reduceLT, Int.toNat_zero, Nat.reduceLeDiff, Int.reduceEq, Int.reduceLT, Int.reduceLE, hP, hΓ, hL, hfin, String.reduceEq, not_false_eq_true, if_true, if_false, Int.toNat_one, Bool.not_not, h97, h98, hl, hb, hu])
  rw [hg]
  exact Into.sameA
theorem con69 {Γ : Env} (h : EnvOk Tryz.prog Γ) (h97 : Γ 97 = some S97) (h98 : Γ 98 = some S98) : Con Tryz.prog 69 S69 :=
  funS_con h (fn := Tryz.f69) (by kernel_rfl) rfl (by kernel_rfl) inj69 (by first | (intro h; cases h; done) | exact fun _ _ => rfl) fun s h => body69 Γ h97 h98 s h
end Go.Proofs.YtgemeilncdmapaaGreatDoor.asmDone
end
section
namespace Go.Proofs.YtgemeilncdmapaaGreatDoor.asmDone
open Go Go.Eng Go.Proofs Go.RowKit
open Go.Asm (mayB in16 rightB laid sx In flds rightI laidI decB laid_lo ops cnds opT cnT regT sufT nameT hexC hexT sep lastT insT showF joinT numO prgN prgB regO dgt dval ixO)
set_option linter.unusedVariables false
set_option linter.unusedSimpArgs false
set_option maxRecDepth 100000
set_option maxHeartbeats 4000000
end Go.Proofs.YtgemeilncdmapaaGreatDoor.asmDone
end
section
namespace Go.Proofs.YtgemeilncdmapaaGreatDoor.asmDone
open Go Go.Eng Go.Proofs Go.RowKit
open Go.Asm (mayB in16 rightB laid sx In flds rightI laidI decB laid_lo ops cnds opT cnT regT sufT nameT hexC hexT sep lastT insT showF joinT numO prgN prgB regO dgt dval ixO blk)
set_option linter.unusedVariables false
set_option linter.unusedSimpArgs false
set_option maxRecDepth 100000
set_option maxHeartbeats 4000000
def fnd (l : List (List UInt8)) (s : List UInt8) : Int := match ixO l s with | some k => (k : Int) | none => -1
end Go.Proofs.YtgemeilncdmapaaGreatDoor.asmDone
end
section
namespace Go.Proofs.YtgemeilncdmapaaGreatDoor.asmDone
open Go Go.Eng Go.Proofs Go.RowKit
open Go.Asm (mayB in16 rightB laid sx In flds rightI laidI decB laid_lo ops cnds opT cnT regT sufT nameT hexC hexT sep lastT insT showF joinT numO prgN prgB regO dgt dval ixO blk brO)
set_option linter.unusedVariables false
set_option linter.unusedSimpArgs false
set_option maxRecDepth 100000
set_option maxHeartbeats 4000000
theorem prg_bd (s : List UInt8) : -9223372036854775808 ≤ prgN s ∧ prgN s ≤ 9223372036854775807 := by
  unfold prgN
  cases h : Lib.parseIntB 64 s with
  | ok v =>
    have hb := Lib.parseIntB_bounds h
    simp only [Nat.reduceSub, Nat.reducePow] at hb
    simp only; omega
  | range => simp only [Lib.intSat]; split <;> simp
  | _ => simp
/-- how far, in bytes -/
def dN (n at_ : Int) : Int := sx ((n - at_ - 4) % 4294967296) 4294967296
theorem dN_b (n at_ : Int) : -2147483648 ≤ dN n at_ ∧ dN n at_ ≤ 2147483647 := by unfold dN sx; split <;> omega
theorem dN_is (n at_ : Int) : IntKind.i32.wrap (IntKind.u32.wrap (IntKind.u32.wrap (IntKind.u32.wrap n - at_) - 4)) = dN n at_ := by
  simp only [u32w]
  rw [i32w _ (by omega), show ((n % 4294967296 - at_) % 4294967296 - 4) % 4294967296 = (n - at_ - 4) % 4294967296 by omega]
  unfold dN sx
  split <;> split <;> omega
theorem i32i (n : Int) (h : -2147483648 ≤ n ∧ n ≤ 2147483647) : IntKind.i32.wrap n = n := by
  have e : IntKind.i32.wrap n = (n + 2147483648) % 4294967296 - 2147483648 := by simp [IntKind.wrap, IntKind.bits, IntKind.signed]; omega
  rw [e]; omega
def brV (l : List (List UInt8)) (at_ : Int) : In := match l with
  | [x, y] => if (regO y).isSome then ⟨3, false, false, fnd cnds x, 0, 0, rgN y, 0⟩ else ⟨3, true, false, fnd cnds x, 0, 0, 0, (dN (prgN y) at_).tdiv 4⟩
  | _ => ⟨3, false, false, -1, 0, 0, 0, 0⟩
def brB (l : List (List UInt8)) (at_ : Int) : Bool := match l with
  | [_, y] => (regO y).isSome || (prgB y && decide (0 ≤ prgN y) && decide (prgN y = prgN y % 4294967296) && decide ((dN (prgN y) at_).tmod 4 = 0))
  | _ => false
theorem br_no {l : List (List UInt8)} (h : l.length ≠ 2) (at_ : Int) : brV l at_ = ⟨3, false, false, -1, 0, 0, 0, 0⟩ ∧ brB l at_ = false := by
  match l, h with
  | [], _ => exact ⟨rfl, rfl⟩
  | [_], _ => exact ⟨rfl, rfl⟩
  | [_, _], h => exact absurd rfl h
  | _ :: _ :: _ :: _, _ => exact ⟨rfl, rfl⟩
/-- the condition among the first -/
def fk (x : List UInt8) (k : Nat) : Int := fnd (cnds.take k) x
theorem ix_snoc (l : List (List UInt8)) (y x : List UInt8) : ixO (l ++ [y]) x = match ixO l x with | some j => some j | none => if y = x then some l.length else none := by
  induction l with
  | nil => simp only [List.nil_append, ixO]; split <;> rfl
  | cons z r ih =>
    rw [List.cons_append, ixO, ixO]
    split
    · rfl
    · rw [ih]
      cases ixO r x with
      | some j => rfl
      | none => simp only [Option.map_none, List.length_cons]; split <;> rfl
theorem fk_step (x : List UInt8) (k : Nat) (h : k < 16) : fk x (k + 1) = if cnT (k : Int) = x then (k : Int) else fk x k := by
  have key : ∀ i : Fin 16, ixO (cnds.take i.1) (cnT (i.1 : Int)) = none ∧ cnds.take (i.1 + 1) = cnds.take i.1 ++ [cnT (i.1 : Int)] ∧ (cnds.take i.1).length = i.1 := by decide
  obtain ⟨k1, k2, k3⟩ := key ⟨k, h⟩
  simp only at k1 k2 k3
  unfold fk fnd
  rw [k2, ix_snoc]
  by_cases hc : cnT (k : Int) = x
  · subst hc
    rw [k1, if_pos rfl]; simp only [if_true]; omega
  · rw [if_neg hc]
    cases ixO (cnds.take k) x with
    | some j => simp only [if_neg hc]
    | none => simp only [if_neg hc]
theorem fk_all (x : List UInt8) : fk x 16 = fnd cnds x := rfl
def e68 : (List (List UInt8)) × (Int) → List AV := fun (l, at_) => [.sl (l.map AV.str) l.length, .int .u32 at_]
def p68 : (List (List UInt8)) × (Int) → Prop := fun (l, at_) => (∀ x ∈ l, x.length ≤ 4194304) ∧ l.length ≤ 4194304 ∧ (0 ≤ at_ ∧ at_ < 4294967296)
def r68 : (List (List UInt8)) × (Int) → AV := fun (l, at_) => .tup [agI (brV l at_), .bool (brB l at_)]
def g68 : (List (List UInt8)) × (Int) → Heap := fun (l, at_) => []
theorem inj68 : ∀ a b, e68 a = e68 b → a = b := by
  rintro ⟨l, at_⟩ ⟨l', at_'⟩ h
  simp only [e68, mi_iff, ms_iff, mb_iff, my_iff, UInt8.toNat_inj, List.cons.injEq, AV.int.injEq, AV.str.injEq, AV.bool.injEq, AV.sl.injEq, AV.agg.injEq, AV.ip.injEq, AV.fn.injEq, AV.ifc.injEq, AV.mpr.injEq, Int.natCast_inj, and_true, true_and] at h
  simp_all only
noncomputable def S68 : FSpec := funS e68 p68 r68 g68 true
theorem ps68 (l : (List (List UInt8))) (at_ : (Int)) : psel e68 p68 [.sl (l.map AV.str) l.length, .int .u32 at_] = ((∀ x ∈ l, x.length ≤ 4194304) ∧ l.length ≤ 4194304 ∧ (0 ≤ at_ ∧ at_ < 4294967296)) := psel_at inj68 p68 (l, at_)
theorem rs68 (l : (List (List UInt8))) (at_ : (Int)) : rsel e68 r68 .any [.sl (l.map AV.str) l.length, .int .u32 at_] = (.tup [agI (brV l at_), .bool (brB l at_)]) := rsel_at inj68 r68 .any (l, at_)
theorem hs68 (l : (List (List UInt8))) (at_ : (Int)) : rsel e68 g68 [] [.sl (l.map AV.str) l.length, .int .u32 at_] = ([]) := rsel_at inj68 g68 [] (l, at_)
attribute [push_cast] S68 ps68 rs68 hs68
theorem body68 (Γ : Env) (h22 : Γ 22 = some S22) (h69 : Γ 69 = some S69) (h97 : Γ 97 = some S97) (l : List (List UInt8)) (at_ : Int) (hx : ∀ x ∈ l, x.length ≤ 4194304) (hl : l.length ≤ 4194304) (hat : 0 ≤ at_ ∧ at_ < 4294967296) : BodyOk Tryz.prog Γ Tryz.f68 [.sl (l.map AV.str) l.length, .int .u32 at_] [] (.tup [agI (brV l at_), .bool (brB l at_)]) [] := by
  by_cases h2 : l.length = 2
  case neg =>
    obtain ⟨e1, e2⟩ := br_no h2 at_
    have hd : decide (((l.length : Nat) : Int) = 2) = false := decide_eq_false (by omega)
    rw [e1, e2]
    (intro X hP hΓ hL hfin; refine ⟨_, rfl, ?_⟩; rw [show Tryz.f68.ntmps = 77 from rfl]; rw [show Tryz.f68.results.toList = [.cell 4 42, .tmp 5] from rfl] at hfin; apply holds_of_ex X 400; simp (maxSteps := 1000000) only [push_cast, reduceCtorEq, Nat.reduceAdd, Nat.reduceMul, Nat.reduceSub, Nat.reduceBEq, Nat.reduceGT, Nat.reduceLT, Int.toNat_zero, Nat.reduceLeDiff, Int.reduceEq, Int.reduceLT, Int.reduceLE, hP, hΓ, hL, hfin, String.reduceEq, not_false_eq_true, if_true, if_false, Int.toNat_one, Bool.not_not, hd])
    exact Into.one rfl rfl
  match l, h2 with
  | [x, y], _ =>
    have hx0 := hx x (by simp)
    have hy0 := hx y (by simp)
    show BodyOk Tryz.prog Γ Tryz.f68 [.sl [.str x, .str y] 2, .int .u32 at_] [] (.tup [agI (brV [x, y] at_), .bool (brB [x, y] at_)]) []
    (intro X hP hΓ hL hfin; refine ⟨_, rfl, ?_⟩; rw [show Tryz.f68.ntmps = 77 from rfl]; rw [show Tryz.f68.results.toList = [.cell 4 42, .tmp 5] from rfl] at hfin; apply holds_of_ex X 400; simp (maxSteps := 1000000) only [push_cast, reduceCtorEq, Nat.reduceAdd, Nat.reduceMul, Nat.reduceSub, Nat.reduceBEq, Nat.reduceGT, Nat.reduceLT, Int.toNat_zero, Nat.reduceLeDiff, Int.reduceEq, Int.reduceLT, Int.reduceLE, hP, hΓ, hL, hfin, String.reduceEq, not_false_eq_true, if_true, if_false, Int.toNat_one, Bool.not_not, Int.reduceAdd])
    refine Holds.loopM (ι := {k : Nat // k ≤ 16}) [true, true, false, false, true, true, true, false, true, true, true, true, true, false, false, false, false, false, false, false, false, false, false, false, false, false, false, false, false, false, false, false, false, false, false, false, false, false, false, false, false, false, false, false, false, false, false, false, false, false, false, false, false, false, false, false, false, false, false, false, false, false, false, false, false, false, false, false, false, false, false, false, false, false, false, false, false] (fun i => [(18, .int .i64 i.1)]) (fun i => [.row [.int .i64 0, .bool false, .bool false, .int .i64 0, .int .i64 0, .int .i64 0, .int .i64 0, .int .i64 0] 8 0, .row [.int .i64 3, .bool false, .bool false, .int .i64 (fk x i.1), .int .i64 0, .int .i64 0, .int .i64 0, .int .i64 0] 8 0]) (fun i => 16 - i.1) ⟨0, by decide⟩ ?_ ?_
    · rw [hL]
      simp only [push_cast, Int.natCast_zero, show fk x 0 = -1 from rfl]
      exact Into.sameA
    rintro ⟨k, hk⟩
    ((first | with_reducible refine holds_of_ex X 400 _ _ _ ?_ | skip); simp (maxSteps := 1000000) only [push_cast, reduceCtorEq, Nat.reduceAdd, Nat.reduceMul, Nat.reduceSub, Nat.reduceBEq, Nat.reduceGT, Nat.reduceLT, Int.toNat_zero, Nat.reduceLeDiff, Int.reduceEq, Int.reduceLT, Int.reduceLE, hP, hΓ, hL, hfin, String.reduceEq, not_false_eq_true, if_true, if_false, Int.toNat_one, Bool.not_not])
    ((with_reducible refine exB_split (fun h => ?_) (fun h => ?_)) <;> (try simp only [decide_eq_true_eq, decide_eq_false_iff_not, Bool.and_eq_true, Bool.or_eq_true, Bool.and_eq_false_iff, Bool.or_eq_false_iff, Bool.not_eq_true', Bool.not_eq_false', Bool.not_eq_true, Bool.not_eq_false, Int.not_lt, Int.not_le, beq_iff_eq, beq_eq_false_iff_ne, ne_eq] at h))
    · have hk' : k < 16 := by omega
      have hk0 : 0 ≤ (k : Int) ∧ (k : Int) ≤ 15 := by omega
      have hs := fk_step x k hk'
      ((first | with_reducible refine holds_of_ex X 400 _ _ _ ?_ | skip); simp (maxSteps := 1000000) only [push_cast, reduceCtorEq, Nat.reduceAdd, Nat.reduceMul, Nat.reduceSub, Nat.reduceBEq, Nat.reduceGT, Nat.reduceLT, Int.toNat_zero, Nat.reduceLeDiff, Int.reduceEq, Int.reduceLT, Int.reduceLE, hP, hΓ, hL, hfin, String.reduceEq, not_false_eq_true, if_true, if_false, Int.toNat_one, Bool.not_not])
      by_cases hc : cnT (k : Int) = x
      · rw [if_pos hc] at hs
        have hb : (cnT (k : Int) == x) = true := beq_iff_eq.2 hc
        (refine Holds.drawnQ (by rw [hP]; kernel_rfl) (by kernel_rfl) ?_; simp (maxSteps := 1000000) only [push_cast, reduceCtorEq, Nat.reduceAdd, Nat.reduceMul, Nat.reduceSub, Nat.reduceBEq, Nat.reduceGT, Nat.reduceLT, Int.toNat_zero, Nat.reduceLeDiff, Int.reduceEq, Int.reduceLT, Int.reduceLE, hP, hΓ, hL, hfin, String.reduceEq, not_false_eq_true, if_true, if_false, Int.toNat_one, Bool.not_not, h22, hk0, and_self, hb])
        refine ⟨by omega, ⟨k + 1, hk'⟩, by simp only; omega, ?_⟩
        dsimp only
        rw [hs, wr_i64 ((k : Int) + 1) (by constructor <;> omega)]
        exact Into.sameA
      · rw [if_neg hc] at hs
        have hb : (cnT (k : Int) == x) = false := beq_eq_false_iff_ne.2 hc
        (refine Holds.drawnQ (by rw [hP]; kernel_rfl) (by kernel_rfl) ?_; simp (maxSteps := 1000000) only [push_cast, reduceCtorEq, Nat.reduceAdd, Nat.reduceMul, Nat.reduceSub, Nat.reduceBEq, Nat.reduceGT, Nat.reduceLT, Int.toNat_zero, Nat.reduceLeDiff, Int.reduceEq, Int.reduceLT, Int.reduceLE, hP, hΓ, hL, hfin, String.reduceEq, not_false_eq_true, if_true, if_false, Int.toNat_one, Bool.not_not, h22, hk0, and_self, hb])
        refine ⟨by omega, ⟨k + 1, hk'⟩, by simp only; omega, ?_⟩
        dsimp only
        rw [hs, wr_i64 ((k : Int) + 1) (by constructor <;> omega)]
        exact Into.sameA
    · obtain rfl : k = 16 := by omega
      rw [fk_all]
      cases hr : regO y with
      | some c =>
        have e1 : brV [x, y] at_ = ⟨3, false, false, fnd cnds x, 0, 0, rgN y, 0⟩ := by rw [brV, hr]; rfl
        have e2 : brB [x, y] at_ = true := by rw [brB, hr]; rfl
        rw [e1, e2] at hfin
        ((first | with_reducible refine holds_of_ex X 400 _ _ _ ?_ | skip); simp (maxSteps := 1000000) only [push_cast, reduceCtorEq, Nat.reduceAdd, Nat.reduceMul, Nat.reduceSub, Nat.reduceBEq, Nat.reduceGT, Nat.reduceLT, Int.toNat_zero, Nat.reduceLeDiff, Int.reduceEq, Int.reduceLT, Int.reduceLE, hP, hΓ, hL, hfin, String.reduceEq, not_false_eq_true, if_true, if_false, Int.toNat_one, Bool.not_not, h69, hr, hy0, Option.isSome_some])
        refine ⟨by omega, ?_⟩
        exact Into.one rfl rfl
      | none =>
        have hp := prg_bd y
        have hb := dN_b (prgN y) at_
        have ht : -2147483648 ≤ (dN (prgN y) at_).tdiv 4 ∧ (dN (prgN y) at_).tdiv 4 ≤ 2147483647 := by
          have h1 := Int.tdiv_mul_add_tmod (dN (prgN y) at_) 4
          have h2 := Int.tmod_lt_of_pos (dN (prgN y) at_) (show (0 : Int) < 4 by decide)
          have h3 : -4 < (dN (prgN y) at_).tmod 4 := by
            have := Int.tmod_lt_of_pos (-(dN (prgN y) at_)) (show (0 : Int) < 4 by decide)
            rw [Int.neg_tmod] at this; omega
          omega
        have e1 : brV [x, y] at_ = ⟨3, true, false, fnd cnds x, 0, 0, 0, (dN (prgN y) at_).tdiv 4⟩ := by rw [brV, hr]; rfl
        have e2 : brB [x, y] at_ = (prgB y && decide (0 ≤ prgN y) && decide (prgN y = prgN y % 4294967296) && decide ((dN (prgN y) at_).tmod 4 = 0)) := by rw [brB, hr]; rfl
        rw [e1, e2] at hfin
        have w1 : IntKind.i64.wrap (IntKind.u32.wrap (prgN y)) = prgN y % 4294967296 := by rw [u32w]; exact wr_i64 _ (by constructor <;> omega)
        have w2 : IntKind.i64.wrap (IntKind.i32.wrap ((dN (prgN y) at_).tdiv 4)) = (dN (prgN y) at_).tdiv 4 := by
          have : IntKind.i32.wrap ((dN (prgN y) at_).tdiv 4) = (dN (prgN y) at_).tdiv 4 := i32i _ (by omega)
          rw [this]; exact wr_i64 _ (by constructor <;> omega)
        ((first | with_reducible refine holds_of_ex X 400 _ _ _ ?_ | skip); simp (maxSteps := 1000000) only [push_cast, reduceCtorEq, Nat.reduceAdd, Nat.reduceMul, Nat.reduceSub, Nat.reduceBEq, Nat.reduceGT, Nat.reduceLT, Int.toNat_zero, Nat.reduceLeDiff, Int.reduceEq, Int.reduceLT, Int.reduceLE, hP, hΓ, hL, hfin, String.reduceEq, not_false_eq_true, if_true, if_false, Int.toNat_one, Bool.not_not, h69, h97, hr, hy0, Option.isSome_none, dN_is, w1, w2])
        refine ⟨by omega, by omega, ?_⟩
        exact Into.one rfl rfl
theorem con68 {Γ : Env} (h : EnvOk Tryz.prog Γ) (h22 : Γ 22 = some S22) (h69 : Γ 69 = some S69) (h97 : Γ 97 = some S97) : Con Tryz.prog 68 S68 :=
  funS_con h (fn := Tryz.f68) (by kernel_rfl) rfl (by kernel_rfl) inj68 (by first | (intro h; cases h; done) | exact fun _ _ => rfl) fun ⟨l, at_⟩ h => body68 Γ h22 h69 h97 l at_ h.1 h.2.1 h.2.2
/-- what may be, or nothing is said -/
def oA : Option In → AV
  | some i => agI i
  | none => .any
theorem oA_none : oA none = .any := rfl
theorem oA_some (i : In) : oA (some i) = agI i := rfl
theorem br_len {l : List (List UInt8)} (h : l.length ≠ 2) (v : Bool) (at_ : Int) : brO v l at_ = none := by
  match l, h with
  | [], _ => rfl
  | [_], _ => rfl
  | [_, _], h => exact absurd rfl h
  | _ :: _ :: _ :: _, _ => rfl
end Go.Proofs.YtgemeilncdmapaaGreatDoor.asmDone
end
