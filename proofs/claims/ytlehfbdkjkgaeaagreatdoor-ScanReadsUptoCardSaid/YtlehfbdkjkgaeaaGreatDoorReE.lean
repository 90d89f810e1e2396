/- Of sources: the reference's tokens. Conditions stand in each. -/
import Derived.Test.YtlehfbdkjkgaeaaGreatDoorReD
namespace Go.Proofs.YtlehfbdkjkgaeaaGreatDoor.scanRef
open Go Go.Eng Go.Proofs Go.Scan Go.RowKit
set_option linter.unusedVariables false
set_option linter.unusedSimpArgs false
set_option maxRecDepth 100000
set_option maxHeartbeats 4000000

/-- a token -/
def tkA (k : Int) (t : Bytes) (n p : Int) : AV := .agg [.int .i64 k, .str t, .int .i64 n, .int .i64 p]
def nuA (w : Bytes) (at_ : Int) : AV := match numb w with
  | some (k, n) => .tup [tkA k [] n at_, .bool true]
  | none => .tup [tkA (if w.getLast? = some 88 then 4 else 3) [] 0 at_, .bool false]
theorem last_eq (w : Bytes) (h : w ≠ []) : w.getLast? = some (w.getD (w.length - 1) 0) := by
  rw [List.getLast?_eq_getElem?]
  have : w.length - 1 < w.length := by have := List.length_pos_iff.2 h; omega
  simp [List.getD, this]
def e34 : (Bytes) × (Int) → List AV := fun (w, p) => [.str w, .int .i64 p]
def p34 : (Bytes) × (Int) → Prop := fun (w, p) => w ≠ [] ∧ w.length ≤ 4194304
def r34 : (Bytes) × (Int) → AV := fun (w, p) => nuA w p
def g34 : (Bytes) × (Int) → Heap := fun (w, p) => []
theorem inj34 : ∀ a b, e34 a = e34 b → a = b := by
  rintro ⟨w, p⟩ ⟨w', p'⟩ h
  simp only [e34, mi_iff, ms_iff, mb_iff, my_iff, UInt8.toNat_inj, List.cons.injEq, AV.int.injEq, AV.str.injEq, AV.bool.injEq, AV.sl.injEq, AV.agg.injEq, AV.ip.injEq, AV.fn.injEq, AV.ifc.injEq, AV.mpr.injEq, Int.natCast_inj, and_true, true_and] at h
  simp_all only
noncomputable def S34 : FSpec := funS e34 p34 r34 g34 true
theorem ps34 (w : (Bytes)) (p : (Int)) : psel e34 p34 [.str w, .int .i64 p] = (w ≠ [] ∧ w.length ≤ 4194304) := psel_at inj34 p34 (w, p)
theorem rs34 (w : (Bytes)) (p : (Int)) : rsel e34 r34 .any [.str w, .int .i64 p] = (nuA w p) := rsel_at inj34 r34 .any (w, p)
theorem hs34 (w : (Bytes)) (p : (Int)) : rsel e34 g34 [] [.str w, .int .i64 p] = ([]) := rsel_at inj34 g34 [] (w, p)
attribute [push_cast] S34 ps34 rs34 hs34
theorem body34 (Γ : Env) (h47 : Γ 47 = some S47) (h48 : Γ 48 = some S48) (w : Bytes) (p : Int) (hne : w ≠ []) (hl : w.length ≤ 4194304) : BodyOk Tryz.prog Γ Tryz.f34 (e34 (w, p)) [] (nuA w p) [] := by
  have hlast := last_eq w hne
  have hpos : 0 < w.length := List.length_pos_iff.2 hne
  have hi : ((w.length : Int) - 1).toNat = w.length - 1 := by omega
  have hdl : List.take (w.length - 1) w = w.dropLast := List.dropLast_eq_take.symm
  have hnu : numb w = if w.getLast? = some 72 then (numM hexD 16 4294967295 w.dropLast).map (fun (n : Nat) => ((3 : Int), sgn32 n)) else if w.getLast? = some 88 then (numM hexD 16 255 w.dropLast).map (fun (n : Nat) => ((4 : Int), (n : Int))) else (numM decD 10 2147483647 w).map (fun (n : Nat) => ((3 : Int), (n : Int))) := rfl
  (intro X hP hΓ hL hfin; refine ⟨_, rfl, ?_⟩; rw [show Tryz.f34.ntmps = 58 from rfl]; rw [show Tryz.f34.results.toList = [.cell 4 29, .tmp 5] from rfl] at hfin; apply holds_of_ex X 400; simp (maxSteps := 1000000) only [push_cast, reduceCtorEq, Nat.reduceAdd, Nat.reduceMul, Nat.reduceSub, Nat.reduceBEq, Nat.reduceGT, Nat.reduceLT, Int.toNat_zero, Nat.reduceLeDiff, Int.reduceEq, Int.reduceLT, Int.reduceLE, hP, hΓ, hL, hfin, String.reduceEq, not_false_eq_true, if_true, e34, wr_i64 ((w.length : Int) - 1) (by constructor <;> omega), hi])
  generalize hcg : w.getD (w.length - 1) 0 = c at *
  rw [hlast] at hnu
  refine ⟨by omega, ?_⟩
  ((with_reducible refine exB_split (fun h => ?_) (fun h => ?_)) <;> (try simp only [decide_eq_true_eq, decide_eq_false_iff_not, Bool.and_eq_true, Bool.or_eq_true, Bool.and_eq_false_iff, Bool.or_eq_false_iff, Bool.not_eq_true', Bool.not_eq_false', Bool.not_eq_true, Bool.not_eq_false, Int.not_lt, Int.not_le, beq_iff_eq, beq_eq_false_iff_ne, ne_eq] at h))
  · have hc : c = 72 := by rw [← UInt8.toNat_inj]; show c.toNat = 72; omega
    rw [if_pos (by rw [hc])] at hnu
    have hnl : ∀ n, numM hexD 16 4294967295 w.dropLast = some n → n ≤ 4294967295 := fun n h => numM_le h
    generalize hN : numM hexD 16 4294967295 w.dropLast = N at *
    have hN' : numM hexD 16 (Int.toNat 4294967295) w.dropLast = N := hN
    have hml : (w.dropLast).length ≤ 4194304 := by rw [List.length_dropLast]; omega
    have hnone : N = none → nuA w p = .tup [tkA 3 [] 0 p, .bool false] := fun e => by rw [nuA, hnu, e, hlast, hc]; rfl
    have hsome : ∀ n : Nat, N = some n → nuA w p = .tup [tkA 3 [] (sgn32 n) p, .bool true] := fun n e => by rw [nuA, hnu, e]; rfl
    ((first | with_reducible refine holds_of_ex X 400 _ _ _ ?_ | skip); simp (maxSteps := 1000000) only [push_cast, reduceCtorEq, Nat.reduceAdd, Nat.reduceMul, Nat.reduceSub, Nat.reduceBEq, Nat.reduceGT, Nat.reduceLT, Int.toNat_zero, Nat.reduceLeDiff, Int.reduceEq, Int.reduceLT, Int.reduceLE, hP, hΓ, hL, hfin, String.reduceEq, not_false_eq_true, if_true, h47, hi, hdl, hN', wr_i64 ((w.length : Int) - 1) (by constructor <;> omega)])
    refine ⟨⟨by omega, by omega⟩, hml, ?_⟩
    ((with_reducible refine exB_split (fun h => ?_) (fun h => ?_)) <;> (try simp only [decide_eq_true_eq, decide_eq_false_iff_not, Bool.and_eq_true, Bool.or_eq_true, Bool.and_eq_false_iff, Bool.or_eq_false_iff, Bool.not_eq_true', Bool.not_eq_false', Bool.not_eq_true, Bool.not_eq_false, Int.not_lt, Int.not_le, beq_iff_eq, beq_eq_false_iff_ne, ne_eq] at h))
    · obtain ⟨n, rfl⟩ : ∃ n, N = some n := by
        cases N with
        | none => exact absurd h (by show ¬ (2147483648 : Int) ≤ 0; decide)
        | some n => exact ⟨n, rfl⟩
      have hn := hnl n rfl
      have hno : numO (some n) = (n : Int) := rfl
      rw [hno] at h
      have hs : sgn32 n = (n : Int) - 4294967296 := by rw [sgn32, if_pos (by omega)]
      have hQ2 := hsome n rfl
      rw [hs] at hQ2
      ((first | with_reducible refine holds_of_ex X 400 _ _ _ ?_ | skip); simp (maxSteps := 1000000) only [push_cast, reduceCtorEq, Nat.reduceAdd, Nat.reduceMul, Nat.reduceSub, Nat.reduceBEq, Nat.reduceGT, Nat.reduceLT, Int.toNat_zero, Nat.reduceLeDiff, Int.reduceEq, Int.reduceLT, Int.reduceLE, hP, hΓ, hL, hfin, String.reduceEq, not_false_eq_true, if_true, hno, wr_i64 ((n : Int) - 4294967296) (by constructor <;> omega)])
      rw [hQ2]
      exact Into.one rfl rfl
    · have h' := h
      ((first | with_reducible refine holds_of_ex X 400 _ _ _ ?_ | skip); simp (maxSteps := 1000000) only [push_cast, reduceCtorEq, Nat.reduceAdd, Nat.reduceMul, Nat.reduceSub, Nat.reduceBEq, Nat.reduceGT, Nat.reduceLT, Int.toNat_zero, Nat.reduceLeDiff, Int.reduceEq, Int.reduceLT, Int.reduceLE, hP, hΓ, hL, hfin, String.reduceEq, not_false_eq_true, if_true])
      cases N with
      | none => rw [hnone rfl]; exact Into.one rfl rfl
      | some n =>
        have hno : numO (some n) = (n : Int) := rfl
        rw [hno] at h'
        have hs : sgn32 n = (n : Int) := by rw [sgn32, if_neg (by omega)]
        have hQ2 := hsome n rfl
        rw [hs] at hQ2
        rw [hQ2]
        exact Into.one rfl rfl
  have h72 : c ≠ 72 := by intro e; subst e; exact absurd rfl h
  rw [if_neg (by simpa using h72)] at hnu
  ((first | with_reducible refine holds_of_ex X 400 _ _ _ ?_ | skip); simp (maxSteps := 1000000) only [push_cast, reduceCtorEq, Nat.reduceAdd, Nat.reduceMul, Nat.reduceSub, Nat.reduceBEq, Nat.reduceGT, Nat.reduceLT, Int.toNat_zero, Nat.reduceLeDiff, Int.reduceEq, Int.reduceLT, Int.reduceLE, hP, hΓ, hL, hfin, String.reduceEq, not_false_eq_true, if_true])
  ((with_reducible refine exB_split (fun h => ?_) (fun h => ?_)) <;> (try simp only [decide_eq_true_eq, decide_eq_false_iff_not, Bool.and_eq_true, Bool.or_eq_true, Bool.and_eq_false_iff, Bool.or_eq_false_iff, Bool.not_eq_true', Bool.not_eq_false', Bool.not_eq_true, Bool.not_eq_false, Int.not_lt, Int.not_le, beq_iff_eq, beq_eq_false_iff_ne, ne_eq] at h))
  · have hc : c = 88 := by rw [← UInt8.toNat_inj]; show c.toNat = 88; omega
    rw [if_pos (by rw [hc])] at hnu
    generalize hN : numM hexD 16 255 w.dropLast = N at *
    have hN' : numM hexD 16 (Int.toNat 255) w.dropLast = N := hN
    have hml : (w.dropLast).length ≤ 4194304 := by rw [List.length_dropLast]; omega
    have hnone : N = none → nuA w p = .tup [tkA 4 [] 0 p, .bool false] := fun e => by rw [nuA, hnu, e, hlast, hc]; rfl
    have hsome : ∀ n : Nat, N = some n → nuA w p = .tup [tkA 4 [] n p, .bool true] := fun n e => by rw [nuA, hnu, e]; rfl
    ((first | with_reducible refine holds_of_ex X 400 _ _ _ ?_ | skip); simp (maxSteps := 1000000) only [push_cast, reduceCtorEq, Nat.reduceAdd, Nat.reduceMul, Nat.reduceSub, Nat.reduceBEq, Nat.reduceGT, Nat.reduceLT, Int.toNat_zero, Nat.reduceLeDiff, Int.reduceEq, Int.reduceLT, Int.reduceLE, hP, hΓ, hL, hfin, String.reduceEq, not_false_eq_true, if_true, h47, hi, hdl, hN', wr_i64 ((w.length : Int) - 1) (by constructor <;> omega)])
    refine ⟨⟨by omega, by omega⟩, hml, ?_⟩
    cases N with
    | none => rw [hnone rfl]; exact Into.one rfl rfl
    | some n => rw [hsome n rfl]; exact Into.one rfl rfl
  have h88 : c ≠ 88 := by intro e; subst e; exact absurd rfl h
  rw [if_neg (by simpa using h88)] at hnu
  generalize hN : numM decD 10 2147483647 w = N at *
  have hnone : N = none → nuA w p = .tup [tkA 3 [] 0 p, .bool false] := fun e => by rw [nuA, hnu, e, hlast, if_neg (by simpa using h88)]; rfl
  have hsome : ∀ n : Nat, N = some n → nuA w p = .tup [tkA 3 [] n p, .bool true] := fun n e => by rw [nuA, hnu, e]; rfl
  ((first | with_reducible refine holds_of_ex X 400 _ _ _ ?_ | skip); simp (maxSteps := 1000000) only [push_cast, reduceCtorEq, Nat.reduceAdd, Nat.reduceMul, Nat.reduceSub, Nat.reduceBEq, Nat.reduceGT, Nat.reduceLT, Int.toNat_zero, Nat.reduceLeDiff, Int.reduceEq, Int.reduceLT, Int.reduceLE, hP, hΓ, hL, hfin, String.reduceEq, not_false_eq_true, if_true, h48, hN])
  refine ⟨hl, ?_⟩
  cases N with
  | none => rw [hnone rfl]; exact Into.one rfl rfl
  | some n => rw [hsome n rfl]; exact Into.one rfl rfl
theorem con34 {Γ : Env} (h : EnvOk Tryz.prog Γ) (h47 : Γ 47 = some S47) (h48 : Γ 48 = some S48) : Con Tryz.prog 34 S34 :=
  funS_con h (fn := Tryz.f34) (by kernel_rfl) rfl (by kernel_rfl) inj34 (by first | (intro h; cases h; done) | exact fun _ _ => rfl) fun ⟨w, p⟩ h => body34 Γ h47 h48 w p h.1 h.2
end Go.Proofs.YtlehfbdkjkgaeaaGreatDoor.scanRef
