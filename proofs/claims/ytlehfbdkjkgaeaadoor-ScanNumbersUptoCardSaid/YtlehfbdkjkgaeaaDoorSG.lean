/- Of numbers and tokens, as a source says them. Conditions stand in each. -/
import Derived.Test.YtlehfbdkjkgaeaaDoorSD
import Derived.Test.YtlehfbdkjkgaeaaDoorScD
import Derived.Test.YtlehfbdkjkgaeaaDoorEng21
namespace Go.Proofs.YtlehfbdkjkgaeaaDoor.scanDone
open Go Go.Eng Go.Proofs Go.Scan Go.RowKit
set_option linter.unusedVariables false
set_option linter.unusedSimpArgs false
set_option maxRecDepth 100000
set_option maxHeartbeats 4000000

theorem tc_iff {a b : Tk} : a.c = b.c ↔ a = b := ⟨tk_inj a b, fun h => by rw [h]⟩
theorem dec_or (s : Bytes) (m : Nat) (h : s = [] ∨ 0 < (m : Int)) : s = [] ∨ 0 < m := by rcases h with h | h; exact .inl h; exact .inr (by omega)
theorem wr_u32 (n : Int) (h : 0 ≤ n ∧ n ≤ 4294967295) : IntKind.u32.wrap n = n := IntWalk.u32_in n h
theorem wr_u64 (n : Int) (h : 0 ≤ n ∧ n ≤ 18446744073709551615) : IntKind.u64.wrap n = n := IntWalk.u64_in n h
def e8 : (Nat) → List AV := fun n => [.int .u32 n]
def p8 : (Nat) → Prop := fun n => n ≤ 4294967295
def r8 : (Nat) → AV := fun n => .str (based n)
def g8 : (Nat) → Heap := fun n => []
theorem inj8 : ∀ a b, e8 a = e8 b → a = b := by
  rintro n n' h
  simp only [e8, tk_iff, tc_iff, mi_iff, ms_iff, mb_iff, my_iff, UInt8.toNat_inj, List.cons.injEq, AV.int.injEq, AV.str.injEq, AV.bool.injEq, AV.sl.injEq, AV.agg.injEq, AV.ip.injEq, AV.fn.injEq, AV.ifc.injEq, AV.mpr.injEq, Int.natCast_inj, and_true, true_and] at h
  simp_all only
noncomputable def S8 : FSpec := funS e8 p8 r8 g8 true
theorem ps8 (n : (Nat)) : psel e8 p8 [.int .u32 n] = (n ≤ 4294967295) := psel_at inj8 p8 n
theorem rs8 (n : (Nat)) : rsel e8 r8 .any [.int .u32 n] = (.str (based n)) := rsel_at inj8 r8 .any n
theorem hs8 (n : (Nat)) : rsel e8 g8 [] [.int .u32 n] = ([]) := rsel_at inj8 g8 [] n
attribute [push_cast] S8 ps8 rs8 hs8
theorem lit8 : ∀ x < 16, List.drop x (48 :: List.take x ([49, 50, 51, 52, 53, 54, 55, 56, 57, 65, 66, 67, 68, 69, 70] : Bytes)) = [hx x] := by decide
theorem body8 (Γ : Env) (n : Nat) (hn : n ≤ 4294967295) : BodyOk Tryd.prog Γ Tryd.f8 (e8 n) [] (.str (based n)) [] := by
  have hl := hexs_len hn
  unfold hexs at hl
  (intro X hP hΓ hL hfin; refine ⟨_, rfl, ?_⟩; rw [show Tryd.f8.ntmps = 22 from rfl]; rw [show Tryd.f8.results.toList = [.tmp 2] from rfl] at hfin; apply holds_of_ex X 400; simp (maxSteps := 1000000) only [push_cast, reduceCtorEq, Nat.reduceAdd, Nat.reduceMul, Nat.reduceSub, Nat.reduceBEq, Nat.reduceGT, Nat.reduceLT, Int.toNat_zero, Nat.reduceLeDiff, Int.reduceEq, Int.reduceLT, Int.reduceLE, hP, hΓ, hL, hfin, String.reduceEq, not_false_eq_true, if_true, e8])
  refine Holds.loopM (ι := {p : Nat × Bytes // p.1 ≤ n ∧ DI 14 hx n p.1 p.2}) [false, false, true, false, false, false, false, false, false, false, false, false, false, false, false, false, false, false, false, false, false, false] (fun i => [(0, .int .u32 i.1.1), (3, .str i.1.2)]) (fun i => []) (fun i => 2 * i.1.1 + (if i.1.2 = [] then 1 else 0)) ⟨(n, []), Nat.le_refl _, .inl ⟨rfl, rfl⟩⟩ ?_ ?_
  · (rw [hL]; simp only [push_cast, Int.natCast_zero]; exact Into.sameA)
  rintro ⟨⟨m, s⟩, hm, hd⟩
  simp only at hm hd
  ((first | with_reducible refine holds_of_ex X 400 _ _ _ ?_ | skip); simp (maxSteps := 1000000) only [push_cast, reduceCtorEq, Nat.reduceAdd, Nat.reduceMul, Nat.reduceSub, Nat.reduceBEq, Nat.reduceGT, Nat.reduceLT, Int.toNat_zero, Nat.reduceLeDiff, Int.reduceEq, Int.reduceLT, Int.reduceLE, hP, hΓ, hL, hfin, String.reduceEq, not_false_eq_true, if_true])
  ((with_reducible refine exB_split (fun h => ?_) (fun h => ?_)) <;> (try simp only [decide_eq_true_eq, decide_eq_false_iff_not, Bool.and_eq_true, Bool.or_eq_true, Bool.and_eq_false_iff, Bool.or_eq_false_iff, Bool.not_eq_true', Bool.not_eq_false', Bool.not_eq_true, Bool.not_eq_false, Int.not_lt, Int.not_le, beq_iff_eq, beq_eq_false_iff_ne, ne_eq] at h))
  · have hc : s = [] ∨ 0 < m := dec_or s m h
    have hs := hd.step hc
    have hlt := hd.le hc
    have hsl := hd.len
    rw [show m / (14 + 2) = m / 16 from rfl] at hs hlt
    rw [show m % (14 + 2) = m % 16 from rfl] at hs
    have hx0 : m % 16 < 16 := Nat.mod_lt _ (by decide)
    have e0 : (m : Int).tmod 16 = ((m % 16 : Nat) : Int) := by rw [Int.tmod_eq_emod_of_nonneg (by omega)]; omega
    have e1 : IntKind.u32.wrap (((m % 16 : Nat) : Int) + 1) = ((m % 16 + 1 : Nat) : Int) := by rw [wr_u32 _ (by constructor <;> omega)]; omega
    have e2 : IntKind.u32.wrap ((m : Int).tdiv 16) = ((m / 16 : Nat) : Int) := by
      rw [Int.tdiv_eq_ediv_of_nonneg (by omega), wr_u32 _ (by constructor <;> omega)]; omega
    have e3 := lit8 (m % 16) hx0
    generalize hy : m % 16 = y at *
    generalize hz : m / 16 = z at *
    ((first | with_reducible refine holds_of_ex X 400 _ _ _ ?_ | skip); simp (maxSteps := 1000000) only [push_cast, reduceCtorEq, Nat.reduceAdd, Nat.reduceMul, Nat.reduceSub, Nat.reduceBEq, Nat.reduceGT, Nat.reduceLT, Int.toNat_zero, Nat.reduceLeDiff, Int.reduceEq, Int.reduceLT, Int.reduceLE, hP, hΓ, hL, hfin, String.reduceEq, not_false_eq_true, if_true, e0, e1, e2, e3, Int.toNat_natCast])
    refine ⟨⟨by omega, by omega⟩, by omega, ⟨(z, hx y :: s), by simp only; omega, hs⟩, ?_, ?_⟩
    · have : (hx y :: s = []) = False := by simp
      simp only [this, if_false]
      rcases hlt with hlt | hlt
      · omega
      · rw [if_pos (by rcases hc with hc | hc; exact hc; omega)]; omega
    exact Into.sameA
  · have hf := hd.fin h.1 (by omega)
    have hlen := hd.len
    have hb : (48 : UInt8) :: s = based n := by rw [hf]; rfl
    ((first | with_reducible refine holds_of_ex X 400 _ _ _ ?_ | skip); simp (maxSteps := 1000000) only [push_cast, reduceCtorEq, Nat.reduceAdd, Nat.reduceMul, Nat.reduceSub, Nat.reduceBEq, Nat.reduceGT, Nat.reduceLT, Int.toNat_zero, Nat.reduceLeDiff, Int.reduceEq, Int.reduceLT, Int.reduceLE, hP, hΓ, hL, hfin, String.reduceEq, not_false_eq_true, if_true, hb])
    refine ⟨by omega, ?_⟩
    exact Into.sameA
theorem con8 {Γ : Env} (h : EnvOk Tryd.prog Γ)  : Con Tryd.prog 8 S8 :=
  funS_con h (fn := Tryd.f8) (by kernel_rfl) rfl (by kernel_rfl) inj8 (by first | (intro h; cases h; done) | exact fun _ _ => rfl) fun n hn => body8 Γ n hn
def e9 : (Nat) → List AV := fun n => [.int .u64 n]
def p9 : (Nat) → Prop := fun n => n ≤ 18446744073709551615
def r9 : (Nat) → AV := fun n => .str (decs n)
def g9 : (Nat) → Heap := fun n => []
theorem inj9 : ∀ a b, e9 a = e9 b → a = b := by
  rintro n n' h
  simp only [e9, tk_iff, tc_iff, mi_iff, ms_iff, mb_iff, my_iff, UInt8.toNat_inj, List.cons.injEq, AV.int.injEq, AV.str.injEq, AV.bool.injEq, AV.sl.injEq, AV.agg.injEq, AV.ip.injEq, AV.fn.injEq, AV.ifc.injEq, AV.mpr.injEq, Int.natCast_inj, and_true, true_and] at h
  simp_all only
noncomputable def S9 : FSpec := funS e9 p9 r9 g9 true
theorem ps9 (n : (Nat)) : psel e9 p9 [.int .u64 n] = (n ≤ 18446744073709551615) := psel_at inj9 p9 n
theorem rs9 (n : (Nat)) : rsel e9 r9 .any [.int .u64 n] = (.str (decs n)) := rsel_at inj9 r9 .any n
theorem hs9 (n : (Nat)) : rsel e9 g9 [] [.int .u64 n] = ([]) := rsel_at inj9 g9 [] n
attribute [push_cast] S9 ps9 rs9 hs9
theorem lit9 : ∀ x < 10, List.drop x (48 :: List.take x ([49, 50, 51, 52, 53, 54, 55, 56, 57] : Bytes)) = [dx x] := by decide
theorem body9 (Γ : Env) (n : Nat) (hn : n ≤ 18446744073709551615) : BodyOk Tryd.prog Γ Tryd.f9 (e9 n) [] (.str (decs n)) [] := by
  have hl := decs_len hn
  unfold decs at hl
  (intro X hP hΓ hL hfin; refine ⟨_, rfl, ?_⟩; rw [show Tryd.f9.ntmps = 21 from rfl]; rw [show Tryd.f9.results.toList = [.tmp 2] from rfl] at hfin; apply holds_of_ex X 400; simp (maxSteps := 1000000) only [push_cast, reduceCtorEq, Nat.reduceAdd, Nat.reduceMul, Nat.reduceSub, Nat.reduceBEq, Nat.reduceGT, Nat.reduceLT, Int.toNat_zero, Nat.reduceLeDiff, Int.reduceEq, Int.reduceLT, Int.reduceLE, hP, hΓ, hL, hfin, String.reduceEq, not_false_eq_true, if_true, e9])
  refine Holds.loopM (ι := {p : Nat × Bytes // p.1 ≤ n ∧ DI 8 dx n p.1 p.2}) [false, false, true, false, false, false, false, false, false, false, false, false, false, false, false, false, false, false, false, false, false] (fun i => [(0, .int .u64 i.1.1), (3, .str i.1.2)]) (fun i => []) (fun i => 2 * i.1.1 + (if i.1.2 = [] then 1 else 0)) ⟨(n, []), Nat.le_refl _, .inl ⟨rfl, rfl⟩⟩ ?_ ?_
  · (rw [hL]; simp only [push_cast, Int.natCast_zero]; exact Into.sameA)
  rintro ⟨⟨m, s⟩, hm, hd⟩
  simp only at hm hd
  ((first | with_reducible refine holds_of_ex X 400 _ _ _ ?_ | skip); simp (maxSteps := 1000000) only [push_cast, reduceCtorEq, Nat.reduceAdd, Nat.reduceMul, Nat.reduceSub, Nat.reduceBEq, Nat.reduceGT, Nat.reduceLT, Int.toNat_zero, Nat.reduceLeDiff, Int.reduceEq, Int.reduceLT, Int.reduceLE, hP, hΓ, hL, hfin, String.reduceEq, not_false_eq_true, if_true])
  ((with_reducible refine exB_split (fun h => ?_) (fun h => ?_)) <;> (try simp only [decide_eq_true_eq, decide_eq_false_iff_not, Bool.and_eq_true, Bool.or_eq_true, Bool.and_eq_false_iff, Bool.or_eq_false_iff, Bool.not_eq_true', Bool.not_eq_false', Bool.not_eq_true, Bool.not_eq_false, Int.not_lt, Int.not_le, beq_iff_eq, beq_eq_false_iff_ne, ne_eq] at h))
  · have hc : s = [] ∨ 0 < m := dec_or s m h
    have hs := hd.step hc
    have hlt := hd.le hc
    have hsl := hd.len
    rw [show m / (8 + 2) = m / 10 from rfl] at hs hlt
    rw [show m % (8 + 2) = m % 10 from rfl] at hs
    have hx0 : m % 10 < 10 := Nat.mod_lt _ (by decide)
    have e0 : (m : Int).tmod 10 = ((m % 10 : Nat) : Int) := by rw [Int.tmod_eq_emod_of_nonneg (by omega)]; omega
    have e1 : IntKind.u64.wrap (((m % 10 : Nat) : Int) + 1) = ((m % 10 + 1 : Nat) : Int) := by rw [wr_u64 _ (by constructor <;> omega)]; omega
    have e2 : IntKind.u64.wrap ((m : Int).tdiv 10) = ((m / 10 : Nat) : Int) := by
      rw [Int.tdiv_eq_ediv_of_nonneg (by omega), wr_u64 _ (by constructor <;> omega)]; omega
    have e3 := lit9 (m % 10) hx0
    generalize hy : m % 10 = y at *
    generalize hz : m / 10 = z at *
    ((first | with_reducible refine holds_of_ex X 400 _ _ _ ?_ | skip); simp (maxSteps := 1000000) only [push_cast, reduceCtorEq, Nat.reduceAdd, Nat.reduceMul, Nat.reduceSub, Nat.reduceBEq, Nat.reduceGT, Nat.reduceLT, Int.toNat_zero, Nat.reduceLeDiff, Int.reduceEq, Int.reduceLT, Int.reduceLE, hP, hΓ, hL, hfin, String.reduceEq, not_false_eq_true, if_true, e0, e1, e2, e3, Int.toNat_natCast])
    refine ⟨⟨by omega, by omega⟩, by omega, ⟨(z, dx y :: s), by simp only; omega, hs⟩, ?_, ?_⟩
    · have : (dx y :: s = []) = False := by simp
      simp only [this, if_false]
      rcases hlt with hlt | hlt
      · omega
      · rw [if_pos (by rcases hc with hc | hc; exact hc; omega)]; omega
    exact Into.sameA
  · have hf := hd.fin h.1 (by omega)
    have hlen := hd.len
    ((first | with_reducible refine holds_of_ex X 400 _ _ _ ?_ | skip); simp (maxSteps := 1000000) only [push_cast, reduceCtorEq, Nat.reduceAdd, Nat.reduceMul, Nat.reduceSub, Nat.reduceBEq, Nat.reduceGT, Nat.reduceLT, Int.toNat_zero, Nat.reduceLeDiff, Int.reduceEq, Int.reduceLT, Int.reduceLE, hP, hΓ, hL, hfin, String.reduceEq, not_false_eq_true, if_true])
    rw [hf]
    exact Into.sameA
theorem con9 {Γ : Env} (h : EnvOk Tryd.prog Γ)  : Con Tryd.prog 9 S9 :=
  funS_con h (fn := Tryd.f9) (by kernel_rfl) rfl (by kernel_rfl) inj9 (by first | (intro h; cases h; done) | exact fun _ _ => rfl) fun n hn => body9 Γ n hn
def e10 : (Tk) → List AV := fun t => [.agg t.c]
def p10 : (Tk) → Prop := fun t => t.text.length ≤ 4194304
def r10 : (Tk) → AV := fun t => .str (writ t)
def g10 : (Tk) → Heap := fun t => []
theorem inj10 : ∀ a b, e10 a = e10 b → a = b := by
  rintro t t' h
  simp only [e10, tk_iff, tc_iff, mi_iff, ms_iff, mb_iff, my_iff, UInt8.toNat_inj, List.cons.injEq, AV.int.injEq, AV.str.injEq, AV.bool.injEq, AV.sl.injEq, AV.agg.injEq, AV.ip.injEq, AV.fn.injEq, AV.ifc.injEq, AV.mpr.injEq, Int.natCast_inj, and_true, true_and] at h
  simp_all only
noncomputable def S10 : FSpec := funS e10 p10 r10 g10 true
theorem ps10 (t : (Tk)) : psel e10 p10 [.agg t.c] = (t.text.length ≤ 4194304) := psel_at inj10 p10 t
theorem rs10 (t : (Tk)) : rsel e10 r10 .any [.agg t.c] = (.str (writ t)) := rsel_at inj10 r10 .any t
theorem hs10 (t : (Tk)) : rsel e10 g10 [] [.agg t.c] = ([]) := rsel_at inj10 g10 [] t
attribute [push_cast] S10 ps10 rs10 hs10
theorem body10 (Γ : Env) (h8 : Γ 8 = some S8) (t : Tk) (ht : t.text.length ≤ 4194304) : BodyOk Tryd.prog Γ Tryd.f10 (e10 t) [] (.str (writ t)) [] := by
  obtain ⟨k, x, n, p⟩ := t
  simp only at ht
  obtain ⟨m, hm, hw⟩ : ∃ m : Nat, m = (n % 4294967296).toNat ∧ IntKind.u32.wrap n = (m : Int) := ⟨_, rfl, by rw [IntKind.wrap_u32]; omega⟩
  have hml : m ≤ 4294967295 := by omega
  have hh := hexs_len hml
  have hb : (based m).length ≤ 9 := by rw [based, List.length_cons]; omega
  (intro X hP hΓ hL hfin; refine ⟨_, rfl, ?_⟩; rw [show Tryd.f10.ntmps = 27 from rfl]; rw [show Tryd.f10.results.toList = [.tmp 2] from rfl] at hfin; apply holds_of_ex X 400; simp (maxSteps := 1000000) only [push_cast, reduceCtorEq, Nat.reduceAdd, Nat.reduceMul, Nat.reduceSub, Nat.reduceBEq, Nat.reduceGT, Nat.reduceLT, Int.toNat_zero, Nat.reduceLeDiff, Int.reduceEq, Int.reduceLT, Int.reduceLE, hP, hΓ, hL, hfin, String.reduceEq, not_false_eq_true, if_true, e10, Tk.c, h8, hw])
  ((with_reducible refine exB_split (fun h => ?_) (fun h => ?_)) <;> (try simp only [decide_eq_true_eq, decide_eq_false_iff_not, Bool.and_eq_true, Bool.or_eq_true, Bool.and_eq_false_iff, Bool.or_eq_false_iff, Bool.not_eq_true', Bool.not_eq_false', Bool.not_eq_true, Bool.not_eq_false, Int.not_lt, Int.not_le, beq_iff_eq, beq_eq_false_iff_ne, ne_eq] at h))
  · subst h
    have hr : writ ⟨3, x, n, p⟩ = based m ++ [72] := by rw [hm]; rfl
    ((first | with_reducible refine holds_of_ex X 400 _ _ _ ?_ | skip); simp (maxSteps := 1000000) only [push_cast, reduceCtorEq, Nat.reduceAdd, Nat.reduceMul, Nat.reduceSub, Nat.reduceBEq, Nat.reduceGT, Nat.reduceLT, Int.toNat_zero, Nat.reduceLeDiff, Int.reduceEq, Int.reduceLT, Int.reduceLE, hP, hΓ, hL, hfin, String.reduceEq, not_false_eq_true, if_true, h8, hw])
    rw [hr]
    refine ⟨by omega, by omega, ?_⟩
    exact Into.one rfl rfl
  have h3 := h
  ((first | with_reducible refine holds_of_ex X 400 _ _ _ ?_ | skip); simp (maxSteps := 1000000) only [push_cast, reduceCtorEq, Nat.reduceAdd, Nat.reduceMul, Nat.reduceSub, Nat.reduceBEq, Nat.reduceGT, Nat.reduceLT, Int.toNat_zero, Nat.reduceLeDiff, Int.reduceEq, Int.reduceLT, Int.reduceLE, hP, hΓ, hL, hfin, String.reduceEq, not_false_eq_true, if_true])
  ((with_reducible refine exB_split (fun h => ?_) (fun h => ?_)) <;> (try simp only [decide_eq_true_eq, decide_eq_false_iff_not, Bool.and_eq_true, Bool.or_eq_true, Bool.and_eq_false_iff, Bool.or_eq_false_iff, Bool.not_eq_true', Bool.not_eq_false', Bool.not_eq_true, Bool.not_eq_false, Int.not_lt, Int.not_le, beq_iff_eq, beq_eq_false_iff_ne, ne_eq] at h))
  · subst h
    have hr : writ ⟨4, x, n, p⟩ = based m ++ [88] := by rw [hm]; rfl
    ((first | with_reducible refine holds_of_ex X 400 _ _ _ ?_ | skip); simp (maxSteps := 1000000) only [push_cast, reduceCtorEq, Nat.reduceAdd, Nat.reduceMul, Nat.reduceSub, Nat.reduceBEq, Nat.reduceGT, Nat.reduceLT, Int.toNat_zero, Nat.reduceLeDiff, Int.reduceEq, Int.reduceLT, Int.reduceLE, hP, hΓ, hL, hfin, String.reduceEq, not_false_eq_true, if_true, h8, hw])
    rw [hr]
    refine ⟨by omega, by omega, ?_⟩
    exact Into.one rfl rfl
  have h4 := h
  ((first | with_reducible refine holds_of_ex X 400 _ _ _ ?_ | skip); simp (maxSteps := 1000000) only [push_cast, reduceCtorEq, Nat.reduceAdd, Nat.reduceMul, Nat.reduceSub, Nat.reduceBEq, Nat.reduceGT, Nat.reduceLT, Int.toNat_zero, Nat.reduceLeDiff, Int.reduceEq, Int.reduceLT, Int.reduceLE, hP, hΓ, hL, hfin, String.reduceEq, not_false_eq_true, if_true])
  ((with_reducible refine exB_split (fun h => ?_) (fun h => ?_)) <;> (try simp only [decide_eq_true_eq, decide_eq_false_iff_not, Bool.and_eq_true, Bool.or_eq_true, Bool.and_eq_false_iff, Bool.or_eq_false_iff, Bool.not_eq_true', Bool.not_eq_false', Bool.not_eq_true, Bool.not_eq_false, Int.not_lt, Int.not_le, beq_iff_eq, beq_eq_false_iff_ne, ne_eq] at h))
  · subst h
    have hr : writ ⟨5, x, n, p⟩ = 34 :: (x ++ [34]) := rfl
    ((first | with_reducible refine holds_of_ex X 400 _ _ _ ?_ | skip); simp (maxSteps := 1000000) only [push_cast, reduceCtorEq, Nat.reduceAdd, Nat.reduceMul, Nat.reduceSub, Nat.reduceBEq, Nat.reduceGT, Nat.reduceLT, Int.toNat_zero, Nat.reduceLeDiff, Int.reduceEq, Int.reduceLT, Int.reduceLE, hP, hΓ, hL, hfin, String.reduceEq, not_false_eq_true, if_true])
    rw [hr]
    refine ⟨by omega, by omega, ?_⟩
    exact Into.one rfl rfl
  have hr : writ ⟨k, x, n, p⟩ = x := by simp [writ, h3, h4, h]
  ((first | with_reducible refine holds_of_ex X 400 _ _ _ ?_ | skip); simp (maxSteps := 1000000) only [push_cast, reduceCtorEq, Nat.reduceAdd, Nat.reduceMul, Nat.reduceSub, Nat.reduceBEq, Nat.reduceGT, Nat.reduceLT, Int.toNat_zero, Nat.reduceLeDiff, Int.reduceEq, Int.reduceLT, Int.reduceLE, hP, hΓ, hL, hfin, String.reduceEq, not_false_eq_true, if_true])
  rw [hr]
  exact Into.one rfl rfl
theorem con10 {Γ : Env} (h : EnvOk Tryd.prog Γ) (h8 : Γ 8 = some S8) : Con Tryd.prog 10 S10 :=
  funS_con h (fn := Tryd.f10) (by kernel_rfl) rfl (by kernel_rfl) inj10 (by first | (intro h; cases h; done) | exact fun _ _ => rfl) fun t ht => body10 Γ h8 t ht
end Go.Proofs.YtlehfbdkjkgaeaaDoor.scanDone
