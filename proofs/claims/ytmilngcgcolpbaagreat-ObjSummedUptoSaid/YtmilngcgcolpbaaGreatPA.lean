/- Of objects: what the document asks of their parts. Conditions stand in each. -/
import Derived.Test.YtmilngcgcolpbaaGreatOU
namespace Go.Proofs.YtmilngcgcolpbaaGreat.objDone
open Go Go.Eng Go.Proofs
set_option linter.unusedVariables false
set_option linter.unusedSimpArgs false
set_option maxRecDepth 100000
set_option maxHeartbeats 4000000
theorem may_ref (i : Nat) (c : UInt8) : (!((decide (97 ≤ (c.toNat : Int)) && decide ((c.toNat : Int) ≤ 122)) || (decide (65 ≤ (c.toNat : Int)) && decide ((c.toNat : Int) ≤ 90))) && (decide ((i : Int) = 0) || decide ((c.toNat : Int) < 48) || decide (57 < (c.toNat : Int)))) = !may i c := by
  rw [Bool.eq_iff_iff]
  simp only [may, letter, digit, Bool.and_eq_true, Bool.or_eq_true, Bool.not_eq_true', Bool.or_eq_false_iff, Bool.and_eq_false_iff, decide_eq_true_eq, decide_eq_false_iff_not]
  omega
def e103 : (Bytes) → List AV := fun s => [.str s]
def p103 : (Bytes) → Prop := fun s => s.length ≤ SM
def r103 : (Bytes) → AV := fun s => .bool (isName s)
def g103 : (Bytes) → Heap := fun s => []
theorem inj103 : ∀ a b, e103 a = e103 b → a = b := by
  rintro s s' h
  simp only [e103, mi_iff, ms_iff, mb_iff, my_iff, fI_iff, fD_iff, fF_iff, oc_iff, dc_iff, fc_iff, ic_iff, tm_iff, List.cons.injEq, AV.int.injEq, AV.str.injEq, AV.bool.injEq, AV.sl.injEq, AV.agg.injEq, AV.ip.injEq, AV.fn.injEq, AV.ifc.injEq, AV.mpr.injEq, Int.natCast_inj, and_true, true_and] at h
  simp_all only
noncomputable def S103 : FSpec := funS e103 p103 r103 g103 true
theorem ps103 (s : (Bytes)) : psel e103 p103 [.str s] = (s.length ≤ SM) := psel_at inj103 p103 s
theorem rs103 (s : (Bytes)) : rsel e103 r103 .any [.str s] = (.bool (isName s)) := rsel_at inj103 r103 .any s
theorem hs103 (s : (Bytes)) : rsel e103 g103 [] [.str s] = ([]) := rsel_at inj103 g103 [] s
attribute [push_cast] S103 ps103 rs103 hs103
theorem body103 (Γ : Env) (s : Bytes) (hs : s.length ≤ SM) : BodyOk Tryz.prog Γ Tryz.f106 (e103 s) [] (.bool (isName s)) [] := by
  have hSM : SM = 1048576 := rfl
  (intro X hP hΓ hL hfin; refine ⟨_, rfl, ?_⟩; rw [show Tryz.f106.ntmps = 50 from rfl]; rw [show Tryz.f106.results.toList = [.tmp 2] from rfl] at hfin; apply holds_of_ex X 400; simp (maxSteps := 1000000) only [push_cast, reduceCtorEq, Nat.reduceAdd, Nat.reduceMul, Nat.reduceSub, Nat.reduceBEq, Nat.reduceGT, Nat.reduceLT, Int.toNat_zero, Nat.reduceLeDiff, Int.reduceEq, Int.reduceLT, Int.reduceLE, hP, hΓ, hL, hfin, ↓tm_get, e103])
  refine exB_split (fun h => ?_) (fun h => ?_)
  · ((first | with_reducible refine holds_of_ex X 400 _ _ _ ?_ | skip); simp (maxSteps := 1000000) only [push_cast, reduceCtorEq, Nat.reduceAdd, Nat.reduceMul, Nat.reduceSub, Nat.reduceBEq, Nat.reduceGT, Nat.reduceLT, Int.toNat_zero, Nat.reduceLeDiff, Int.reduceEq, Int.reduceLT, Int.reduceLE, hP, hΓ, hL, hfin, ↓tm_get])
    refine Into.one ?_ rfl
    simp only [Bool.or_eq_true, beq_iff_eq, decide_eq_true_eq] at h
    rw [isName]
    rcases h with rfl | h
    · rfl
    · rw [show decide (s.length ≤ 20) = false by rw [decide_eq_false_iff_not]; omega]; simp
  simp only [Bool.or_eq_false_iff, beq_eq_false_iff_ne, ne_eq, decide_eq_false_iff_not] at h
  have hn : isName s = allP may s s.length := by
    rw [isName, show decide (s ≠ []) = true from decide_eq_true h.1, show decide (s.length ≤ 20) = true from decide_eq_true (by omega)]; simp
  ((first | with_reducible refine holds_of_ex X 400 _ _ _ ?_ | skip); simp (maxSteps := 1000000) only [push_cast, reduceCtorEq, Nat.reduceAdd, Nat.reduceMul, Nat.reduceSub, Nat.reduceBEq, Nat.reduceGT, Nat.reduceLT, Int.toNat_zero, Nat.reduceLeDiff, Int.reduceEq, Int.reduceLT, Int.reduceLE, hP, hΓ, hL, hfin, ↓tm_get])
  refine Holds.loopM (ι := {k : Nat // k ≤ s.length ∧ allP may s k = true}) [true, false, false, false, false, false, false, false, false, false, false, false, false, false, false, false, false, false, false, false, false, false, false, false, false, false, false, false, false, false, false, false, false, false, false, false, false, false, false, false, false, false, false, false, false, false, false, false, false, false] (fun i => [(3, .int .i64 i.1)]) (fun i => []) (fun i => s.length - i.1) ⟨0, Nat.zero_le _, rfl⟩ ?_ ?_
  · (rw [hL]; simp only [push_cast, Int.natCast_zero]; exact Into.sameA)
  rintro ⟨k, hk, ha⟩
  ((first | with_reducible refine holds_of_ex X 400 _ _ _ ?_ | skip); simp (maxSteps := 1000000) only [push_cast, reduceCtorEq, Nat.reduceAdd, Nat.reduceMul, Nat.reduceSub, Nat.reduceBEq, Nat.reduceGT, Nat.reduceLT, Int.toNat_zero, Nat.reduceLeDiff, Int.reduceEq, Int.reduceLT, Int.reduceLE, hP, hΓ, hL, hfin, ↓tm_get])
  ((with_reducible refine exB_split (fun h => ?_) (fun h => ?_)) <;> (try simp only [decide_eq_true_eq, decide_eq_false_iff_not, Bool.and_eq_true, Bool.or_eq_true, Bool.and_eq_false_iff, Bool.or_eq_false_iff, Bool.not_eq_true', Bool.not_eq_false', Bool.not_eq_true, Bool.not_eq_false, Int.not_lt, Int.not_le, beq_iff_eq, beq_eq_false_iff_ne, ne_eq, win_t, win_f] at h))
  · ((first | with_reducible refine holds_of_ex X 400 _ _ _ ?_ | skip); simp (maxSteps := 1000000) only [push_cast, reduceCtorEq, Nat.reduceAdd, Nat.reduceMul, Nat.reduceSub, Nat.reduceBEq, Nat.reduceGT, Nat.reduceLT, Int.toNat_zero, Nat.reduceLeDiff, Int.reduceEq, Int.reduceLT, Int.reduceLE, hP, hΓ, hL, hfin, ↓tm_get])
    (repeat (refine And.intro (by first | exact True.intro | omega | assumption | exact own_row _ | (simp only [List.length_append]; omega) | (intro hg; (try simp only [decide_eq_true_eq, decide_eq_false_iff_not, Bool.and_eq_true, Bool.or_eq_true, Bool.and_eq_false_iff, Bool.or_eq_false_iff, Bool.not_eq_true', Bool.not_eq_false', Bool.not_eq_true, Bool.not_eq_false, Int.not_lt, Int.not_le, beq_iff_eq, beq_eq_false_iff_ne, ne_eq, win_t, win_f] at hg); omega)) ?_))
    rw [may_ref]
    ((with_reducible refine exB_split (fun h => ?_) (fun h => ?_)) <;> (try simp only [decide_eq_true_eq, decide_eq_false_iff_not, Bool.and_eq_true, Bool.or_eq_true, Bool.and_eq_false_iff, Bool.or_eq_false_iff, Bool.not_eq_true', Bool.not_eq_false', Bool.not_eq_true, Bool.not_eq_false, Int.not_lt, Int.not_le, beq_iff_eq, beq_eq_false_iff_ne, ne_eq, win_t, win_f] at h))
    · ((first | with_reducible refine holds_of_ex X 400 _ _ _ ?_ | skip); simp (maxSteps := 1000000) only [push_cast, reduceCtorEq, Nat.reduceAdd, Nat.reduceMul, Nat.reduceSub, Nat.reduceBEq, Nat.reduceGT, Nat.reduceLT, Int.toNat_zero, Nat.reduceLeDiff, Int.reduceEq, Int.reduceLT, Int.reduceLE, hP, hΓ, hL, hfin, ↓tm_get])
      exact Into.one (by rw [hn, allP_false (k := k) (by omega) h]) rfl
    · ((first | with_reducible refine holds_of_ex X 400 _ _ _ ?_ | skip); simp (maxSteps := 1000000) only [push_cast, reduceCtorEq, Nat.reduceAdd, Nat.reduceMul, Nat.reduceSub, Nat.reduceBEq, Nat.reduceGT, Nat.reduceLT, Int.toNat_zero, Nat.reduceLeDiff, Int.reduceEq, Int.reduceLT, Int.reduceLE, hP, hΓ, hL, hfin, ↓tm_get, wr_i64 ((k : Int) + 1) (by constructor <;> omega)])
      (refine ⟨⟨k + 1, by omega, by rw [allP_succ, ha, Bool.true_and]; exact h⟩, by (try simp only [List.length_cons, List.length_append, List.length_nil]); omega, ?_⟩; (try rw [hL]); (try simp only [push_cast, Int.natCast_zero]); first | (exact Into.sameA) | (exact Into.keep0A) | (exact Into.keep1A) | (exact Into.keep2A) | (exact Into.keep3A))
  · ((first | with_reducible refine holds_of_ex X 400 _ _ _ ?_ | skip); simp (maxSteps := 1000000) only [push_cast, reduceCtorEq, Nat.reduceAdd, Nat.reduceMul, Nat.reduceSub, Nat.reduceBEq, Nat.reduceGT, Nat.reduceLT, Int.toNat_zero, Nat.reduceLeDiff, Int.reduceEq, Int.reduceLT, Int.reduceLE, hP, hΓ, hL, hfin, ↓tm_get])
    obtain rfl : k = s.length := by omega
    exact Into.one (by rw [hn, ha]) rfl
theorem con103 {Γ : Env} (h : EnvOk Tryz.prog Γ)  : Con Tryz.prog 106 S103 :=
  funS_con h (fn := Tryz.f106) (by kernel_rfl) rfl (by kernel_rfl) inj103 (by first | (intro h; cases h; done) | exact fun _ _ => rfl) fun s hs => body103 Γ s hs
/-- is there one of a type? -/
def hasD (ds : List Ds) (t : Int) : Bool := ds.any fun d => decide (d.ty = t)
def e98 : (List Ds) × (Nat) × (Int) → List AV := fun (ds, n, t) => [.sl (ds.flatMap Ds.c) n, .int .i64 t]
def p98 : (List Ds) × (Nat) × (Int) → Prop := fun (ds, n, t) => n = ds.length ∧ ds.length ≤ SM
def r98 : (List Ds) × (Nat) × (Int) → AV := fun (ds, n, t) => .bool (hasD ds t)
def g98 : (List Ds) × (Nat) × (Int) → Heap := fun (ds, n, t) => []
theorem inj98 : ∀ a b, e98 a = e98 b → a = b := by
  rintro ⟨ds, n, t⟩ ⟨ds', n', t'⟩ h
  simp only [e98, mi_iff, ms_iff, mb_iff, my_iff, fI_iff, fD_iff, fF_iff, oc_iff, dc_iff, fc_iff, ic_iff, tm_iff, List.cons.injEq, AV.int.injEq, AV.str.injEq, AV.bool.injEq, AV.sl.injEq, AV.agg.injEq, AV.ip.injEq, AV.fn.injEq, AV.ifc.injEq, AV.mpr.injEq, Int.natCast_inj, and_true, true_and] at h
  simp_all only
noncomputable def S98 : FSpec := funS e98 p98 r98 g98 true
theorem ps98 (ds : (List Ds)) (n : (Nat)) (t : (Int)) : psel e98 p98 [.sl (ds.flatMap Ds.c) n, .int .i64 t] = (n = ds.length ∧ ds.length ≤ SM) := psel_at inj98 p98 (ds, n, t)
theorem rs98 (ds : (List Ds)) (n : (Nat)) (t : (Int)) : rsel e98 r98 .any [.sl (ds.flatMap Ds.c) n, .int .i64 t] = (.bool (hasD ds t)) := rsel_at inj98 r98 .any (ds, n, t)
theorem hs98 (ds : (List Ds)) (n : (Nat)) (t : (Int)) : rsel e98 g98 [] [.sl (ds.flatMap Ds.c) n, .int .i64 t] = ([]) := rsel_at inj98 g98 [] (ds, n, t)
attribute [push_cast] S98 ps98 rs98 hs98
theorem body98 (Γ : Env) (ds : List Ds) (t : Int) (hs : ds.length ≤ SM) : BodyOk Tryz.prog Γ Tryz.f101 (e98 (ds, ds.length, t)) [] (.bool (hasD ds t)) [] := by
  have hSM : SM = 1048576 := rfl
  (intro X hP hΓ hL hfin; refine ⟨_, rfl, ?_⟩; rw [show Tryz.f101.ntmps = 19 from rfl]; rw [show Tryz.f101.results.toList = [.tmp 4] from rfl] at hfin; apply holds_of_ex X 400; simp (maxSteps := 1000000) only [push_cast, reduceCtorEq, Nat.reduceAdd, Nat.reduceMul, Nat.reduceSub, Nat.reduceBEq, Nat.reduceGT, Nat.reduceLT, Int.toNat_zero, Nat.reduceLeDiff, Int.reduceEq, Int.reduceLT, Int.reduceLE, hP, hΓ, hL, hfin, ↓tm_get, e98])
  refine Holds.loopM (ι := {k : Nat // k ≤ ds.length ∧ ∀ j < k, (ds.getD j default).ty ≠ t}) [true, true, false, false, false, false, false, false, false, false, false, false, false, false, false, false, false, false, false] (fun i => [(5, .int .i64 i.1)]) (fun i => []) (fun i => ds.length - i.1) ⟨0, Nat.zero_le _, fun j hj => absurd hj (Nat.not_lt_zero _)⟩ ?_ ?_
  · (rw [hL]; simp only [push_cast, Int.natCast_zero]; exact Into.sameA)
  rintro ⟨k, hk, ha⟩
  ((first | with_reducible refine holds_of_ex X 400 _ _ _ ?_ | skip); simp (maxSteps := 1000000) only [push_cast, reduceCtorEq, Nat.reduceAdd, Nat.reduceMul, Nat.reduceSub, Nat.reduceBEq, Nat.reduceGT, Nat.reduceLT, Int.toNat_zero, Nat.reduceLeDiff, Int.reduceEq, Int.reduceLT, Int.reduceLE, hP, hΓ, hL, hfin, ↓tm_get])
  ((with_reducible refine exB_split (fun h => ?_) (fun h => ?_)) <;> (try simp only [decide_eq_true_eq, decide_eq_false_iff_not, Bool.and_eq_true, Bool.or_eq_true, Bool.and_eq_false_iff, Bool.or_eq_false_iff, Bool.not_eq_true', Bool.not_eq_false', Bool.not_eq_true, Bool.not_eq_false, Int.not_lt, Int.not_le, beq_iff_eq, beq_eq_false_iff_ne, ne_eq, win_t, win_f] at h))
  · have hk' : k < ds.length := by omega
    ((first | with_reducible refine holds_of_ex X 400 _ _ _ ?_ | skip); simp (maxSteps := 1000000) only [push_cast, reduceCtorEq, Nat.reduceAdd, Nat.reduceMul, Nat.reduceSub, Nat.reduceBEq, Nat.reduceGT, Nat.reduceLT, Int.toNat_zero, Nat.reduceLeDiff, Int.reduceEq, Int.reduceLT, Int.reduceLE, hP, hΓ, hL, hfin, ↓tm_get, hk'])
    (repeat (refine And.intro (by first | exact True.intro | omega | assumption | exact own_row _ | (simp only [List.length_append]; omega) | (intro hg; (try simp only [decide_eq_true_eq, decide_eq_false_iff_not, Bool.and_eq_true, Bool.or_eq_true, Bool.and_eq_false_iff, Bool.or_eq_false_iff, Bool.not_eq_true', Bool.not_eq_false', Bool.not_eq_true, Bool.not_eq_false, Int.not_lt, Int.not_le, beq_iff_eq, beq_eq_false_iff_ne, ne_eq, win_t, win_f] at hg); omega)) ?_))
    ((with_reducible refine exB_split (fun h => ?_) (fun h => ?_)) <;> (try simp only [decide_eq_true_eq, decide_eq_false_iff_not, Bool.and_eq_true, Bool.or_eq_true, Bool.and_eq_false_iff, Bool.or_eq_false_iff, Bool.not_eq_true', Bool.not_eq_false', Bool.not_eq_true, Bool.not_eq_false, Int.not_lt, Int.not_le, beq_iff_eq, beq_eq_false_iff_ne, ne_eq, win_t, win_f] at h))
    · ((first | with_reducible refine holds_of_ex X 400 _ _ _ ?_ | skip); simp (maxSteps := 1000000) only [push_cast, reduceCtorEq, Nat.reduceAdd, Nat.reduceMul, Nat.reduceSub, Nat.reduceBEq, Nat.reduceGT, Nat.reduceLT, Int.toNat_zero, Nat.reduceLeDiff, Int.reduceEq, Int.reduceLT, Int.reduceLE, hP, hΓ, hL, hfin, ↓tm_get])
      refine Into.one ?_ rfl
      have : hasD ds t = true := List.any_eq_true.2 ⟨_, at_mem hk', by simpa using h⟩
      rw [this]
    · ((first | with_reducible refine holds_of_ex X 400 _ _ _ ?_ | skip); simp (maxSteps := 1000000) only [push_cast, reduceCtorEq, Nat.reduceAdd, Nat.reduceMul, Nat.reduceSub, Nat.reduceBEq, Nat.reduceGT, Nat.reduceLT, Int.toNat_zero, Nat.reduceLeDiff, Int.reduceEq, Int.reduceLT, Int.reduceLE, hP, hΓ, hL, hfin, ↓tm_get, wr_i64 ((k : Int) + 1) (by constructor <;> omega)])
      (refine ⟨⟨k + 1, by omega, fun j hj => (Nat.lt_succ_iff_lt_or_eq.1 hj).elim (ha j) (fun e => e ▸ h)⟩, by (try simp only [List.length_cons, List.length_append, List.length_nil]); omega, ?_⟩; (try rw [hL]); (try simp only [push_cast, Int.natCast_zero]); first | (exact Into.sameA) | (exact Into.keep0A) | (exact Into.keep1A) | (exact Into.keep2A) | (exact Into.keep3A))
  · ((first | with_reducible refine holds_of_ex X 400 _ _ _ ?_ | skip); simp (maxSteps := 1000000) only [push_cast, reduceCtorEq, Nat.reduceAdd, Nat.reduceMul, Nat.reduceSub, Nat.reduceBEq, Nat.reduceGT, Nat.reduceLT, Int.toNat_zero, Nat.reduceLeDiff, Int.reduceEq, Int.reduceLT, Int.reduceLE, hP, hΓ, hL, hfin, ↓tm_get])
    obtain rfl : k = ds.length := by omega
    refine Into.one ?_ rfl
    have : hasD ds t = false := by
      rw [hasD, List.any_eq_false]
      intro d hd
      obtain ⟨i, hi, rfl⟩ := List.mem_iff_getElem.1 hd
      have := ha i hi
      simpa [List.getD, hi] using this
    rw [this]
theorem con98 {Γ : Env} (h : EnvOk Tryz.prog Γ)  : Con Tryz.prog 101 S98 :=
  funS_con h (fn := Tryz.f101) (by kernel_rfl) rfl (by kernel_rfl) inj98 (by first | (intro h; cases h; done) | exact fun _ _ => rfl) fun ⟨ds, n, t⟩ h => by obtain ⟨rfl, h⟩ := h; exact body98 Γ ds t h
def e97 : (List Bytes) × (Nat) → List AV := fun (xs, n) => [.sl (xs.map .str) n]
def p97 : (List Bytes) × (Nat) → Prop := fun (xs, n) => n = xs.length ∧ xs.length ≤ SM ∧ ∀ s ∈ xs, s.length ≤ SM
def r97 : (List Bytes) × (Nat) → AV := fun (xs, n) => .bool (namesB xs)
def g97 : (List Bytes) × (Nat) → Heap := fun (xs, n) => []
theorem inj97 : ∀ a b, e97 a = e97 b → a = b := by
  rintro ⟨xs, n⟩ ⟨xs', n'⟩ h
  simp only [e97, mi_iff, ms_iff, mb_iff, my_iff, fI_iff, fD_iff, fF_iff, oc_iff, dc_iff, fc_iff, ic_iff, tm_iff, List.cons.injEq, AV.int.injEq, AV.str.injEq, AV.bool.injEq, AV.sl.injEq, AV.agg.injEq, AV.ip.injEq, AV.fn.injEq, AV.ifc.injEq, AV.mpr.injEq, Int.natCast_inj, and_true, true_and] at h
  simp_all only
noncomputable def S97 : FSpec := funS e97 p97 r97 g97 true
theorem ps97 (xs : (List Bytes)) (n : (Nat)) : psel e97 p97 [.sl (xs.map .str) n] = (n = xs.length ∧ xs.length ≤ SM ∧ ∀ s ∈ xs, s.length ≤ SM) := psel_at inj97 p97 (xs, n)
theorem rs97 (xs : (List Bytes)) (n : (Nat)) : rsel e97 r97 .any [.sl (xs.map .str) n] = (.bool (namesB xs)) := rsel_at inj97 r97 .any (xs, n)
theorem hs97 (xs : (List Bytes)) (n : (Nat)) : rsel e97 g97 [] [.sl (xs.map .str) n] = ([]) := rsel_at inj97 g97 [] (xs, n)
attribute [push_cast] S97 ps97 rs97 hs97
theorem body97 (Γ : Env) (h103 : Γ 106 = some S103) (xs : List Bytes) (hl : xs.length ≤ SM) (hs : ∀ s ∈ xs, s.length ≤ SM) : BodyOk Tryz.prog Γ Tryz.f100 (e97 (xs, xs.length)) [] (.bool (namesB xs)) [] := by
  have hSM : SM = 1048576 := rfl
  (intro X hP hΓ hL hfin; refine ⟨_, rfl, ?_⟩; rw [show Tryz.f100.ntmps = 33 from rfl]; rw [show Tryz.f100.results.toList = [.tmp 2] from rfl] at hfin; apply holds_of_ex X 400; simp (maxSteps := 1000000) only [push_cast, reduceCtorEq, Nat.reduceAdd, Nat.reduceMul, Nat.reduceSub, Nat.reduceBEq, Nat.reduceGT, Nat.reduceLT, Int.toNat_zero, Nat.reduceLeDiff, Int.reduceEq, Int.reduceLT, Int.reduceLE, hP, hΓ, hL, hfin, ↓tm_get, e97])
  refine Holds.loopM (ι := {k : Nat // k ≤ xs.length ∧ (∀ j < k, isName (xs.getD j default) = true) ∧ ∀ j < k, ∀ i < j, xs.getD i default ≠ xs.getD j default}) [true, false, false, false, false, false, false, false, false, false, false, false, false, false, false, false, false, false, false, false, false, false, false, false, false, false, false, false, false, false, false, false, false] (fun i => [(3, .int .i64 i.1)]) (fun i => []) (fun i => xs.length - i.1) ⟨0, Nat.zero_le _, fun j hj => absurd hj (Nat.not_lt_zero _), fun j hj => absurd hj (Nat.not_lt_zero _)⟩ ?_ ?_
  · (rw [hL]; simp only [push_cast, Int.natCast_zero]; exact Into.sameA)
  rintro ⟨k, hk, ha, hd⟩
  ((first | with_reducible refine holds_of_ex X 400 _ _ _ ?_ | skip); simp (maxSteps := 1000000) only [push_cast, reduceCtorEq, Nat.reduceAdd, Nat.reduceMul, Nat.reduceSub, Nat.reduceBEq, Nat.reduceGT, Nat.reduceLT, Int.toNat_zero, Nat.reduceLeDiff, Int.reduceEq, Int.reduceLT, Int.reduceLE, hP, hΓ, hL, hfin, ↓tm_get])
  ((with_reducible refine exB_split (fun h => ?_) (fun h => ?_)) <;> (try simp only [decide_eq_true_eq, decide_eq_false_iff_not, Bool.and_eq_true, Bool.or_eq_true, Bool.and_eq_false_iff, Bool.or_eq_false_iff, Bool.not_eq_true', Bool.not_eq_false', Bool.not_eq_true, Bool.not_eq_false, Int.not_lt, Int.not_le, beq_iff_eq, beq_eq_false_iff_ne, ne_eq, win_t, win_f] at h))
  · have hk' : k < xs.length := by omega
    ((first | with_reducible refine holds_of_ex X 400 _ _ _ ?_ | skip); simp (maxSteps := 1000000) only [push_cast, reduceCtorEq, Nat.reduceAdd, Nat.reduceMul, Nat.reduceSub, Nat.reduceBEq, Nat.reduceGT, Nat.reduceLT, Int.toNat_zero, Nat.reduceLeDiff, Int.reduceEq, Int.reduceLT, Int.reduceLE, hP, hΓ, hL, hfin, ↓tm_get, h103])
    refine ⟨by omega, by omega, hs _ (at_mem hk'), ?_⟩
    ((with_reducible refine exB_split (fun h => ?_) (fun h => ?_)) <;> (try simp only [decide_eq_true_eq, decide_eq_false_iff_not, Bool.and_eq_true, Bool.or_eq_true, Bool.and_eq_false_iff, Bool.or_eq_false_iff, Bool.not_eq_true', Bool.not_eq_false', Bool.not_eq_true, Bool.not_eq_false, Int.not_lt, Int.not_le, beq_iff_eq, beq_eq_false_iff_ne, ne_eq, win_t, win_f] at h))
    · ((first | with_reducible refine holds_of_ex X 400 _ _ _ ?_ | skip); simp (maxSteps := 1000000) only [push_cast, reduceCtorEq, Nat.reduceAdd, Nat.reduceMul, Nat.reduceSub, Nat.reduceBEq, Nat.reduceGT, Nat.reduceLT, Int.toNat_zero, Nat.reduceLeDiff, Int.reduceEq, Int.reduceLT, Int.reduceLE, hP, hΓ, hL, hfin, ↓tm_get])
      refine Into.one ?_ rfl
      have : xs.all isName = false := List.all_eq_false.2 ⟨_, at_mem hk', by rw [h]; simp⟩
      rw [namesB, this]; rfl
    have hnm := h
    ((first | with_reducible refine holds_of_ex X 400 _ _ _ ?_ | skip); simp (maxSteps := 1000000) only [push_cast, reduceCtorEq, Nat.reduceAdd, Nat.reduceMul, Nat.reduceSub, Nat.reduceBEq, Nat.reduceGT, Nat.reduceLT, Int.toNat_zero, Nat.reduceLeDiff, Int.reduceEq, Int.reduceLT, Int.reduceLE, hP, hΓ, hL, hfin, ↓tm_get])
    refine Holds.loopM (ι := {j : Nat // j ≤ k ∧ ∀ i < j, xs.getD i default ≠ xs.getD k default}) [true, false, false, true, false, false, false, false, false, false, false, false, false, false, false, false, false, false, false, false, false, false, false, false, false, false, false, false, false, false, false, false, false] (fun i => [(5, .int .i64 i.1), (3, .int .i64 k)]) (fun i => []) (fun i => k - i.1) ⟨0, Nat.zero_le _, fun j hj => absurd hj (Nat.not_lt_zero _)⟩ ?_ ?_
    · (rw [hL]; simp only [push_cast, Int.natCast_zero]; exact Into.sameA)
    rintro ⟨j, hj, hdj⟩
    ((first | with_reducible refine holds_of_ex X 400 _ _ _ ?_ | skip); simp (maxSteps := 1000000) only [push_cast, reduceCtorEq, Nat.reduceAdd, Nat.reduceMul, Nat.reduceSub, Nat.reduceBEq, Nat.reduceGT, Nat.reduceLT, Int.toNat_zero, Nat.reduceLeDiff, Int.reduceEq, Int.reduceLT, Int.reduceLE, hP, hΓ, hL, hfin, ↓tm_get])
    ((with_reducible refine exB_split (fun h => ?_) (fun h => ?_)) <;> (try simp only [decide_eq_true_eq, decide_eq_false_iff_not, Bool.and_eq_true, Bool.or_eq_true, Bool.and_eq_false_iff, Bool.or_eq_false_iff, Bool.not_eq_true', Bool.not_eq_false', Bool.not_eq_true, Bool.not_eq_false, Int.not_lt, Int.not_le, beq_iff_eq, beq_eq_false_iff_ne, ne_eq, win_t, win_f] at h))
    · ((first | with_reducible refine holds_of_ex X 400 _ _ _ ?_ | skip); simp (maxSteps := 1000000) only [push_cast, reduceCtorEq, Nat.reduceAdd, Nat.reduceMul, Nat.reduceSub, Nat.reduceBEq, Nat.reduceGT, Nat.reduceLT, Int.toNat_zero, Nat.reduceLeDiff, Int.reduceEq, Int.reduceLT, Int.reduceLE, hP, hΓ, hL, hfin, ↓tm_get])
      (refine Holds.drawnQ (by rw [hP]; kernel_rfl) (by kernel_rfl) ?_; simp (maxSteps := 1000000) only [push_cast, reduceCtorEq, Nat.reduceAdd, Nat.reduceMul, Nat.reduceSub, Nat.reduceBEq, Nat.reduceGT, Nat.reduceLT, Int.toNat_zero, Nat.reduceLeDiff, Int.reduceEq, Int.reduceLT, Int.reduceLE, hP, hΓ, hL, hfin, ↓tm_get])
      (repeat (refine And.intro (by first | exact True.intro | omega | assumption | exact own_row _ | (simp only [List.length_append]; omega) | (intro hg; (try simp only [decide_eq_true_eq, decide_eq_false_iff_not, Bool.and_eq_true, Bool.or_eq_true, Bool.and_eq_false_iff, Bool.or_eq_false_iff, Bool.not_eq_true', Bool.not_eq_false', Bool.not_eq_true, Bool.not_eq_false, Int.not_lt, Int.not_le, beq_iff_eq, beq_eq_false_iff_ne, ne_eq, win_t, win_f] at hg); omega)) ?_))
      ((with_reducible refine exB_split (fun h => ?_) (fun h => ?_)) <;> (try simp only [decide_eq_true_eq, decide_eq_false_iff_not, Bool.and_eq_true, Bool.or_eq_true, Bool.and_eq_false_iff, Bool.or_eq_false_iff, Bool.not_eq_true', Bool.not_eq_false', Bool.not_eq_true, Bool.not_eq_false, Int.not_lt, Int.not_le, beq_iff_eq, beq_eq_false_iff_ne, ne_eq, win_t, win_f] at h))
      · ((first | with_reducible refine holds_of_ex X 400 _ _ _ ?_ | skip); simp (maxSteps := 1000000) only [push_cast, reduceCtorEq, Nat.reduceAdd, Nat.reduceMul, Nat.reduceSub, Nat.reduceBEq, Nat.reduceGT, Nat.reduceLT, Int.toNat_zero, Nat.reduceLeDiff, Int.reduceEq, Int.reduceLT, Int.reduceLE, hP, hΓ, hL, hfin, ↓tm_get])
        refine Into.one ?_ rfl
        have : ¬ xs.Nodup := by
          intro hn
          have h1 : xs.getD j default = xs[j]'(by omega) := by simp [List.getD, show j < xs.length by omega]
          have h2 : xs.getD k default = xs[k] := by simp [List.getD, hk']
          rw [h1, h2] at h
          exact List.pairwise_iff_getElem.1 (List.nodup_iff_pairwise_ne.1 hn) j k (by omega) hk' (by omega) h
        rw [namesB, decide_eq_false this]; simp
      · ((first | with_reducible refine holds_of_ex X 400 _ _ _ ?_ | skip); simp (maxSteps := 1000000) only [push_cast, reduceCtorEq, Nat.reduceAdd, Nat.reduceMul, Nat.reduceSub, Nat.reduceBEq, Nat.reduceGT, Nat.reduceLT, Int.toNat_zero, Nat.reduceLeDiff, Int.reduceEq, Int.reduceLT, Int.reduceLE, hP, hΓ, hL, hfin, ↓tm_get, wr_i64 ((j : Int) + 1) (by constructor <;> omega)])
        (refine ⟨⟨j + 1, by omega, fun i hi => (Nat.lt_succ_iff_lt_or_eq.1 hi).elim (hdj i) (fun e => e ▸ h)⟩, by (try simp only [List.length_cons, List.length_append, List.length_nil]); omega, ?_⟩; (try rw [hL]); (try simp only [push_cast, Int.natCast_zero]); first | (exact Into.sameA) | (exact Into.keep0A) | (exact Into.keep1A) | (exact Into.keep2A) | (exact Into.keep3A))
    · obtain rfl : j = k := by omega
      ((first | with_reducible refine holds_of_ex X 400 _ _ _ ?_ | skip); simp (maxSteps := 1000000) only [push_cast, reduceCtorEq, Nat.reduceAdd, Nat.reduceMul, Nat.reduceSub, Nat.reduceBEq, Nat.reduceGT, Nat.reduceLT, Int.toNat_zero, Nat.reduceLeDiff, Int.reduceEq, Int.reduceLT, Int.reduceLE, hP, hΓ, hL, hfin, ↓tm_get, wr_i64 ((j : Int) + 1) (by constructor <;> omega)])
      (refine ⟨⟨j + 1, by omega, fun i hi => (Nat.lt_succ_iff_lt_or_eq.1 hi).elim (ha i) (fun e => e ▸ hnm), fun i hi => (Nat.lt_succ_iff_lt_or_eq.1 hi).elim (hd i) (fun e => e ▸ hdj)⟩, by (try simp only [List.length_cons, List.length_append, List.length_nil]); omega, ?_⟩; (try rw [hL]); (try simp only [push_cast, Int.natCast_zero]); first | (exact Into.sameA) | (exact Into.keep0A) | (exact Into.keep1A) | (exact Into.keep2A) | (exact Into.keep3A))
  · ((first | with_reducible refine holds_of_ex X 400 _ _ _ ?_ | skip); simp (maxSteps := 1000000) only [push_cast, reduceCtorEq, Nat.reduceAdd, Nat.reduceMul, Nat.reduceSub, Nat.reduceBEq, Nat.reduceGT, Nat.reduceLT, Int.toNat_zero, Nat.reduceLeDiff, Int.reduceEq, Int.reduceLT, Int.reduceLE, hP, hΓ, hL, hfin, ↓tm_get])
    obtain rfl : k = xs.length := by omega
    refine Into.one ?_ rfl
    have h1 : xs.all isName = true := by
      rw [List.all_eq_true]
      intro x hx
      obtain ⟨i, hi, rfl⟩ := List.mem_iff_getElem.1 hx
      have := ha i hi
      simpa [List.getD, hi] using this
    have h2 : xs.Nodup := by
      rw [List.nodup_iff_pairwise_ne, List.pairwise_iff_getElem]
      intro i j hi hj hij
      have := hd j hj i hij
      simpa [List.getD, hi, hj] using this
    rw [namesB, h1, decide_eq_true h2]; rfl
theorem con97 {Γ : Env} (h : EnvOk Tryz.prog Γ) (h103 : Γ 106 = some S103) : Con Tryz.prog 100 S97 :=
  funS_con h (fn := Tryz.f100) (by kernel_rfl) rfl (by kernel_rfl) inj97 (by first | (intro h; cases h; done) | exact fun _ _ => rfl) fun ⟨xs, n⟩ h => by obtain ⟨rfl, h1, h2⟩ := h; exact body97 Γ h103 xs h1 h2
end Go.Proofs.YtmilngcgcolpbaaGreat.objDone
