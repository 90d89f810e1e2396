/- Of objects: names, no two the same: by the program. Conditions stand in each. -/
import Derived.Test.YtmilngcgcolpbaaGreatOR
import Derived.Test.YtmilngcgcolpbaaGreatEng18
import Derived.Test.YtmilngcgcolpbaaGreatIter
namespace Go.Proofs.YtmilngcgcolpbaaGreat.objDone
open Go Go.Eng Go.Proofs
set_option linter.unusedVariables false
set_option linter.unusedSimpArgs false
set_option maxRecDepth 100000
set_option maxHeartbeats 4000000
theorem con92 : Con Tryz.prog 95 sortS := Con.sort ⟨Tryz.f95, by kernel_rfl, rfl, by kernel_rfl⟩ Tryz.slices_Sort_string (fun p cap w => AnyM.slices_Sort_string_none Tryz.laysSlM6_f95 p cap w)
theorem con96 : Con Tryz.prog 99 compS := Con.compact ⟨Tryz.f99, by kernel_rfl, rfl, by kernel_rfl⟩ Tryz.slices_Compact_string Tryz.slices_Compact_string_empty
def e91 : (List Bytes) → List AV := fun xs => [.sl (xs.map .str) xs.length]
def p91 : (List Bytes) → Prop := fun xs => xs.length ≤ SM
def r91 : (List Bytes) → AV := fun xs => .msl 0 0 0 xs.length
def g91 : (List Bytes) → Heap := fun xs => [.row (xs.map .str) 1 0]
theorem inj91 : ∀ a b, e91 a = e91 b → a = b := by
  rintro xs xs' h
  simp only [e91, mi_iff, ms_iff, mb_iff, my_iff, fI_iff, fD_iff, fF_iff, oc_iff, dc_iff, fc_iff, ic_iff, tm_iff, List.cons.injEq, AV.int.injEq, AV.str.injEq, AV.bool.injEq, AV.sl.injEq, AV.agg.injEq, AV.ip.injEq, AV.fn.injEq, AV.ifc.injEq, AV.mpr.injEq, Int.natCast_inj, and_true, true_and] at h
  simp_all only
noncomputable def S91 : FSpec := funS e91 p91 r91 g91 false
theorem ps91 (xs : (List Bytes)) : psel e91 p91 [.sl (xs.map .str) xs.length] = (xs.length ≤ SM) := psel_at inj91 p91 xs
theorem rs91 (xs : (List Bytes)) : rsel e91 r91 .any [.sl (xs.map .str) xs.length] = (.msl 0 0 0 xs.length) := rsel_at inj91 r91 .any xs
theorem hs91 (xs : (List Bytes)) : rsel e91 g91 [] [.sl (xs.map .str) xs.length] = ([.row (xs.map .str) 1 0]) := rsel_at inj91 g91 [] xs
attribute [push_cast] S91 ps91 rs91 hs91
theorem body91 (Γ : Env) (xs : List Bytes) (hl : xs.length ≤ SM) : BodyOk Tryz.prog Γ Tryz.f94 (e91 xs) [] (.msl 0 0 0 xs.length) [.row (xs.map .str) 1 0] := by
  have hSM : SM = 1048576 := rfl
  (intro X hP hΓ hL hfin; refine ⟨_, rfl, ?_⟩; rw [show Tryz.f94.ntmps = 8 from rfl]; rw [show Tryz.f94.results.toList = [.tmp 2] from rfl] at hfin; apply holds_of_ex X 400; simp (maxSteps := 1000000) only [push_cast, reduceCtorEq, Nat.reduceAdd, Nat.reduceMul, Nat.reduceSub, Nat.reduceBEq, Nat.reduceGT, Nat.reduceLT, Int.toNat_zero, Nat.reduceLeDiff, Int.reduceEq, Int.reduceLT, Int.reduceLE, hP, hΓ, hL, hfin, ↓tm_get, e91])
  refine ⟨fun h => ?_, by omega, ?_⟩
  · obtain rfl : xs = [] := by simpa using h
    (refine IntoF.nil 0  1 rfl ?_; simp only [push_cast, reduceCtorEq, Nat.reduceAdd, Nat.reduceMul, Nat.reduceSub, Nat.reduceBEq, Nat.reduceGT, Nat.reduceLT, Int.toNat_zero, Nat.reduceLeDiff, Int.reduceEq, Int.reduceLT, Int.reduceLE])
    exact Into.sameA
  · (refine IntoF.ver 0  0 (by simp only [push_cast, reduceCtorEq, Nat.reduceAdd, Nat.reduceMul, Nat.reduceSub, Nat.reduceBEq, Nat.reduceGT, Nat.reduceLT, Int.toNat_zero, Nat.reduceLeDiff, Int.reduceEq, Int.reduceLT, Int.reduceLE]) (by first | exact .inr (Nat.zero_le _) | (left; simp only [push_cast, reduceCtorEq, Nat.reduceAdd, Nat.reduceMul, Nat.reduceSub, Nat.reduceBEq, Nat.reduceGT, Nat.reduceLT, Int.toNat_zero, Nat.reduceLeDiff, Int.reduceEq, Int.reduceLT, Int.reduceLE]; omega) | (right; simp only [push_cast, reduceCtorEq, Nat.reduceAdd, Nat.reduceMul, Nat.reduceSub, Nat.reduceBEq, Nat.reduceGT, Nat.reduceLT, Int.toNat_zero, Nat.reduceLeDiff, Int.reduceEq, Int.reduceLT, Int.reduceLE]; omega)) ?_; simp only [push_cast, reduceCtorEq, Nat.reduceAdd, Nat.reduceMul, Nat.reduceSub, Nat.reduceBEq, Nat.reduceGT, Nat.reduceLT, Int.toNat_zero, Nat.reduceLeDiff, Int.reduceEq, Int.reduceLT, Int.reduceLE])
    exact Into.sameA
theorem con91 {Γ : Env} (h : EnvOk Tryz.prog Γ)  : Con Tryz.prog 94 S91 :=
  funS_con h (fn := Tryz.f94) (by kernel_rfl) rfl (by kernel_rfl) inj91 (by first | (intro h; cases h; done) | exact fun _ _ => rfl) fun xs hx => body91 Γ xs hx
/-- the first that is no name -/
def idxN (xs : List Bytes) : Int := match xs.findIdx? (fun s => !isName s) with
  | some i => i
  | none => -1
theorem idxN_ge (xs : List Bytes) : decide (0 ≤ idxN xs) = !xs.all isName := by
  unfold idxN
  cases h : xs.findIdx? (fun s => !isName s) with
  | none =>
    rw [List.findIdx?_eq_none_iff] at h
    have : xs.all isName = true := List.all_eq_true.2 fun x hx => by simpa using h x hx
    simp [this]
  | some i =>
    have := List.findIdx?_eq_some_iff_getElem.1 h
    obtain ⟨hi, h1, _⟩ := this
    have : xs.all isName = false := List.all_eq_false.2 ⟨xs[i], List.getElem_mem _, by simpa using h1⟩
    simp [this]
def e102 : (List Bytes) → List AV := fun xs => [.sl (xs.map .str) xs.length, .fn (.func 97) [] []]
def p102 : (List Bytes) → Prop := fun xs => xs.length ≤ SM ∧ ∀ s ∈ xs, s.length ≤ SM
def r102 : (List Bytes) → AV := fun xs => .int .i64 (idxN xs)
def g102 : (List Bytes) → Heap := fun xs => []
theorem inj102 : ∀ a b, e102 a = e102 b → a = b := by
  rintro xs xs' h
  simp only [e102, mi_iff, ms_iff, mb_iff, my_iff, fI_iff, fD_iff, fF_iff, oc_iff, dc_iff, fc_iff, ic_iff, tm_iff, List.cons.injEq, AV.int.injEq, AV.str.injEq, AV.bool.injEq, AV.sl.injEq, AV.agg.injEq, AV.ip.injEq, AV.fn.injEq, AV.ifc.injEq, AV.mpr.injEq, Int.natCast_inj, and_true, true_and] at h
  simp_all only
noncomputable def S102 : FSpec := funS e102 p102 r102 g102 true
theorem ps102 (xs : (List Bytes)) : psel e102 p102 [.sl (xs.map .str) xs.length, .fn (.func 97) [] []] = (xs.length ≤ SM ∧ ∀ s ∈ xs, s.length ≤ SM) := psel_at inj102 p102 xs
theorem rs102 (xs : (List Bytes)) : rsel e102 r102 .any [.sl (xs.map .str) xs.length, .fn (.func 97) [] []] = (.int .i64 (idxN xs)) := rsel_at inj102 r102 .any xs
theorem hs102 (xs : (List Bytes)) : rsel e102 g102 [] [.sl (xs.map .str) xs.length, .fn (.func 97) [] []] = ([]) := rsel_at inj102 g102 [] xs
attribute [push_cast] S102 ps102 rs102 hs102
theorem body102 (Γ : Env) (h94 : Γ 97 = some S94) (xs : List Bytes) (hl : xs.length ≤ SM) (hs : ∀ s ∈ xs, s.length ≤ SM) : BodyOk Tryz.prog Γ Tryz.f105 (e102 xs) [] (.int .i64 (idxN xs)) [] := by
  have hSM : SM = 1048576 := rfl
  (intro X hP hΓ hL hfin; refine ⟨_, rfl, ?_⟩; rw [show Tryz.f105.ntmps = 19 from rfl]; rw [show Tryz.f105.results.toList = [.tmp 4] from rfl] at hfin; apply holds_of_ex X 400; simp (maxSteps := 1000000) only [push_cast, reduceCtorEq, Nat.reduceAdd, Nat.reduceMul, Nat.reduceSub, Nat.reduceBEq, Nat.reduceGT, Nat.reduceLT, Int.toNat_zero, Nat.reduceLeDiff, Int.reduceEq, Int.reduceLT, Int.reduceLE, hP, hΓ, hL, hfin, ↓tm_get, e102])
  refine Holds.loopM (ι := {k : Nat // k ≤ xs.length ∧ ∀ j < k, isName (xs.getD j default) = true}) [true, true, false, false, false, false, false, true, false, false, false, false, false, false, false, false, false, false, false] (fun i => [(8, .int .i64 i.1)]) (fun i => []) (fun i => xs.length - i.1) ⟨0, Nat.zero_le _, fun j hj => absurd hj (Nat.not_lt_zero _)⟩ ?_ ?_
  · (rw [hL]; simp only [push_cast, Int.natCast_zero]; exact Into.sameA)
  rintro ⟨k, hk, ha⟩
  ((first | with_reducible refine holds_of_ex X 400 _ _ _ ?_ | skip); simp (maxSteps := 1000000) only [push_cast, reduceCtorEq, Nat.reduceAdd, Nat.reduceMul, Nat.reduceSub, Nat.reduceBEq, Nat.reduceGT, Nat.reduceLT, Int.toNat_zero, Nat.reduceLeDiff, Int.reduceEq, Int.reduceLT, Int.reduceLE, hP, hΓ, hL, hfin, ↓tm_get])
  ((with_reducible refine exB_split (fun h => ?_) (fun h => ?_)) <;> (try simp only [decide_eq_true_eq, decide_eq_false_iff_not, Bool.and_eq_true, Bool.or_eq_true, Bool.and_eq_false_iff, Bool.or_eq_false_iff, Bool.not_eq_true', Bool.not_eq_false', Bool.not_eq_true, Bool.not_eq_false, Int.not_lt, Int.not_le, beq_iff_eq, beq_eq_false_iff_ne, ne_eq, win_t, win_f] at h))
  · have hk' : k < xs.length := by omega
    have hm : xs.getD k default ∈ xs := by simp [List.getD, hk']
    ((first | with_reducible refine holds_of_ex X 400 _ _ _ ?_ | skip); simp (maxSteps := 1000000) only [push_cast, reduceCtorEq, Nat.reduceAdd, Nat.reduceMul, Nat.reduceSub, Nat.reduceBEq, Nat.reduceGT, Nat.reduceLT, Int.toNat_zero, Nat.reduceLeDiff, Int.reduceEq, Int.reduceLT, Int.reduceLE, hP, hΓ, hL, hfin, ↓tm_get, h94])
    refine ⟨by omega, by omega, hs _ hm, ?_⟩
    ((with_reducible refine exB_split (fun h => ?_) (fun h => ?_)) <;> (try simp only [decide_eq_true_eq, decide_eq_false_iff_not, Bool.and_eq_true, Bool.or_eq_true, Bool.and_eq_false_iff, Bool.or_eq_false_iff, Bool.not_eq_true', Bool.not_eq_false', Bool.not_eq_true, Bool.not_eq_false, Int.not_lt, Int.not_le, beq_iff_eq, beq_eq_false_iff_ne, ne_eq, win_t, win_f] at h))
    · ((first | with_reducible refine holds_of_ex X 400 _ _ _ ?_ | skip); simp (maxSteps := 1000000) only [push_cast, reduceCtorEq, Nat.reduceAdd, Nat.reduceMul, Nat.reduceSub, Nat.reduceBEq, Nat.reduceGT, Nat.reduceLT, Int.toNat_zero, Nat.reduceLeDiff, Int.reduceEq, Int.reduceLT, Int.reduceLE, hP, hΓ, hL, hfin, ↓tm_get])
      refine Into.one ?_ rfl
      have : xs.findIdx? (fun s => !isName s) = some k := by
        rw [List.findIdx?_eq_some_iff_getElem]
        refine ⟨hk', ?_, fun j hj => ?_⟩
        · simpa [List.getD, hk'] using h
        · have := ha j hj
          simpa [List.getD, show j < xs.length by omega] using this
      rw [idxN, this]
    · ((first | with_reducible refine holds_of_ex X 400 _ _ _ ?_ | skip); simp (maxSteps := 1000000) only [push_cast, reduceCtorEq, Nat.reduceAdd, Nat.reduceMul, Nat.reduceSub, Nat.reduceBEq, Nat.reduceGT, Nat.reduceLT, Int.toNat_zero, Nat.reduceLeDiff, Int.reduceEq, Int.reduceLT, Int.reduceLE, hP, hΓ, hL, hfin, ↓tm_get, wr_i64 ((k : Int) + 1) (by constructor <;> omega)])
      (refine ⟨⟨k + 1, by omega, fun j hj => (Nat.lt_succ_iff_lt_or_eq.1 hj).elim (ha j) (fun e => e ▸ h)⟩, by (try simp only [List.length_cons, List.length_append, List.length_nil]); omega, ?_⟩; (try rw [hL]); (try simp only [push_cast, Int.natCast_zero]); first | (exact Into.sameA) | (exact Into.keep0A) | (exact Into.keep1A) | (exact Into.keep2A) | (exact Into.keep3A))
  · ((first | with_reducible refine holds_of_ex X 400 _ _ _ ?_ | skip); simp (maxSteps := 1000000) only [push_cast, reduceCtorEq, Nat.reduceAdd, Nat.reduceMul, Nat.reduceSub, Nat.reduceBEq, Nat.reduceGT, Nat.reduceLT, Int.toNat_zero, Nat.reduceLeDiff, Int.reduceEq, Int.reduceLT, Int.reduceLE, hP, hΓ, hL, hfin, ↓tm_get])
    obtain rfl : k = xs.length := by omega
    refine Into.one ?_ rfl
    have : xs.findIdx? (fun s => !isName s) = none := by
      rw [List.findIdx?_eq_none_iff]
      intro x hx
      obtain ⟨i, hi, rfl⟩ := List.mem_iff_getElem.1 hx
      have := ha i hi
      simpa [List.getD, hi] using this
    rw [idxN, this]
theorem con102 {Γ : Env} (h : EnvOk Tryz.prog Γ) (h94 : Γ 97 = some S94) : Con Tryz.prog 105 S102 :=
  funS_con h (fn := Tryz.f105) (by kernel_rfl) rfl (by kernel_rfl) inj102 (by first | (intro h; cases h; done) | exact fun _ _ => rfl) fun xs hx => body102 Γ h94 xs hx.1 hx.2
def e93 : (List Bytes) × (Nat) → List AV := fun (xs, n) => [.sl (xs.map .str) n, .fn (.func 97) [] []]
def p93 : (List Bytes) × (Nat) → Prop := fun (xs, n) => n = xs.length ∧ xs.length ≤ SM ∧ ∀ s ∈ xs, s.length ≤ SM
def r93 : (List Bytes) × (Nat) → AV := fun (xs, n) => .bool (!xs.all isName)
def g93 : (List Bytes) × (Nat) → Heap := fun (xs, n) => []
theorem inj93 : ∀ a b, e93 a = e93 b → a = b := by
  rintro ⟨xs, n⟩ ⟨xs', n'⟩ h
  simp only [e93, mi_iff, ms_iff, mb_iff, my_iff, fI_iff, fD_iff, fF_iff, oc_iff, dc_iff, fc_iff, ic_iff, tm_iff, List.cons.injEq, AV.int.injEq, AV.str.injEq, AV.bool.injEq, AV.sl.injEq, AV.agg.injEq, AV.ip.injEq, AV.fn.injEq, AV.ifc.injEq, AV.mpr.injEq, Int.natCast_inj, and_true, true_and] at h
  simp_all only
noncomputable def S93 : FSpec := funS e93 p93 r93 g93 true
theorem ps93 (xs : (List Bytes)) (n : (Nat)) : psel e93 p93 [.sl (xs.map .str) n, .fn (.func 97) [] []] = (n = xs.length ∧ xs.length ≤ SM ∧ ∀ s ∈ xs, s.length ≤ SM) := psel_at inj93 p93 (xs, n)
theorem rs93 (xs : (List Bytes)) (n : (Nat)) : rsel e93 r93 .any [.sl (xs.map .str) n, .fn (.func 97) [] []] = (.bool (!xs.all isName)) := rsel_at inj93 r93 .any (xs, n)
theorem hs93 (xs : (List Bytes)) (n : (Nat)) : rsel e93 g93 [] [.sl (xs.map .str) n, .fn (.func 97) [] []] = ([]) := rsel_at inj93 g93 [] (xs, n)
attribute [push_cast] S93 ps93 rs93 hs93
theorem body93 (Γ : Env) (h102 : Γ 105 = some S102) (xs : List Bytes) (hl : xs.length ≤ SM) (hs : ∀ s ∈ xs, s.length ≤ SM) : BodyOk Tryz.prog Γ Tryz.f96 (e93 (xs, xs.length)) [] (.bool (!xs.all isName)) [] := by
  (intro X hP hΓ hL hfin; refine ⟨_, rfl, ?_⟩; rw [show Tryz.f96.ntmps = 9 from rfl]; rw [show Tryz.f96.results.toList = [.tmp 4] from rfl] at hfin; apply holds_of_ex X 400; simp (maxSteps := 1000000) only [push_cast, reduceCtorEq, Nat.reduceAdd, Nat.reduceMul, Nat.reduceSub, Nat.reduceBEq, Nat.reduceGT, Nat.reduceLT, Int.toNat_zero, Nat.reduceLeDiff, Int.reduceEq, Int.reduceLT, Int.reduceLE, hP, hΓ, hL, hfin, ↓tm_get, e93, h102])
  exact ⟨⟨hl, hs⟩, Into.one (by rw [idxN_ge]) rfl⟩
theorem con93 {Γ : Env} (h : EnvOk Tryz.prog Γ) (h102 : Γ 105 = some S102) : Con Tryz.prog 96 S93 :=
  funS_con h (fn := Tryz.f96) (by kernel_rfl) rfl (by kernel_rfl) inj93 (by first | (intro h; cases h; done) | exact fun _ _ => rfl) fun ⟨xs, n⟩ hx => by obtain ⟨rfl, h1, h2⟩ := hx; exact body93 Γ h102 xs h1 h2
/-- names, no two the same -/
def namesB (xs : List Bytes) : Bool := xs.all isName && decide xs.Nodup
theorem all_sort (xs : List Bytes) : (sortB xs).all isName = xs.all isName := by
  rw [Bool.eq_iff_iff, List.all_eq_true, List.all_eq_true]
  exact ⟨fun h x hx => h x ((sortB_perm xs).mem_iff.2 hx), fun h x hx => h x ((sortB_perm xs).mem_iff.1 hx)⟩
def e53 : (List Bytes) × (Nat) → List AV := fun (xs, n) => [.sl (xs.map .str) n]
def p53 : (List Bytes) × (Nat) → Prop := fun (xs, n) => n = xs.length ∧ xs.length ≤ SM ∧ ∀ s ∈ xs, s.length ≤ SM
def r53 : (List Bytes) × (Nat) → AV := fun (xs, n) => .bool (namesB xs)
def g53 : (List Bytes) × (Nat) → Heap := fun (xs, n) => []
theorem inj53 : ∀ a b, e53 a = e53 b → a = b := by
  rintro ⟨xs, n⟩ ⟨xs', n'⟩ h
  simp only [e53, mi_iff, ms_iff, mb_iff, my_iff, fI_iff, fD_iff, fF_iff, oc_iff, dc_iff, fc_iff, ic_iff, tm_iff, List.cons.injEq, AV.int.injEq, AV.str.injEq, AV.bool.injEq, AV.sl.injEq, AV.agg.injEq, AV.ip.injEq, AV.fn.injEq, AV.ifc.injEq, AV.mpr.injEq, Int.natCast_inj, and_true, true_and] at h
  simp_all only
noncomputable def S53 : FSpec := funS e53 p53 r53 g53 true
theorem ps53 (xs : (List Bytes)) (n : (Nat)) : psel e53 p53 [.sl (xs.map .str) n] = (n = xs.length ∧ xs.length ≤ SM ∧ ∀ s ∈ xs, s.length ≤ SM) := psel_at inj53 p53 (xs, n)
theorem rs53 (xs : (List Bytes)) (n : (Nat)) : rsel e53 r53 .any [.sl (xs.map .str) n] = (.bool (namesB xs)) := rsel_at inj53 r53 .any (xs, n)
theorem hs53 (xs : (List Bytes)) (n : (Nat)) : rsel e53 g53 [] [.sl (xs.map .str) n] = ([]) := rsel_at inj53 g53 [] (xs, n)
attribute [push_cast] S53 ps53 rs53 hs53
theorem body53 (Γ : Env) (h91 : Γ 94 = some S91) (h92 : Γ 95 = some sortS) (h93 : Γ 96 = some S93) (h96 : Γ 99 = some compS) (xs : List Bytes) (hl : xs.length ≤ SM) (hs : ∀ s ∈ xs, s.length ≤ SM) : BodyOk Tryz.prog Γ Tryz.f74 (e53 (xs, xs.length)) [] (.bool (namesB xs)) [] := by
  have hSM : SM = 1048576 := rfl
  have hll := sortB_len xs
  have ht : List.take xs.length ((sortB xs).map AV.str) = (sortB xs).map AV.str := List.take_of_length_le (by simp [hll])
  have hm : ∀ s ∈ sortB xs, s.length ≤ SM := fun s h => hs s ((sortB_perm xs).mem_iff.1 h)
  have hc := comp_sort xs
  have hq := all_sort xs
  cases ha : (sortB xs).all isName with
  | false =>
    (intro X hP hΓ hL hfin; refine ⟨_, rfl, ?_⟩; rw [show Tryz.f74.ntmps = 18 from rfl]; rw [show Tryz.f74.results.toList = [.tmp 2] from rfl] at hfin; apply holds_of_ex X 400; simp (maxSteps := 1000000) only [push_cast, reduceCtorEq, Nat.reduceAdd, Nat.reduceMul, Nat.reduceSub, Nat.reduceBEq, Nat.reduceGT, Nat.reduceLT, Int.toNat_zero, Nat.reduceLeDiff, Int.reduceEq, Int.reduceLT, Int.reduceLE, hP, hΓ, hL, hfin, ↓tm_get, e53, h91, h92, h93, h96, ht, ha])
    exact ⟨hl, ⟨by omega, xs, rfl, rfl⟩, ⟨hll.symm, by omega, hm⟩, Into.one (by rw [namesB, ← hq, ha]; rfl) rfl⟩
  | true =>
    (intro X hP hΓ hL hfin; refine ⟨_, rfl, ?_⟩; rw [show Tryz.f74.ntmps = 18 from rfl]; rw [show Tryz.f74.results.toList = [.tmp 2] from rfl] at hfin; apply holds_of_ex X 400; simp (maxSteps := 1000000) only [push_cast, reduceCtorEq, Nat.reduceAdd, Nat.reduceMul, Nat.reduceSub, Nat.reduceBEq, Nat.reduceGT, Nat.reduceLT, Int.toNat_zero, Nat.reduceLeDiff, Int.reduceEq, Int.reduceLT, Int.reduceLE, hP, hΓ, hL, hfin, ↓tm_get, e53, h91, h92, h93, h96, ht, ha])
    refine ⟨hl, ⟨by omega, xs, rfl, rfl⟩, ⟨hll.symm, by omega, hm⟩, ⟨by omega, sortB xs, rfl, hll.symm⟩, Into.one ?_ rfl⟩
    rw [namesB, ← hq, ha, Bool.true_and]
    congr 1
    exact decide_eq_decide.2 (by rw [← hc, hll]; omega)
theorem con53 {Γ : Env} (h : EnvOk Tryz.prog Γ) (h91 : Γ 94 = some S91) (h92 : Γ 95 = some sortS) (h93 : Γ 96 = some S93) (h96 : Γ 99 = some compS) : Con Tryz.prog 74 S53 :=
  funS_con h (fn := Tryz.f74) (by kernel_rfl) rfl (by kernel_rfl) inj53 (by first | (intro h; cases h; done) | exact fun _ _ => rfl) fun ⟨xs, n⟩ hx => by obtain ⟨rfl, h1, h2⟩ := hx; exact body53 Γ h91 h92 h93 h96 xs h1 h2
end Go.Proofs.YtmilngcgcolpbaaGreat.objDone
