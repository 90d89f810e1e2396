/- Of objects: what the program asks of descriptors and fixes, in a row. Conditions stand in each. -/
import Derived.Test.YtmilngcgcolpbaaGreatOQ
namespace Go.Proofs.YtmilngcgcolpbaaGreat.objDone
open Go Go.Eng Go.Proofs
set_option linter.unusedVariables false
set_option linter.unusedSimpArgs false
set_option maxRecDepth 100000
set_option maxHeartbeats 4000000
def e61 : (Nat) × (Ds) × (Ob) × (Int → Option Int) → List AV := fun (i, d, o, f) => [.int .i64 i, .agg d.c, .ip o.c, .ip [.mpr (some .i64) (tm f)]]
def p61 : (Nat) × (Ds) × (Ob) × (Int → Option Int) → Prop := fun (i, d, o, f) => o.ok ∧ i < o.descs.length ∧ d.tags.length ≤ SM
def r61 : (Nat) × (Ds) × (Ob) × (Int → Option Int) → AV := fun (i, d, o, f) => .bool (q61 o f i d)
def g61 : (Nat) × (Ds) × (Ob) × (Int → Option Int) → Heap := fun (i, d, o, f) => []
theorem inj61 : ∀ a b, e61 a = e61 b → a = b := by
  rintro ⟨i, d, o, f⟩ ⟨i', d', o', f'⟩ h
  simp only [e61, mi_iff, ms_iff, mb_iff, my_iff, fI_iff, fD_iff, fF_iff, oc_iff, dc_iff, fc_iff, ic_iff, tm_iff, List.cons.injEq, AV.int.injEq, AV.str.injEq, AV.bool.injEq, AV.sl.injEq, AV.agg.injEq, AV.ip.injEq, AV.fn.injEq, AV.ifc.injEq, AV.mpr.injEq, Int.natCast_inj, and_true, true_and] at h
  simp_all only
noncomputable def S61 : FSpec := funS e61 p61 r61 g61 true
theorem ps61 (i : (Nat)) (d : (Ds)) (o : (Ob)) (f : (Int → Option Int)) : psel e61 p61 [.int .i64 i, .agg d.c, .ip o.c, .ip [.mpr (some .i64) (tm f)]] = (o.ok ∧ i < o.descs.length ∧ d.tags.length ≤ SM) := psel_at inj61 p61 (i, d, o, f)
theorem rs61 (i : (Nat)) (d : (Ds)) (o : (Ob)) (f : (Int → Option Int)) : rsel e61 r61 .any [.int .i64 i, .agg d.c, .ip o.c, .ip [.mpr (some .i64) (tm f)]] = (.bool (q61 o f i d)) := rsel_at inj61 r61 .any (i, d, o, f)
theorem hs61 (i : (Nat)) (d : (Ds)) (o : (Ob)) (f : (Int → Option Int)) : rsel e61 g61 [] [.int .i64 i, .agg d.c, .ip o.c, .ip [.mpr (some .i64) (tm f)]] = ([]) := rsel_at inj61 g61 [] (i, d, o, f)
attribute [push_cast] S61 ps61 rs61 hs61
theorem body61 (Γ : Env) (h52 : Γ 73 = some S52) (h54 : Γ 75 = some S54) (i : Nat) (d : Ds) (o : Ob) (f : Int → Option Int) (ho : o.ok) (hi : i < o.descs.length) (hd : d.tags.length ≤ SM) : BodyOk Tryz.prog Γ Tryz.f82 (e61 (i, d, o, f)) [] (.bool (q61 o f i d)) [] := by
  have hSM : SM = 1048576 := rfl
  have h1 := ho.descs
  have hz : ((i : Int) = 0) = (i = 0) := by simp
  (intro X hP hΓ hL hfin; refine ⟨_, rfl, ?_⟩; rw [show Tryz.f82.ntmps = 64 from rfl]; rw [show Tryz.f82.results.toList = [.tmp 6] from rfl] at hfin; apply holds_of_ex X 400; simp (maxSteps := 1000000) only [push_cast, reduceCtorEq, Nat.reduceAdd, Nat.reduceMul, Nat.reduceSub, Nat.reduceBEq, Nat.reduceGT, Nat.reduceLT, Int.toNat_zero, Nat.reduceLeDiff, Int.reduceEq, Int.reduceLT, Int.reduceLE, hP, hΓ, hL, hfin, ↓tm_get, e61, h52, hz])
  (refine Holds.drawnQ (by rw [hP]; kernel_rfl) (by kernel_rfl) ?_; simp (maxSteps := 1000000) only [push_cast, reduceCtorEq, Nat.reduceAdd, Nat.reduceMul, Nat.reduceSub, Nat.reduceBEq, Nat.reduceGT, Nat.reduceLT, Int.toNat_zero, Nat.reduceLeDiff, Int.reduceEq, Int.reduceLT, Int.reduceLE, hP, hΓ, hL, hfin, ↓tm_get, h52, hz, wr_i64 ((i : Int) - 1) (by constructor <;> omega), (show i - 1 < o.descs.length by omega)])
  (repeat (refine And.intro (by first | exact True.intro | omega | assumption | exact own_row _ | (simp only [List.length_append]; omega) | (intro hg; (try simp only [decide_eq_true_eq, decide_eq_false_iff_not, Bool.and_eq_true, Bool.or_eq_true, Bool.and_eq_false_iff, Bool.or_eq_false_iff, Bool.not_eq_true', Bool.not_eq_false', Bool.not_eq_true, Bool.not_eq_false, Int.not_lt, Int.not_le, beq_iff_eq, beq_eq_false_iff_ne, ne_eq, win_t, win_f] at hg); omega)) ?_))
  (refine Holds.drawnQ (by rw [hP]; kernel_rfl) (by kernel_rfl) ?_; simp (maxSteps := 1000000) only [push_cast, reduceCtorEq, Nat.reduceAdd, Nat.reduceMul, Nat.reduceSub, Nat.reduceBEq, Nat.reduceGT, Nat.reduceLT, Int.toNat_zero, Nat.reduceLeDiff, Int.reduceEq, Int.reduceLT, Int.reduceLE, hP, hΓ, hL, hfin, ↓tm_get, h52, h54, hz, wr_i64 ((d.tags.length : Int) - 1) (by constructor <;> omega)])
  (repeat (refine And.intro (by first | exact True.intro | omega | assumption | exact own_row _ | (simp only [List.length_append]; omega) | (intro hg; (try simp only [decide_eq_true_eq, decide_eq_false_iff_not, Bool.and_eq_true, Bool.or_eq_true, Bool.and_eq_false_iff, Bool.or_eq_false_iff, Bool.not_eq_true', Bool.not_eq_false', Bool.not_eq_true, Bool.not_eq_false, Int.not_lt, Int.not_le, beq_iff_eq, beq_eq_false_iff_ne, ne_eq, win_t, win_f] at hg); omega)) ?_))
  exact Into.one rfl rfl
theorem con61 {Γ : Env} (h : EnvOk Tryz.prog Γ) (h52 : Γ 73 = some S52) (h54 : Γ 75 = some S54) : Con Tryz.prog 82 S61 :=
  funS_con h (fn := Tryz.f82) (by kernel_rfl) rfl (by kernel_rfl) inj61 (by first | (intro h; cases h; done) | exact fun _ _ => rfl) fun ⟨i, d, o, f⟩ h => body61 Γ h52 h54 i d o f h.1 h.2.1 h.2.2
def e64 : (Nat) × (Fx) × (Ob) × (Int → Option Int) → List AV := fun (i, x, o, f) => [.int .i64 i, .agg x.c, .ip o.c, .ip [.mpr (some .i64) (tm f)]]
def p64 : (Nat) × (Fx) × (Ob) × (Int → Option Int) → Prop := fun (i, x, o, f) => o.ok ∧ i < o.fixes.length
def r64 : (Nat) × (Fx) × (Ob) × (Int → Option Int) → AV := fun (i, x, o, f) => .bool ((decide (i = 0) || decide ((o.fixes.getD (i - 1) default).at_ < x.at_)) && fixB o f x)
def g64 : (Nat) × (Fx) × (Ob) × (Int → Option Int) → Heap := fun (i, x, o, f) => []
theorem inj64 : ∀ a b, e64 a = e64 b → a = b := by
  rintro ⟨i, x, o, f⟩ ⟨i', x', o', f'⟩ h
  simp only [e64, mi_iff, ms_iff, mb_iff, my_iff, fI_iff, fD_iff, fF_iff, oc_iff, dc_iff, fc_iff, ic_iff, tm_iff, List.cons.injEq, AV.int.injEq, AV.str.injEq, AV.bool.injEq, AV.sl.injEq, AV.agg.injEq, AV.ip.injEq, AV.fn.injEq, AV.ifc.injEq, AV.mpr.injEq, Int.natCast_inj, and_true, true_and] at h
  simp_all only
noncomputable def S64 : FSpec := funS e64 p64 r64 g64 true
theorem ps64 (i : (Nat)) (x : (Fx)) (o : (Ob)) (f : (Int → Option Int)) : psel e64 p64 [.int .i64 i, .agg x.c, .ip o.c, .ip [.mpr (some .i64) (tm f)]] = (o.ok ∧ i < o.fixes.length) := psel_at inj64 p64 (i, x, o, f)
theorem rs64 (i : (Nat)) (x : (Fx)) (o : (Ob)) (f : (Int → Option Int)) : rsel e64 r64 .any [.int .i64 i, .agg x.c, .ip o.c, .ip [.mpr (some .i64) (tm f)]] = (.bool ((decide (i = 0) || decide ((o.fixes.getD (i - 1) default).at_ < x.at_)) && fixB o f x)) := rsel_at inj64 r64 .any (i, x, o, f)
theorem hs64 (i : (Nat)) (x : (Fx)) (o : (Ob)) (f : (Int → Option Int)) : rsel e64 g64 [] [.int .i64 i, .agg x.c, .ip o.c, .ip [.mpr (some .i64) (tm f)]] = ([]) := rsel_at inj64 g64 [] (i, x, o, f)
attribute [push_cast] S64 ps64 rs64 hs64
theorem body64 (Γ : Env) (h65 : Γ 86 = some S65) (i : Nat) (x : Fx) (o : Ob) (f : Int → Option Int) (ho : o.ok) (hi : i < o.fixes.length) : BodyOk Tryz.prog Γ Tryz.f85 (e64 (i, x, o, f)) [] (.bool ((decide (i = 0) || decide ((o.fixes.getD (i - 1) default).at_ < x.at_)) && fixB o f x)) [] := by
  have hSM : SM = 1048576 := rfl
  have h1 := ho.fixes
  have hz : ((i : Int) = 0) = (i = 0) := by simp
  (intro X hP hΓ hL hfin; refine ⟨_, rfl, ?_⟩; rw [show Tryz.f85.ntmps = 27 from rfl]; rw [show Tryz.f85.results.toList = [.tmp 6] from rfl] at hfin; apply holds_of_ex X 400; simp (maxSteps := 1000000) only [push_cast, reduceCtorEq, Nat.reduceAdd, Nat.reduceMul, Nat.reduceSub, Nat.reduceBEq, Nat.reduceGT, Nat.reduceLT, Int.toNat_zero, Nat.reduceLeDiff, Int.reduceEq, Int.reduceLT, Int.reduceLE, hP, hΓ, hL, hfin, ↓tm_get, e64, hz])
  (refine Holds.drawnQ (by rw [hP]; kernel_rfl) (by kernel_rfl) ?_; simp (maxSteps := 1000000) only [push_cast, reduceCtorEq, Nat.reduceAdd, Nat.reduceMul, Nat.reduceSub, Nat.reduceBEq, Nat.reduceGT, Nat.reduceLT, Int.toNat_zero, Nat.reduceLeDiff, Int.reduceEq, Int.reduceLT, Int.reduceLE, hP, hΓ, hL, hfin, ↓tm_get, h65, hz, wr_i64 ((i : Int) - 1) (by constructor <;> omega), (show i - 1 < o.fixes.length by omega)])
  (repeat (refine And.intro (by first | exact True.intro | omega | assumption | exact own_row _ | (simp only [List.length_append]; omega) | (intro hg; (try simp only [decide_eq_true_eq, decide_eq_false_iff_not, Bool.and_eq_true, Bool.or_eq_true, Bool.and_eq_false_iff, Bool.or_eq_false_iff, Bool.not_eq_true', Bool.not_eq_false', Bool.not_eq_true, Bool.not_eq_false, Int.not_lt, Int.not_le, beq_iff_eq, beq_eq_false_iff_ne, ne_eq, win_t, win_f] at hg); omega)) ?_))
  exact Into.one rfl rfl
theorem con64 {Γ : Env} (h : EnvOk Tryz.prog Γ) (h65 : Γ 86 = some S65) : Con Tryz.prog 85 S64 :=
  funS_con h (fn := Tryz.f85) (by kernel_rfl) rfl (by kernel_rfl) inj64 (by first | (intro h; cases h; done) | exact fun _ _ => rfl) fun ⟨i, x, o, f⟩ h => body64 Γ h65 i x o f h.1 h.2
def q64 (o : Ob) (f : Int → Option Int) (i : Nat) (x : Fx) : Bool := (decide (i = 0) || decide ((o.fixes.getD (i - 1) default).at_ < x.at_)) && fixB o f x
def e58 : (List Bytes) → List AV := fun xs => [.sl (xs.map .str) xs.length, .fn (.func 80) [] []]
def p58 : (List Bytes) → Prop := fun xs => xs.length ≤ SM
def r58 : (List Bytes) → AV := fun xs => .bool (allP q59 xs xs.length)
def g58 : (List Bytes) → Heap := fun xs => []
theorem inj58 : ∀ a b, e58 a = e58 b → a = b := by
  rintro xs xs' h
  simp only [e58, mi_iff, ms_iff, mb_iff, my_iff, fI_iff, fD_iff, fF_iff, oc_iff, dc_iff, fc_iff, ic_iff, tm_iff, List.cons.injEq, AV.int.injEq, AV.str.injEq, AV.bool.injEq, AV.sl.injEq, AV.agg.injEq, AV.ip.injEq, AV.fn.injEq, AV.ifc.injEq, AV.mpr.injEq, Int.natCast_inj, and_true, true_and] at h
  simp_all only
noncomputable def S58 : FSpec := funS e58 p58 r58 g58 true
theorem ps58 (xs : (List Bytes)) : psel e58 p58 [.sl (xs.map .str) xs.length, .fn (.func 80) [] []] = (xs.length ≤ SM) := psel_at inj58 p58 xs
theorem rs58 (xs : (List Bytes)) : rsel e58 r58 .any [.sl (xs.map .str) xs.length, .fn (.func 80) [] []] = (.bool (allP q59 xs xs.length)) := rsel_at inj58 r58 .any xs
theorem hs58 (xs : (List Bytes)) : rsel e58 g58 [] [.sl (xs.map .str) xs.length, .fn (.func 80) [] []] = ([]) := rsel_at inj58 g58 [] xs
attribute [push_cast] S58 ps58 rs58 hs58
theorem con58 {Γ : Env} (h : EnvOk Tryz.prog Γ) (h59 : Γ 80 = some S59) : Con Tryz.prog 79 S58 :=
  funS_con h (fn := Tryz.f79) (by kernel_rfl) rfl (by kernel_rfl) inj58 (fun _ _ => rfl) fun xs hx => allS_body Γ 80 S59 h59 rfl [] rfl xs q59 (fun i L hi => by simp only [push_cast, reduceCtorEq, Nat.reduceAdd, Nat.reduceMul, Nat.reduceSub, Nat.reduceBEq, Nat.reduceGT, Nat.reduceLT, Int.toNat_zero, Nat.reduceLeDiff, Int.reduceEq, Int.reduceLT, Int.reduceLE]) hx
def e60 : (List Ds) × (Ob) × (Int → Option Int) → List AV := fun (xs, o, f) => [.sl (xs.flatMap Ds.c) xs.length, .fn (.func 82) [] [.ip o.c, .ip [.mpr (some .i64) (tm f)]]]
def p60 : (List Ds) × (Ob) × (Int → Option Int) → Prop := fun (xs, o, f) => o.ok ∧ xs = o.descs
def r60 : (List Ds) × (Ob) × (Int → Option Int) → AV := fun (xs, o, f) => .bool (allP (q61 o f) xs xs.length)
def g60 : (List Ds) × (Ob) × (Int → Option Int) → Heap := fun (xs, o, f) => []
theorem inj60 : ∀ a b, e60 a = e60 b → a = b := by
  rintro ⟨xs, o, f⟩ ⟨xs', o', f'⟩ h
  simp only [e60, mi_iff, ms_iff, mb_iff, my_iff, fI_iff, fD_iff, fF_iff, oc_iff, dc_iff, fc_iff, ic_iff, tm_iff, List.cons.injEq, AV.int.injEq, AV.str.injEq, AV.bool.injEq, AV.sl.injEq, AV.agg.injEq, AV.ip.injEq, AV.fn.injEq, AV.ifc.injEq, AV.mpr.injEq, Int.natCast_inj, and_true, true_and] at h
  simp_all only
noncomputable def S60 : FSpec := funS e60 p60 r60 g60 true
theorem ps60 (xs : (List Ds)) (o : (Ob)) (f : (Int → Option Int)) : psel e60 p60 [.sl (xs.flatMap Ds.c) xs.length, .fn (.func 82) [] [.ip o.c, .ip [.mpr (some .i64) (tm f)]]] = (o.ok ∧ xs = o.descs) := psel_at inj60 p60 (xs, o, f)
theorem rs60 (xs : (List Ds)) (o : (Ob)) (f : (Int → Option Int)) : rsel e60 r60 .any [.sl (xs.flatMap Ds.c) xs.length, .fn (.func 82) [] [.ip o.c, .ip [.mpr (some .i64) (tm f)]]] = (.bool (allP (q61 o f) xs xs.length)) := rsel_at inj60 r60 .any (xs, o, f)
theorem hs60 (xs : (List Ds)) (o : (Ob)) (f : (Int → Option Int)) : rsel e60 g60 [] [.sl (xs.flatMap Ds.c) xs.length, .fn (.func 82) [] [.ip o.c, .ip [.mpr (some .i64) (tm f)]]] = ([]) := rsel_at inj60 g60 [] (xs, o, f)
attribute [push_cast] S60 ps60 rs60 hs60
theorem dtags {o : Ob} (ho : o.ok) (i : Nat) (hi : i < o.descs.length) : (o.descs.getD i default).tags.length ≤ SM := ho.des _ (by simp [List.getD, hi])
theorem con60 {Γ : Env} (h : EnvOk Tryz.prog Γ) (h61 : Γ 82 = some S61) : Con Tryz.prog 81 S60 :=
  funS_con h (fn := Tryz.f81) (by kernel_rfl) rfl (by kernel_rfl) inj60 (fun _ _ => rfl) fun ⟨xs, o, f⟩ hx => by
    obtain ⟨ho, rfl⟩ := hx
    refine allD_body Γ 82 S61 h61 rfl [.ip o.c, .ip [.mpr (some .i64) (tm f)]] (by simp only [pureL, pureA, push_cast, Bool.and_self]) o.descs (q61 o f) (fun i L hi => ?_) ho.descs
    simp only [push_cast, reduceCtorEq, Nat.reduceAdd, Nat.reduceMul, Nat.reduceSub, Nat.reduceBEq, Nat.reduceGT, Nat.reduceLT, Int.toNat_zero, Nat.reduceLeDiff, Int.reduceEq, Int.reduceLT, Int.reduceLE]
    exact ⟨ho, hi, dtags ho i hi⟩
def e63 : (List Fx) × (Ob) × (Int → Option Int) → List AV := fun (xs, o, f) => [.sl (xs.flatMap Fx.c) xs.length, .fn (.func 85) [] [.ip o.c, .ip [.mpr (some .i64) (tm f)]]]
def p63 : (List Fx) × (Ob) × (Int → Option Int) → Prop := fun (xs, o, f) => o.ok ∧ xs = o.fixes
def r63 : (List Fx) × (Ob) × (Int → Option Int) → AV := fun (xs, o, f) => .bool (allP (q64 o f) xs xs.length)
def g63 : (List Fx) × (Ob) × (Int → Option Int) → Heap := fun (xs, o, f) => []
theorem inj63 : ∀ a b, e63 a = e63 b → a = b := by
  rintro ⟨xs, o, f⟩ ⟨xs', o', f'⟩ h
  simp only [e63, mi_iff, ms_iff, mb_iff, my_iff, fI_iff, fD_iff, fF_iff, oc_iff, dc_iff, fc_iff, ic_iff, tm_iff, List.cons.injEq, AV.int.injEq, AV.str.injEq, AV.bool.injEq, AV.sl.injEq, AV.agg.injEq, AV.ip.injEq, AV.fn.injEq, AV.ifc.injEq, AV.mpr.injEq, Int.natCast_inj, and_true, true_and] at h
  simp_all only
noncomputable def S63 : FSpec := funS e63 p63 r63 g63 true
theorem ps63 (xs : (List Fx)) (o : (Ob)) (f : (Int → Option Int)) : psel e63 p63 [.sl (xs.flatMap Fx.c) xs.length, .fn (.func 85) [] [.ip o.c, .ip [.mpr (some .i64) (tm f)]]] = (o.ok ∧ xs = o.fixes) := psel_at inj63 p63 (xs, o, f)
theorem rs63 (xs : (List Fx)) (o : (Ob)) (f : (Int → Option Int)) : rsel e63 r63 .any [.sl (xs.flatMap Fx.c) xs.length, .fn (.func 85) [] [.ip o.c, .ip [.mpr (some .i64) (tm f)]]] = (.bool (allP (q64 o f) xs xs.length)) := rsel_at inj63 r63 .any (xs, o, f)
theorem hs63 (xs : (List Fx)) (o : (Ob)) (f : (Int → Option Int)) : rsel e63 g63 [] [.sl (xs.flatMap Fx.c) xs.length, .fn (.func 85) [] [.ip o.c, .ip [.mpr (some .i64) (tm f)]]] = ([]) := rsel_at inj63 g63 [] (xs, o, f)
attribute [push_cast] S63 ps63 rs63 hs63
theorem con63 {Γ : Env} (h : EnvOk Tryz.prog Γ) (h64 : Γ 85 = some S64) : Con Tryz.prog 84 S63 :=
  funS_con h (fn := Tryz.f84) (by kernel_rfl) rfl (by kernel_rfl) inj63 (fun _ _ => rfl) fun ⟨xs, o, f⟩ hx => by
    obtain ⟨ho, rfl⟩ := hx
    refine allF_body Γ 85 S64 h64 rfl [.ip o.c, .ip [.mpr (some .i64) (tm f)]] (by simp only [pureL, pureA, push_cast, Bool.and_self]) o.fixes (q64 o f) (fun i L hi => ?_) ho.fixes
    simp only [push_cast, reduceCtorEq, Nat.reduceAdd, Nat.reduceMul, Nat.reduceSub, Nat.reduceBEq, Nat.reduceGT, Nat.reduceLT, Int.toNat_zero, Nat.reduceLeDiff, Int.reduceEq, Int.reduceLT, Int.reduceLE, q64]
    exact ⟨ho, hi⟩
end Go.Proofs.YtmilngcgcolpbaaGreat.objDone
