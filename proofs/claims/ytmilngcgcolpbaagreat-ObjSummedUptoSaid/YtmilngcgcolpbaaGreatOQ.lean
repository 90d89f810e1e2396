/- Of objects: what the program asks of descriptors and fixes. Conditions stand in each. -/
import Derived.Test.YtmilngcgcolpbaaGreatOP
namespace Go.Proofs.YtmilngcgcolpbaaGreat.objDone
open Go Go.Eng Go.Proofs
set_option linter.unusedVariables false
set_option linter.unusedSimpArgs false
set_option maxRecDepth 100000
set_option maxHeartbeats 4000000
/-- rows of numbers, asked by closures -/
inductive A54 where
  | a (xs : List Int) (o : Ob)
  | b (xs : List Int)
  | c (xs : List Int) (o : Ob)
  | d (xs : List Int) (f : Int → Option Int)
def e54 : A54 → List AV
  | .a xs o => [.sl (xs.map (.int .i64)) xs.length, .fn (.func 76) [] [.ip o.c]]
  | .b xs => [.sl (xs.map (.int .i64)) xs.length, .fn (.func 77) [] []]
  | .c xs o => [.sl (xs.map (.int .i64)) xs.length, .fn (.func 78) [] [.ip o.c]]
  | .d xs f => [.sl (xs.map (.int .i64)) xs.length, .fn (.func 83) [] [.ip [.mpr (some .i64) (tm f)]]]
def p54 : A54 → Prop
  | .a xs o => xs.length ≤ SM ∧ o.ok
  | .b xs => xs.length ≤ SM
  | .c xs o => xs.length ≤ o.shown.length ∧ o.ok
  | .d xs f => xs.length ≤ SM
def r54 : A54 → AV
  | .a xs o => .bool (allP (q55 o) xs xs.length)
  | .b xs => .bool (allP q56 xs xs.length)
  | .c xs o => .bool (allP (q57 o) xs xs.length)
  | .d xs f => .bool (allP (q62 f) xs xs.length)
theorem inj54 : ∀ a b, e54 a = e54 b → a = b := by
  intro a b h
  cases a <;> cases b <;> simp only [e54, mi_iff, oc_iff, tm_iff, List.cons.injEq, AV.sl.injEq, AV.fn.injEq, Fn.func.injEq, AV.ip.injEq, AV.mpr.injEq, and_true, true_and, reduceCtorEq, false_and, and_false, Nat.reduceEqDiff] at h <;> simp_all only
noncomputable def S54 : FSpec := funS e54 p54 r54 (fun _ => []) true
theorem ps54a (xs : List Int) (o : Ob) : psel e54 p54 [.sl (xs.map (.int .i64)) xs.length, .fn (.func 76) [] [.ip o.c]] = p54 (.a xs o) := psel_at inj54 p54 (.a xs o)
theorem rs54a (xs : List Int) (o : Ob) : rsel e54 r54 .any [.sl (xs.map (.int .i64)) xs.length, .fn (.func 76) [] [.ip o.c]] = r54 (.a xs o) := rsel_at inj54 r54 .any (.a xs o)
theorem ps54b (xs : List Int) : psel e54 p54 [.sl (xs.map (.int .i64)) xs.length, .fn (.func 77) [] []] = p54 (.b xs) := psel_at inj54 p54 (.b xs)
theorem rs54b (xs : List Int) : rsel e54 r54 .any [.sl (xs.map (.int .i64)) xs.length, .fn (.func 77) [] []] = r54 (.b xs) := rsel_at inj54 r54 .any (.b xs)
theorem ps54c (xs : List Int) (o : Ob) : psel e54 p54 [.sl (xs.map (.int .i64)) xs.length, .fn (.func 78) [] [.ip o.c]] = p54 (.c xs o) := psel_at inj54 p54 (.c xs o)
theorem rs54c (xs : List Int) (o : Ob) : rsel e54 r54 .any [.sl (xs.map (.int .i64)) xs.length, .fn (.func 78) [] [.ip o.c]] = r54 (.c xs o) := rsel_at inj54 r54 .any (.c xs o)
theorem ps54d (xs : List Int) (f : Int → Option Int) : psel e54 p54 [.sl (xs.map (.int .i64)) xs.length, .fn (.func 83) [] [.ip [.mpr (some .i64) (tm f)]]] = p54 (.d xs f) := psel_at inj54 p54 (.d xs f)
theorem rs54d (xs : List Int) (f : Int → Option Int) : rsel e54 r54 .any [.sl (xs.map (.int .i64)) xs.length, .fn (.func 83) [] [.ip [.mpr (some .i64) (tm f)]]] = r54 (.d xs f) := rsel_at inj54 r54 .any (.d xs f)
attribute [push_cast] S54 ps54a ps54b ps54c ps54d rs54a rs54b rs54c rs54d p54 r54
theorem hs54 (xs : List AV) : rsel e54 (fun _ => ([] : Heap)) [] xs = [] := by unfold rsel; split <;> rfl
theorem ren_bool (ρ : Nat → Nat) (b : Bool) : ren ρ (.bool b) = .bool b := rfl
attribute [push_cast] hs54
theorem con54 {Γ : Env} (h : EnvOk Tryz.prog Γ) (h55 : Γ 76 = some S55) (h56 : Γ 77 = some S56) (h57 : Γ 78 = some S57) (h62 : Γ 83 = some S62) : Con Tryz.prog 75 S54 :=
  funS_con h (fn := Tryz.f75) (by kernel_rfl) rfl (by kernel_rfl) inj54 (fun _ _ => rfl) fun a ha => by
    cases a with
    | a xs o =>
      refine allI_body Γ 76 S55 h55 rfl [.ip o.c] (by simp only [pureL, pureA, push_cast]) xs (q55 o) (fun i L hi => ?_) ha.1
      simp only [push_cast, reduceCtorEq, Nat.reduceAdd, Nat.reduceMul, Nat.reduceSub, Nat.reduceBEq, Nat.reduceGT, Nat.reduceLT, Int.toNat_zero, Nat.reduceLeDiff, Int.reduceEq, Int.reduceLT, Int.reduceLE]
      exact ha.2
    | b xs =>
      refine allI_body Γ 77 S56 h56 rfl [] rfl xs q56 (fun i L hi => ?_) ha
      simp only [push_cast, reduceCtorEq, Nat.reduceAdd, Nat.reduceMul, Nat.reduceSub, Nat.reduceBEq, Nat.reduceGT, Nat.reduceLT, Int.toNat_zero, Nat.reduceLeDiff, Int.reduceEq, Int.reduceLT, Int.reduceLE]
    | c xs o =>
      refine allI_body Γ 78 S57 h57 rfl [.ip o.c] (by simp only [pureL, pureA, push_cast]) xs (q57 o) (fun i L hi => ?_) (Nat.le_trans ha.1 ha.2.shown)
      simp only [push_cast, reduceCtorEq, Nat.reduceAdd, Nat.reduceMul, Nat.reduceSub, Nat.reduceBEq, Nat.reduceGT, Nat.reduceLT, Int.toNat_zero, Nat.reduceLeDiff, Int.reduceEq, Int.reduceLT, Int.reduceLE]
      exact ⟨ha.2, Nat.lt_of_lt_of_le hi ha.1⟩
    | d xs f =>
      refine allI_body Γ 83 S62 h62 rfl [.ip [.mpr (some .i64) (tm f)]] rfl xs (q62 f) (fun i L hi => ?_) ha
      simp only [push_cast, reduceCtorEq, Nat.reduceAdd, Nat.reduceMul, Nat.reduceSub, Nat.reduceBEq, Nat.reduceGT, Nat.reduceLT, Int.toNat_zero, Nat.reduceLeDiff, Int.reduceEq, Int.reduceLT, Int.reduceLE]
/-- may a fix be? -/
def fixB (o : Ob) (f : Int → Option Int) (x : Fx) : Bool :=
  win x.at_ 0 ((o.code.length : Int) - 1 - (if x.kind = 1 then 0 else 1)) && win x.m (-1) ((o.imps.length : Int) - 1) && decide (0 ≤ x.n) &&
  (if x.kind = 1 ∨ x.kind = 5 then decide (x.m < 0 ∧ x.n < o.procs.length ∨ 0 ≤ x.m ∧ x.n < 100)
   else if x.kind = 2 then decide (x.m < 0 ∧ x.n < o.vars.length ∨ 0 ≤ x.m ∧ x.n < 200)
   else if x.kind = 3 then decide (x.m < 0 ∧ x.n < o.strs.length)
   else if x.kind = 4 then decide (x.m < 0 ∧ 0 < (f x.n).getD 0)
   else false)
def e65 : (Ob) × (Int → Option Int) × (Fx) → List AV := fun (o, f, x) => [.agg o.c, .mpr (some .i64) (tm f), .agg x.c]
def p65 : (Ob) × (Int → Option Int) × (Fx) → Prop := fun (o, f, x) => o.ok
def r65 : (Ob) × (Int → Option Int) × (Fx) → AV := fun (o, f, x) => .bool (fixB o f x)
def g65 : (Ob) × (Int → Option Int) × (Fx) → Heap := fun (o, f, x) => []
theorem inj65 : ∀ a b, e65 a = e65 b → a = b := by
  rintro ⟨o, f, x⟩ ⟨o', f', x'⟩ h
  simp only [e65, mi_iff, ms_iff, mb_iff, my_iff, fI_iff, fD_iff, fF_iff, oc_iff, dc_iff, fc_iff, ic_iff, tm_iff, List.cons.injEq, AV.int.injEq, AV.str.injEq, AV.bool.injEq, AV.sl.injEq, AV.agg.injEq, AV.ip.injEq, AV.fn.injEq, AV.ifc.injEq, AV.mpr.injEq, Int.natCast_inj, and_true, true_and] at h
  simp_all only
noncomputable def S65 : FSpec := funS e65 p65 r65 g65 true
theorem ps65 (o : (Ob)) (f : (Int → Option Int)) (x : (Fx)) : psel e65 p65 [.agg o.c, .mpr (some .i64) (tm f), .agg x.c] = (o.ok) := psel_at inj65 p65 (o, f, x)
theorem rs65 (o : (Ob)) (f : (Int → Option Int)) (x : (Fx)) : rsel e65 r65 .any [.agg o.c, .mpr (some .i64) (tm f), .agg x.c] = (.bool (fixB o f x)) := rsel_at inj65 r65 .any (o, f, x)
theorem hs65 (o : (Ob)) (f : (Int → Option Int)) (x : (Fx)) : rsel e65 g65 [] [.agg o.c, .mpr (some .i64) (tm f), .agg x.c] = ([]) := rsel_at inj65 g65 [] (o, f, x)
attribute [push_cast] S65 ps65 rs65 hs65

theorem body65 (Γ : Env) (h52 : Γ 73 = some S52) (o : Ob) (f : Int → Option Int) (x : Fx) (ho : o.ok) : BodyOk Tryz.prog Γ Tryz.f86 (e65 (o, f, x)) [] (.bool (fixB o f x)) [] := by
  have hSM : SM = 1048576 := rfl
  have h1 := ho.code; have h2 := ho.imps; have h3 := ho.procs; have h4 := ho.vars; have h5 := ho.strs
  have w1 : IntKind.i64.wrap ((o.code.length : Int) - 1) = (o.code.length : Int) - 1 := wr_i64 ((o.code.length : Int) - 1) (by constructor <;> omega)
  have w2 : IntKind.i64.wrap ((o.imps.length : Int) - 1) = (o.imps.length : Int) - 1 := wr_i64 ((o.imps.length : Int) - 1) (by constructor <;> omega)
  have w3 : IntKind.i64.wrap ((o.code.length : Int) - 1 - 1) = (o.code.length : Int) - 1 - 1 := wr_i64 ((o.code.length : Int) - 1 - 1) (by constructor <;> omega)
  (intro X hP hΓ hL hfin; refine ⟨_, rfl, ?_⟩; rw [show Tryz.f86.ntmps = 105 from rfl]; rw [show Tryz.f86.results.toList = [.tmp 6] from rfl] at hfin; apply holds_of_ex X 400; simp (maxSteps := 1000000) only [push_cast, reduceCtorEq, Nat.reduceAdd, Nat.reduceMul, Nat.reduceSub, Nat.reduceBEq, Nat.reduceGT, Nat.reduceLT, Int.toNat_zero, Nat.reduceLeDiff, Int.reduceEq, Int.reduceLT, Int.reduceLE, hP, hΓ, hL, hfin, ↓tm_get, e65, h52, w1, w2, w3])
  (iterate 18 (all_goals (first | ((with_reducible refine Into.one ?_ rfl); (congr 1; rw [Bool.eq_iff_iff]; simp only [fixB]; (repeat' split) <;> (try simp only [decide_eq_true_eq, decide_eq_false_iff_not, Bool.and_eq_true, Bool.or_eq_true, Bool.and_eq_false_iff, Bool.or_eq_false_iff, Bool.not_eq_true', Bool.not_eq_false', Bool.not_eq_true, Bool.not_eq_false, Int.not_lt, Int.not_le, beq_iff_eq, beq_eq_false_iff_ne, ne_eq, win_t, win_f, Bool.false_eq_true, and_false, false_and, and_true, true_and, not_false_eq_true, iff_self, false_iff, iff_false, true_iff, iff_true]) <;> (first | done | omega))) | ((with_reducible refine exB_split (fun h => ?_) (fun h => ?_)) <;> (try simp only [decide_eq_true_eq, decide_eq_false_iff_not, Bool.and_eq_true, Bool.or_eq_true, Bool.and_eq_false_iff, Bool.or_eq_false_iff, Bool.not_eq_true', Bool.not_eq_false', Bool.not_eq_true, Bool.not_eq_false, Int.not_lt, Int.not_le, beq_iff_eq, beq_eq_false_iff_ne, ne_eq, win_t, win_f] at h)) | ((first | with_reducible refine holds_of_ex X 400 _ _ _ ?_ | skip); simp (maxSteps := 1000000) only [push_cast, reduceCtorEq, Nat.reduceAdd, Nat.reduceMul, Nat.reduceSub, Nat.reduceBEq, Nat.reduceGT, Nat.reduceLT, Int.toNat_zero, Nat.reduceLeDiff, Int.reduceEq, Int.reduceLT, Int.reduceLE, hP, hΓ, hL, hfin, ↓tm_get, h52, w1, w2, w3]) | skip)))
theorem con65 {Γ : Env} (h : EnvOk Tryz.prog Γ) (h52 : Γ 73 = some S52) : Con Tryz.prog 86 S65 :=
  funS_con h (fn := Tryz.f86) (by kernel_rfl) rfl (by kernel_rfl) inj65 (by first | (intro h; cases h; done) | exact fun _ _ => rfl) fun ⟨o, f, x⟩ ho => body65 Γ h52 o f x ho
end Go.Proofs.YtmilngcgcolpbaaGreat.objDone
