/- Of objects: which the document takes for right, but for their bytes. Conditions stand in each. -/
import Derived.Test.YtmilngcgcolpbaaGreatPA
namespace Go.Proofs.YtmilngcgcolpbaaGreat.objDone
open Go Go.Eng Go.Proofs
set_option linter.unusedVariables false
set_option linter.unusedSimpArgs false
set_option maxRecDepth 100000
set_option maxHeartbeats 4000000
/-- as a map: the types that there are -/
def fH (ds : List Ds) (t : Int) : Option Int := if hasD ds t then some 1 else none
theorem fH_pos (ds : List Ds) (t : Int) : decide (0 < (fH ds t).getD 0) = hasD ds t := by unfold fH; cases hasD ds t <;> rfl
def e69 : (Ob) × (Fx) → List AV := fun (o, x) => [.agg o.c, .agg x.c]
def p69 : (Ob) × (Fx) → Prop := fun (o, x) => o.ok
def r69 : (Ob) × (Fx) → AV := fun (o, x) => .bool (fixB o (fH o.descs) x)
def g69 : (Ob) × (Fx) → Heap := fun (o, x) => []
theorem inj69 : ∀ a b, e69 a = e69 b → a = b := by
  rintro ⟨o, x⟩ ⟨o', x'⟩ h
  simp only [e69, mi_iff, ms_iff, mb_iff, my_iff, fI_iff, fD_iff, fF_iff, oc_iff, dc_iff, fc_iff, ic_iff, tm_iff, List.cons.injEq, AV.int.injEq, AV.str.injEq, AV.bool.injEq, AV.sl.injEq, AV.agg.injEq, AV.ip.injEq, AV.fn.injEq, AV.ifc.injEq, AV.mpr.injEq, Int.natCast_inj, and_true, true_and] at h
  simp_all only
noncomputable def S69 : FSpec := funS e69 p69 r69 g69 true
theorem ps69 (o : (Ob)) (x : (Fx)) : psel e69 p69 [.agg o.c, .agg x.c] = (o.ok) := psel_at inj69 p69 (o, x)
theorem rs69 (o : (Ob)) (x : (Fx)) : rsel e69 r69 .any [.agg o.c, .agg x.c] = (.bool (fixB o (fH o.descs) x)) := rsel_at inj69 r69 .any (o, x)
theorem hs69 (o : (Ob)) (x : (Fx)) : rsel e69 g69 [] [.agg o.c, .agg x.c] = ([]) := rsel_at inj69 g69 [] (o, x)
attribute [push_cast] S69 ps69 rs69 hs69
theorem body69 (Γ : Env) (h98 : Γ 101 = some S98) (o : Ob) (x : Fx) (ho : o.ok) : BodyOk Tryz.prog Γ Tryz.f90 (e69 (o, x)) [] (.bool (fixB o (fH o.descs) x)) [] := by
  have hSM : SM = 1048576 := rfl
  have h1 := ho.code; have h2 := ho.imps; have h3 := ho.procs; have h4 := ho.vars; have h5 := ho.strs; have h6 := ho.descs
  have hz := fH_pos o.descs x.n
  have w1 : IntKind.i64.wrap ((o.code.length : Int) - 1) = (o.code.length : Int) - 1 := wr_i64 ((o.code.length : Int) - 1) (by constructor <;> omega)
  have w2 : IntKind.i64.wrap ((o.code.length : Int) - 1 - 1) = (o.code.length : Int) - 1 - 1 := wr_i64 ((o.code.length : Int) - 1 - 1) (by constructor <;> omega)
  (intro X hP hΓ hL hfin; refine ⟨_, rfl, ?_⟩; rw [show Tryz.f90.ntmps = 99 from rfl]; rw [show Tryz.f90.results.toList = [.tmp 4] from rfl] at hfin; apply holds_of_ex X 400; simp (maxSteps := 1000000) only [push_cast, reduceCtorEq, Nat.reduceAdd, Nat.reduceMul, Nat.reduceSub, Nat.reduceBEq, Nat.reduceGT, Nat.reduceLT, Int.toNat_zero, Nat.reduceLeDiff, Int.reduceEq, Int.reduceLT, Int.reduceLE, hP, hΓ, hL, hfin, ↓tm_get, e69, w1, w2])
  (iterate 18 (all_goals (first | ((with_reducible refine Into.one ?_ rfl); (congr 1; rw [Bool.eq_iff_iff]; simp only [fixB, hz]; (repeat' split) <;> (try simp only [decide_eq_true_eq, decide_eq_false_iff_not, Bool.and_eq_true, Bool.or_eq_true, Bool.and_eq_false_iff, Bool.or_eq_false_iff, Bool.not_eq_true', Bool.not_eq_false', Bool.not_eq_true, Bool.not_eq_false, Int.not_lt, Int.not_le, beq_iff_eq, beq_eq_false_iff_ne, ne_eq, win_t, win_f, Bool.false_eq_true, and_false, false_and, and_true, true_and, not_false_eq_true, iff_self, false_iff, iff_false, true_iff, iff_true]) <;> (first | done | omega))) | ((with_reducible refine exB_split (fun h => ?_) (fun h => ?_)) <;> (try simp only [decide_eq_true_eq, decide_eq_false_iff_not, Bool.and_eq_true, Bool.or_eq_true, Bool.and_eq_false_iff, Bool.or_eq_false_iff, Bool.not_eq_true', Bool.not_eq_false', Bool.not_eq_true, Bool.not_eq_false, Int.not_lt, Int.not_le, beq_iff_eq, beq_eq_false_iff_ne, ne_eq, win_t, win_f] at h)) | ((first | with_reducible refine holds_of_ex X 400 _ _ _ ?_ | skip); simp (maxSteps := 1000000) only [push_cast, reduceCtorEq, Nat.reduceAdd, Nat.reduceMul, Nat.reduceSub, Nat.reduceBEq, Nat.reduceGT, Nat.reduceLT, Int.toNat_zero, Nat.reduceLeDiff, Int.reduceEq, Int.reduceLT, Int.reduceLE, hP, hΓ, hL, hfin, ↓tm_get, h98, w1, w2]) | skip)))
  all_goals refine ⟨h6, Into.one ?_ rfl⟩
  all_goals rw [← hz]
  all_goals (congr 1; rw [Bool.eq_iff_iff]; simp only [fixB]; (repeat' split) <;> (try simp only [decide_eq_true_eq, decide_eq_false_iff_not, Bool.and_eq_true, Bool.or_eq_true, Bool.and_eq_false_iff, Bool.or_eq_false_iff, Bool.not_eq_true', Bool.not_eq_false', Bool.not_eq_true, Bool.not_eq_false, Int.not_lt, Int.not_le, beq_iff_eq, beq_eq_false_iff_ne, ne_eq, win_t, win_f, Bool.false_eq_true, and_false, false_and, and_true, true_and, not_false_eq_true, iff_self, false_iff, iff_false, true_iff, iff_true]) <;> (first | done | omega))
theorem con69 {Γ : Env} (h : EnvOk Tryz.prog Γ) (h98 : Γ 101 = some S98) : Con Tryz.prog 90 S69 :=
  funS_con h (fn := Tryz.f90) (by kernel_rfl) rfl (by kernel_rfl) inj69 (by first | (intro h; cases h; done) | exact fun _ _ => rfl) fun ⟨o, x⟩ ho => body69 Γ h98 o x ho
def e66 : (Ob) → List AV := fun o => [.agg o.c]
def p66 : (Ob) → Prop := fun o => o.ok
def r66 : (Ob) → AV := fun o => .bool (decide ((o.imps.length : Int) ≤ 16) && decide (1 ≤ (o.code.length : Int)) && decide ((o.code.length : Int) ≤ 65536) && decide ((o.procs.length : Int) ≤ 100) && decide ((o.names.length : Int) = o.procs.length) && decide ((o.exps.length : Int) = o.procs.length) && decide ((o.vars.length : Int) ≤ 200) && decide ((o.shown.length : Int) ≤ o.vars.length) && decide ((o.strs.length : Int) ≤ 200) && decide ((o.descs.length : Int) ≤ 200) && decide ((o.fixes.length : Int) ≤ 65536))
def g66 : (Ob) → Heap := fun o => []
theorem inj66 : ∀ a b, e66 a = e66 b → a = b := by
  rintro o o' h
  simp only [e66, mi_iff, ms_iff, mb_iff, my_iff, fI_iff, fD_iff, fF_iff, oc_iff, dc_iff, fc_iff, ic_iff, tm_iff, List.cons.injEq, AV.int.injEq, AV.str.injEq, AV.bool.injEq, AV.sl.injEq, AV.agg.injEq, AV.ip.injEq, AV.fn.injEq, AV.ifc.injEq, AV.mpr.injEq, Int.natCast_inj, and_true, true_and] at h
  simp_all only
noncomputable def S66 : FSpec := funS e66 p66 r66 g66 true
theorem ps66 (o : (Ob)) : psel e66 p66 [.agg o.c] = (o.ok) := psel_at inj66 p66 o
theorem rs66 (o : (Ob)) : rsel e66 r66 .any [.agg o.c] = (.bool (decide ((o.imps.length : Int) ≤ 16) && decide (1 ≤ (o.code.length : Int)) && decide ((o.code.length : Int) ≤ 65536) && decide ((o.procs.length : Int) ≤ 100) && decide ((o.names.length : Int) = o.procs.length) && decide ((o.exps.length : Int) = o.procs.length) && decide ((o.vars.length : Int) ≤ 200) && decide ((o.shown.length : Int) ≤ o.vars.length) && decide ((o.strs.length : Int) ≤ 200) && decide ((o.descs.length : Int) ≤ 200) && decide ((o.fixes.length : Int) ≤ 65536))) := rsel_at inj66 r66 .any o
theorem hs66 (o : (Ob)) : rsel e66 g66 [] [.agg o.c] = ([]) := rsel_at inj66 g66 [] o
attribute [push_cast] S66 ps66 rs66 hs66
theorem body66 (Γ : Env) (o : Ob) : BodyOk Tryz.prog Γ Tryz.f87 (e66 o) [] (r66 o) [] := by
  (intro X hP hΓ hL hfin; refine ⟨_, rfl, ?_⟩; rw [show Tryz.f87.ntmps = 76 from rfl]; rw [show Tryz.f87.results.toList = [.tmp 2] from rfl] at hfin; apply holds_of_ex X 400; simp (maxSteps := 1000000) only [push_cast, reduceCtorEq, Nat.reduceAdd, Nat.reduceMul, Nat.reduceSub, Nat.reduceBEq, Nat.reduceGT, Nat.reduceLT, Int.toNat_zero, Nat.reduceLeDiff, Int.reduceEq, Int.reduceLT, Int.reduceLE, hP, hΓ, hL, hfin, ↓tm_get, e66, r66])
  exact Into.one rfl rfl
theorem con66 {Γ : Env} (h : EnvOk Tryz.prog Γ)  : Con Tryz.prog 87 S66 :=
  funS_con h (fn := Tryz.f87) (by kernel_rfl) rfl (by kernel_rfl) inj66 (by first | (intro h; cases h; done) | exact fun _ _ => rfl) fun o ho => body66 Γ o
def plainB (o : Ob) : Bool := namesB (impNames o o.imps.length) && namesB o.names && (decide (0 ≤ o.init) && decide (o.init < o.code.length)) && allP (q55 o) o.procs o.procs.length && allP q56 o.vars o.vars.length && allP (q57 o) o.shown o.shown.length && allP q59 o.strs o.strs.length
def e67 : (Ob) → List AV := fun o => [.agg o.c]
def p67 : (Ob) → Prop := fun o => o.ok ∧ o.imps.length ≤ 16
def r67 : (Ob) → AV := fun o => .bool (plainB o)
def g67 : (Ob) → Heap := fun o => []
theorem inj67 : ∀ a b, e67 a = e67 b → a = b := by
  rintro o o' h
  simp only [e67, mi_iff, ms_iff, mb_iff, my_iff, fI_iff, fD_iff, fF_iff, oc_iff, dc_iff, fc_iff, ic_iff, tm_iff, List.cons.injEq, AV.int.injEq, AV.str.injEq, AV.bool.injEq, AV.sl.injEq, AV.agg.injEq, AV.ip.injEq, AV.fn.injEq, AV.ifc.injEq, AV.mpr.injEq, Int.natCast_inj, and_true, true_and] at h
  simp_all only
noncomputable def S67 : FSpec := funS e67 p67 r67 g67 true
theorem ps67 (o : (Ob)) : psel e67 p67 [.agg o.c] = (o.ok ∧ o.imps.length ≤ 16) := psel_at inj67 p67 o
theorem rs67 (o : (Ob)) : rsel e67 r67 .any [.agg o.c] = (.bool (plainB o)) := rsel_at inj67 r67 .any o
theorem hs67 (o : (Ob)) : rsel e67 g67 [] [.agg o.c] = ([]) := rsel_at inj67 g67 [] o
attribute [push_cast] S67 ps67 rs67 hs67
theorem body67 (Γ : Env) (h97 : Γ 100 = some S97) (o : Ob) (ho : o.ok) (hi16 : o.imps.length ≤ 16) : BodyOk Tryz.prog Γ Tryz.f88 (e67 o) [] (.bool (plainB o)) [] := by
  have hSM : SM = 1048576 := rfl
  have h1 := ho.code; have h2 := ho.imps; have h3 := ho.procs; have h4 := ho.vars; have h5 := ho.strs; have h6 := ho.shown
  (intro X hP hΓ hL hfin; refine ⟨_, rfl, ?_⟩; rw [show Tryz.f88.ntmps = 157 from rfl]; rw [show Tryz.f88.results.toList = [.tmp 2] from rfl] at hfin; apply holds_of_ex X 400; simp (maxSteps := 1000000) only [push_cast, reduceCtorEq, Nat.reduceAdd, Nat.reduceMul, Nat.reduceSub, Nat.reduceBEq, Nat.reduceGT, Nat.reduceLT, Int.toNat_zero, Nat.reduceLeDiff, Int.reduceEq, Int.reduceLT, Int.reduceLE, hP, hΓ, hL, hfin, ↓tm_get, e67])
  (repeat (refine And.intro (by first | exact True.intro | omega | assumption | exact own_row _ | (simp only [List.length_append]; omega) | (intro hg; (try simp only [decide_eq_true_eq, decide_eq_false_iff_not, Bool.and_eq_true, Bool.or_eq_true, Bool.and_eq_false_iff, Bool.or_eq_false_iff, Bool.not_eq_true', Bool.not_eq_false', Bool.not_eq_true, Bool.not_eq_false, Int.not_lt, Int.not_le, beq_iff_eq, beq_eq_false_iff_ne, ne_eq, win_t, win_f] at hg); omega)) ?_))
  refine Holds.loopM (ι := {k : Nat // k ≤ o.imps.length}) [false, true, true, false, false, true, true, true, true, true, true, false, false, false, false, false, false, false, false, false, false, false, false, false, false, false, false, false, false, false, false, false, false, false, false, false, false, false, false, false, false, false, false, false, false, false, false, false, false, false, false, false, false, false, false, false, false, false, false, false, false, false, false, false, false, false, false, false, false, false, false, false, false, false, false, false, false, false, false, false, false, false, false, false, false, false, false, false, false, false, false, false, false, false, false, false, false, false, false, false, false, false, false, false, false, false, false, false, false, false, false, false, false, false, false, false, false, false, false, false, false, false, false, false, false, false, false, false, false, false, false, false, false, false, false, false, false, false, false, false, false, false, false, false, false, false, false, false, false, false, false, false, false, false, false, false, false] (fun i => [(4, .int .i64 i.1), (3, .msl 1 0 0 (i.1 + 1))]) (fun i => [.row o.c 13 0, .row ((impNames o i.1).map .str) 1 0]) (fun i => o.imps.length - i.1) ⟨0, Nat.zero_le _⟩ ?_ ?_
  · rw [hL]; simp only [push_cast, Int.natCast_zero, impNames, List.take_zero]
    exact Into.sameA
  rintro ⟨k, hk⟩
  have hin := impNames_len o k hk
  ((first | with_reducible refine holds_of_ex X 400 _ _ _ ?_ | skip); simp (maxSteps := 1000000) only [push_cast, reduceCtorEq, Nat.reduceAdd, Nat.reduceMul, Nat.reduceSub, Nat.reduceBEq, Nat.reduceGT, Nat.reduceLT, Int.toNat_zero, Nat.reduceLeDiff, Int.reduceEq, Int.reduceLT, Int.reduceLE, hP, hΓ, hL, hfin, ↓tm_get])
  ((with_reducible refine exB_split (fun h => ?_) (fun h => ?_)) <;> (try simp only [decide_eq_true_eq, decide_eq_false_iff_not, Bool.and_eq_true, Bool.or_eq_true, Bool.and_eq_false_iff, Bool.or_eq_false_iff, Bool.not_eq_true', Bool.not_eq_false', Bool.not_eq_true, Bool.not_eq_false, Int.not_lt, Int.not_le, beq_iff_eq, beq_eq_false_iff_ne, ne_eq, win_t, win_f] at h))
  · have hk' : k < o.imps.length := by omega
    ((first | with_reducible refine holds_of_ex X 400 _ _ _ ?_ | skip); simp (maxSteps := 1000000) only [push_cast, reduceCtorEq, Nat.reduceAdd, Nat.reduceMul, Nat.reduceSub, Nat.reduceBEq, Nat.reduceGT, Nat.reduceLT, Int.toNat_zero, Nat.reduceLeDiff, Int.reduceEq, Int.reduceLT, Int.reduceLE, hP, hΓ, hL, hfin, ↓tm_get, wr_i64 ((k : Int) + 1) (by constructor <;> omega), hk', hin])
    refine ⟨by omega, by omega, by omega, ⟨k + 1, hk'⟩, by simp only; omega, ?_⟩
    rw [show [AV.str (o.imps.getD k default).name] = [(o.imps.getD k default).name].map AV.str from rfl, ← List.map_append, impNames_succ o k hk']
    (refine IntoF.ver 1  0 (by simp only [push_cast, reduceCtorEq, Nat.reduceAdd, Nat.reduceMul, Nat.reduceSub, Nat.reduceBEq, Nat.reduceGT, Nat.reduceLT, Int.toNat_zero, Nat.reduceLeDiff, Int.reduceEq, Int.reduceLT, Int.reduceLE]) (by first | exact .inr (Nat.zero_le _) | (left; simp only [push_cast, reduceCtorEq, Nat.reduceAdd, Nat.reduceMul, Nat.reduceSub, Nat.reduceBEq, Nat.reduceGT, Nat.reduceLT, Int.toNat_zero, Nat.reduceLeDiff, Int.reduceEq, Int.reduceLT, Int.reduceLE]; omega) | (right; simp only [push_cast, reduceCtorEq, Nat.reduceAdd, Nat.reduceMul, Nat.reduceSub, Nat.reduceBEq, Nat.reduceGT, Nat.reduceLT, Int.toNat_zero, Nat.reduceLeDiff, Int.reduceEq, Int.reduceLT, Int.reduceLE]; omega)) ?_; simp only [push_cast, reduceCtorEq, Nat.reduceAdd, Nat.reduceMul, Nat.reduceSub, Nat.reduceBEq, Nat.reduceGT, Nat.reduceLT, Int.toNat_zero, Nat.reduceLeDiff, Int.reduceEq, Int.reduceLT, Int.reduceLE])
    exact Into.keep2A
  obtain rfl : k = o.imps.length := by omega
  have ht : List.take (o.imps.length + 1) ((impNames o o.imps.length).map AV.str) = (impNames o o.imps.length).map AV.str := List.take_of_length_le (by simp [hin])
  ((first | with_reducible refine holds_of_ex X 400 _ _ _ ?_ | skip); simp (maxSteps := 1000000) only [push_cast, reduceCtorEq, Nat.reduceAdd, Nat.reduceMul, Nat.reduceSub, Nat.reduceBEq, Nat.reduceGT, Nat.reduceLT, Int.toNat_zero, Nat.reduceLeDiff, Int.reduceEq, Int.reduceLT, Int.reduceLE, hP, hΓ, hL, hfin, ↓tm_get, h97, hin, ht])
  refine ⟨⟨by omega, imp_len ho⟩, ⟨ho.names, ho.nam⟩, ?_⟩
  refine exB_split (fun h => ?_) (fun h => ?_)
  · ((first | with_reducible refine holds_of_ex X 400 _ _ _ ?_ | skip); simp (maxSteps := 1000000) only [push_cast, reduceCtorEq, Nat.reduceAdd, Nat.reduceMul, Nat.reduceSub, Nat.reduceBEq, Nat.reduceGT, Nat.reduceLT, Int.toNat_zero, Nat.reduceLeDiff, Int.reduceEq, Int.reduceLT, Int.reduceLE, hP, hΓ, hL, hfin, ↓tm_get])
    refine Into.one ?_ rfl
    have : (namesB (impNames o o.imps.length) && namesB o.names && (decide (0 ≤ o.init) && decide (o.init < o.code.length))) = false := by
      rw [Bool.eq_false_iff]
      intro hc
      simp only [Bool.and_eq_true, decide_eq_true_eq] at hc
      obtain ⟨⟨n1, n2⟩, n3, n4⟩ := hc
      rw [n1, n2] at h
      simp only [Bool.not_true, Bool.false_or, Bool.or_eq_true, decide_eq_true_eq] at h
      omega
    rw [plainB, this]; rfl
  have hini : plainB o = (allP (q55 o) o.procs o.procs.length && allP q56 o.vars o.vars.length && allP (q57 o) o.shown o.shown.length && allP q59 o.strs o.strs.length) := by
    have : (namesB (impNames o o.imps.length) && namesB o.names && (decide (0 ≤ o.init) && decide (o.init < o.code.length))) = true := by
      simp only [Bool.or_eq_false_iff, Bool.not_eq_false', decide_eq_false_iff_not] at h
      obtain ⟨⟨⟨n1, n2⟩, n3⟩, n4⟩ := h
      rw [n1, n2]
      simp only [Bool.true_and, Bool.and_eq_true, decide_eq_true_eq]; omega
    rw [plainB, this, Bool.true_and]
  ((first | with_reducible refine holds_of_ex X 400 _ _ _ ?_ | skip); simp (maxSteps := 1000000) only [push_cast, reduceCtorEq, Nat.reduceAdd, Nat.reduceMul, Nat.reduceSub, Nat.reduceBEq, Nat.reduceGT, Nat.reduceLT, Int.toNat_zero, Nat.reduceLeDiff, Int.reduceEq, Int.reduceLT, Int.reduceLE, hP, hΓ, hL, hfin, ↓tm_get])
  refine Holds.loopM (ι := {k : Nat // k ≤ o.procs.length ∧ allP (q55 o) o.procs k = true}) [false, true, false, false, false, false, false, false, true, true, true, false, false, false, false, false, false, false, false, false, false, false, false, false, false, false, false, false, false, false, false, false, false, false, false, false, false, false, false, false, false, false, false, false, false, false, false, false, false, false, false, false, false, false, false, false, false, false, false, false, false, false, false, false, false, false, false, false, false, false, false, false, false, false, false, false, false, false, false, false, false, false, false, false, false, false, false, false, false, false, false, false, false, false, false, false, false, false, false, false, false, false, false, false, false, false, false, false, false, false, false, false, false, false, false, false, false, false, false, false, false, false, false, false, false, false, false, false, false, false, false, false, false, false, false, false, false, false, false, false, false, false, false, false, false, false, false, false, false, false, false, false, false, false, false, false, false] (fun i => [(7, .int .i64 i.1)]) (fun i => [.row o.c 13 0]) (fun i => o.procs.length - i.1) ⟨0, Nat.zero_le _, rfl⟩ ?_ ?_
  · rw [hL]; simp only [push_cast, Int.natCast_zero]
    exact Into.keep1A
  rintro ⟨k, hk, ha⟩
  ((first | with_reducible refine holds_of_ex X 400 _ _ _ ?_ | skip); simp (maxSteps := 1000000) only [push_cast, reduceCtorEq, Nat.reduceAdd, Nat.reduceMul, Nat.reduceSub, Nat.reduceBEq, Nat.reduceGT, Nat.reduceLT, Int.toNat_zero, Nat.reduceLeDiff, Int.reduceEq, Int.reduceLT, Int.reduceLE, hP, hΓ, hL, hfin, ↓tm_get])
  ((with_reducible refine exB_split (fun h => ?_) (fun h => ?_)) <;> (try simp only [decide_eq_true_eq, decide_eq_false_iff_not, Bool.and_eq_true, Bool.or_eq_true, Bool.and_eq_false_iff, Bool.or_eq_false_iff, Bool.not_eq_true', Bool.not_eq_false', Bool.not_eq_true, Bool.not_eq_false, Int.not_lt, Int.not_le, beq_iff_eq, beq_eq_false_iff_ne, ne_eq, win_t, win_f] at h))
  · have hk' : k < o.procs.length := by omega
    ((first | with_reducible refine holds_of_ex X 400 _ _ _ ?_ | skip); simp (maxSteps := 1000000) only [push_cast, reduceCtorEq, Nat.reduceAdd, Nat.reduceMul, Nat.reduceSub, Nat.reduceBEq, Nat.reduceGT, Nat.reduceLT, Int.toNat_zero, Nat.reduceLeDiff, Int.reduceEq, Int.reduceLT, Int.reduceLE, hP, hΓ, hL, hfin, ↓tm_get])
    (refine Holds.drawnQ (by rw [hP]; kernel_rfl) (by kernel_rfl) ?_; simp (maxSteps := 1000000) only [push_cast, reduceCtorEq, Nat.reduceAdd, Nat.reduceMul, Nat.reduceSub, Nat.reduceBEq, Nat.reduceGT, Nat.reduceLT, Int.toNat_zero, Nat.reduceLeDiff, Int.reduceEq, Int.reduceLT, Int.reduceLE, hP, hΓ, hL, hfin, ↓tm_get])
    (repeat (refine And.intro (by first | exact True.intro | omega | assumption | exact own_row _ | (simp only [List.length_append]; omega) | (intro hg; (try simp only [decide_eq_true_eq, decide_eq_false_iff_not, Bool.and_eq_true, Bool.or_eq_true, Bool.and_eq_false_iff, Bool.or_eq_false_iff, Bool.not_eq_true', Bool.not_eq_false', Bool.not_eq_true, Bool.not_eq_false, Int.not_lt, Int.not_le, beq_iff_eq, beq_eq_false_iff_ne, ne_eq, win_t, win_f] at hg); omega)) ?_))
    have e : (decide (o.procs.getD k default < 0) || decide ((o.code.length : Int) ≤ o.procs.getD k default)) = !q55 o k (o.procs.getD k default) := by
      rw [Bool.eq_iff_iff]; simp only [q55, Bool.or_eq_true, decide_eq_true_eq, Bool.not_eq_true', win_f]; omega
    rw [e]
    ((with_reducible refine exB_split (fun h => ?_) (fun h => ?_)) <;> (try simp only [decide_eq_true_eq, decide_eq_false_iff_not, Bool.and_eq_true, Bool.or_eq_true, Bool.and_eq_false_iff, Bool.or_eq_false_iff, Bool.not_eq_true', Bool.not_eq_false', Bool.not_eq_true, Bool.not_eq_false, Int.not_lt, Int.not_le, beq_iff_eq, beq_eq_false_iff_ne, ne_eq, win_t, win_f] at h))
    · ((first | with_reducible refine holds_of_ex X 400 _ _ _ ?_ | skip); simp (maxSteps := 1000000) only [push_cast, reduceCtorEq, Nat.reduceAdd, Nat.reduceMul, Nat.reduceSub, Nat.reduceBEq, Nat.reduceGT, Nat.reduceLT, Int.toNat_zero, Nat.reduceLeDiff, Int.reduceEq, Int.reduceLT, Int.reduceLE, hP, hΓ, hL, hfin, ↓tm_get])
      exact Into.one (by rw [hini, allP_false (k := k) hk' h]; rfl) rfl
    · ((first | with_reducible refine holds_of_ex X 400 _ _ _ ?_ | skip); simp (maxSteps := 1000000) only [push_cast, reduceCtorEq, Nat.reduceAdd, Nat.reduceMul, Nat.reduceSub, Nat.reduceBEq, Nat.reduceGT, Nat.reduceLT, Int.toNat_zero, Nat.reduceLeDiff, Int.reduceEq, Int.reduceLT, Int.reduceLE, hP, hΓ, hL, hfin, ↓tm_get, wr_i64 ((k : Int) + 1) (by constructor <;> omega)])
      (refine ⟨⟨k + 1, by omega, by rw [allP_succ, ha, h]; rfl⟩, by (try simp only [List.length_cons, List.length_append, List.length_nil]); omega, ?_⟩; (try rw [hL]); (try simp only [push_cast, Int.natCast_zero]); first | (exact Into.sameA) | (exact Into.keep0A) | (exact Into.keep1A) | (exact Into.keep2A) | (exact Into.keep3A))
  obtain rfl : k = o.procs.length := by omega
  rw [ha, Bool.true_and] at hini
  ((first | with_reducible refine holds_of_ex X 400 _ _ _ ?_ | skip); simp (maxSteps := 1000000) only [push_cast, reduceCtorEq, Nat.reduceAdd, Nat.reduceMul, Nat.reduceSub, Nat.reduceBEq, Nat.reduceGT, Nat.reduceLT, Int.toNat_zero, Nat.reduceLeDiff, Int.reduceEq, Int.reduceLT, Int.reduceLE, hP, hΓ, hL, hfin, ↓tm_get])
  refine Holds.loopM (ι := {k : Nat // k ≤ o.vars.length ∧ allP q56 o.vars k = true}) [false, true, false, false, false, false, false, false, false, true, true, false, false, false, false, false, false, false, false, false, false, false, false, false, false, false, false, false, false, false, false, false, false, false, false, false, false, false, false, false, false, false, false, false, false, false, false, false, false, false, false, false, false, false, false, false, false, false, false, false, false, false, false, false, false, false, false, false, false, false, false, false, false, false, false, false, false, false, false, false, false, false, false, false, false, false, false, false, false, false, false, false, false, false, false, false, false, false, false, false, false, false, false, false, false, false, false, false, false, false, false, false, false, false, false, false, false, false, false, false, false, false, false, false, false, false, false, false, false, false, false, false, false, false, false, false, false, false, false, false, false, false, false, false, false, false, false, false, false, false, false, false, false, false, false, false, false] (fun i => [(8, .int .i64 i.1)]) (fun i => [.row o.c 13 0]) (fun i => o.vars.length - i.1) ⟨0, Nat.zero_le _, rfl⟩ ?_ ?_
  · (rw [hL]; simp only [push_cast, Int.natCast_zero]; exact Into.sameA)
  rintro ⟨k, hk, ha⟩
  ((first | with_reducible refine holds_of_ex X 400 _ _ _ ?_ | skip); simp (maxSteps := 1000000) only [push_cast, reduceCtorEq, Nat.reduceAdd, Nat.reduceMul, Nat.reduceSub, Nat.reduceBEq, Nat.reduceGT, Nat.reduceLT, Int.toNat_zero, Nat.reduceLeDiff, Int.reduceEq, Int.reduceLT, Int.reduceLE, hP, hΓ, hL, hfin, ↓tm_get])
  ((with_reducible refine exB_split (fun h => ?_) (fun h => ?_)) <;> (try simp only [decide_eq_true_eq, decide_eq_false_iff_not, Bool.and_eq_true, Bool.or_eq_true, Bool.and_eq_false_iff, Bool.or_eq_false_iff, Bool.not_eq_true', Bool.not_eq_false', Bool.not_eq_true, Bool.not_eq_false, Int.not_lt, Int.not_le, beq_iff_eq, beq_eq_false_iff_ne, ne_eq, win_t, win_f] at h))
  · have hk' : k < o.vars.length := by omega
    ((first | with_reducible refine holds_of_ex X 400 _ _ _ ?_ | skip); simp (maxSteps := 1000000) only [push_cast, reduceCtorEq, Nat.reduceAdd, Nat.reduceMul, Nat.reduceSub, Nat.reduceBEq, Nat.reduceGT, Nat.reduceLT, Int.toNat_zero, Nat.reduceLeDiff, Int.reduceEq, Int.reduceLT, Int.reduceLE, hP, hΓ, hL, hfin, ↓tm_get])
    (repeat (refine And.intro (by first | exact True.intro | omega | assumption | exact own_row _ | (simp only [List.length_append]; omega) | (intro hg; (try simp only [decide_eq_true_eq, decide_eq_false_iff_not, Bool.and_eq_true, Bool.or_eq_true, Bool.and_eq_false_iff, Bool.or_eq_false_iff, Bool.not_eq_true', Bool.not_eq_false', Bool.not_eq_true, Bool.not_eq_false, Int.not_lt, Int.not_le, beq_iff_eq, beq_eq_false_iff_ne, ne_eq, win_t, win_f] at hg); omega)) ?_))
    have e : (decide (o.vars.getD k default < 1) || decide (16384 < o.vars.getD k default)) = !q56 k (o.vars.getD k default) := by
      rw [Bool.eq_iff_iff]; simp only [q56, Bool.or_eq_true, decide_eq_true_eq, Bool.not_eq_true', win_f]
    rw [e]
    ((with_reducible refine exB_split (fun h => ?_) (fun h => ?_)) <;> (try simp only [decide_eq_true_eq, decide_eq_false_iff_not, Bool.and_eq_true, Bool.or_eq_true, Bool.and_eq_false_iff, Bool.or_eq_false_iff, Bool.not_eq_true', Bool.not_eq_false', Bool.not_eq_true, Bool.not_eq_false, Int.not_lt, Int.not_le, beq_iff_eq, beq_eq_false_iff_ne, ne_eq, win_t, win_f] at h))
    · ((first | with_reducible refine holds_of_ex X 400 _ _ _ ?_ | skip); simp (maxSteps := 1000000) only [push_cast, reduceCtorEq, Nat.reduceAdd, Nat.reduceMul, Nat.reduceSub, Nat.reduceBEq, Nat.reduceGT, Nat.reduceLT, Int.toNat_zero, Nat.reduceLeDiff, Int.reduceEq, Int.reduceLT, Int.reduceLE, hP, hΓ, hL, hfin, ↓tm_get])
      exact Into.one (by rw [hini, allP_false (k := k) hk' h]; rfl) rfl
    · ((first | with_reducible refine holds_of_ex X 400 _ _ _ ?_ | skip); simp (maxSteps := 1000000) only [push_cast, reduceCtorEq, Nat.reduceAdd, Nat.reduceMul, Nat.reduceSub, Nat.reduceBEq, Nat.reduceGT, Nat.reduceLT, Int.toNat_zero, Nat.reduceLeDiff, Int.reduceEq, Int.reduceLT, Int.reduceLE, hP, hΓ, hL, hfin, ↓tm_get, wr_i64 ((k : Int) + 1) (by constructor <;> omega)])
      (refine ⟨⟨k + 1, by omega, by rw [allP_succ, ha, h]; rfl⟩, by (try simp only [List.length_cons, List.length_append, List.length_nil]); omega, ?_⟩; (try rw [hL]); (try simp only [push_cast, Int.natCast_zero]); first | (exact Into.sameA) | (exact Into.keep0A) | (exact Into.keep1A) | (exact Into.keep2A) | (exact Into.keep3A))
  obtain rfl : k = o.vars.length := by omega
  rw [ha, Bool.true_and] at hini
  ((first | with_reducible refine holds_of_ex X 400 _ _ _ ?_ | skip); simp (maxSteps := 1000000) only [push_cast, reduceCtorEq, Nat.reduceAdd, Nat.reduceMul, Nat.reduceSub, Nat.reduceBEq, Nat.reduceGT, Nat.reduceLT, Int.toNat_zero, Nat.reduceLeDiff, Int.reduceEq, Int.reduceLT, Int.reduceLE, hP, hΓ, hL, hfin, ↓tm_get])
  refine Holds.loopM (ι := {k : Nat // k ≤ o.shown.length ∧ allP (q57 o) o.shown k = true}) [false, true, false, false, false, false, false, false, false, false, true, false, false, false, false, false, false, false, false, false, false, false, false, false, false, false, false, false, false, false, false, false, false, false, false, false, false, false, false, false, false, false, false, false, false, false, false, false, false, false, false, false, false, false, false, false, false, false, false, false, false, false, false, false, false, false, false, false, false, false, false, false, false, false, false, false, false, false, false, false, false, false, false, false, false, false, false, false, false, false, false, false, false, false, false, false, false, false, false, false, false, false, false, false, false, false, false, false, false, false, false, false, false, false, false, false, false, false, false, false, false, false, false, false, false, false, false, false, false, false, false, false, false, false, false, false, false, false, false, false, false, false, false, false, false, false, false, false, false, false, false, false, false, false, false, false, false] (fun i => [(9, .int .i64 i.1)]) (fun i => [.row o.c 13 0]) (fun i => o.shown.length - i.1) ⟨0, Nat.zero_le _, rfl⟩ ?_ ?_
  · (rw [hL]; simp only [push_cast, Int.natCast_zero]; exact Into.sameA)
  rintro ⟨k, hk, ha⟩
  ((first | with_reducible refine holds_of_ex X 400 _ _ _ ?_ | skip); simp (maxSteps := 1000000) only [push_cast, reduceCtorEq, Nat.reduceAdd, Nat.reduceMul, Nat.reduceSub, Nat.reduceBEq, Nat.reduceGT, Nat.reduceLT, Int.toNat_zero, Nat.reduceLeDiff, Int.reduceEq, Int.reduceLT, Int.reduceLE, hP, hΓ, hL, hfin, ↓tm_get])
  ((with_reducible refine exB_split (fun h => ?_) (fun h => ?_)) <;> (try simp only [decide_eq_true_eq, decide_eq_false_iff_not, Bool.and_eq_true, Bool.or_eq_true, Bool.and_eq_false_iff, Bool.or_eq_false_iff, Bool.not_eq_true', Bool.not_eq_false', Bool.not_eq_true, Bool.not_eq_false, Int.not_lt, Int.not_le, beq_iff_eq, beq_eq_false_iff_ne, ne_eq, win_t, win_f] at h))
  · have hk' : k < o.shown.length := by omega
    ((first | with_reducible refine holds_of_ex X 400 _ _ _ ?_ | skip); simp (maxSteps := 1000000) only [push_cast, reduceCtorEq, Nat.reduceAdd, Nat.reduceMul, Nat.reduceSub, Nat.reduceBEq, Nat.reduceGT, Nat.reduceLT, Int.toNat_zero, Nat.reduceLeDiff, Int.reduceEq, Int.reduceLT, Int.reduceLE, hP, hΓ, hL, hfin, ↓tm_get])
    (refine Holds.drawnQ (by rw [hP]; kernel_rfl) (by kernel_rfl) ?_; simp (maxSteps := 1000000) only [push_cast, reduceCtorEq, Nat.reduceAdd, Nat.reduceMul, Nat.reduceSub, Nat.reduceBEq, Nat.reduceGT, Nat.reduceLT, Int.toNat_zero, Nat.reduceLeDiff, Int.reduceEq, Int.reduceLT, Int.reduceLE, hP, hΓ, hL, hfin, ↓tm_get, wr_i64 ((k : Int) - 1) (by constructor <;> omega)])
    (repeat (refine And.intro (by first | exact True.intro | omega | assumption | exact own_row _ | (simp only [List.length_append]; omega) | (intro hg; (try simp only [decide_eq_true_eq, decide_eq_false_iff_not, Bool.and_eq_true, Bool.or_eq_true, Bool.and_eq_false_iff, Bool.or_eq_false_iff, Bool.not_eq_true', Bool.not_eq_false', Bool.not_eq_true, Bool.not_eq_false, Int.not_lt, Int.not_le, beq_iff_eq, beq_eq_false_iff_ne, ne_eq, win_t, win_f] at hg); omega)) ?_))
    have e : (decide (o.shown.getD k default < 0) || decide ((o.vars.length : Int) ≤ o.shown.getD k default) || decide (0 < (k : Int)) && decide (o.shown.getD k default ≤ o.shown.getD (k - 1) default)) = !q57 o k (o.shown.getD k default) := by
      rw [Bool.eq_iff_iff]; simp only [q57, Bool.or_eq_true, Bool.and_eq_true, decide_eq_true_eq, Bool.not_eq_true', Bool.and_eq_false_iff, Bool.or_eq_false_iff, decide_eq_false_iff_not, win_f]; omega
    rw [e]
    ((with_reducible refine exB_split (fun h => ?_) (fun h => ?_)) <;> (try simp only [decide_eq_true_eq, decide_eq_false_iff_not, Bool.and_eq_true, Bool.or_eq_true, Bool.and_eq_false_iff, Bool.or_eq_false_iff, Bool.not_eq_true', Bool.not_eq_false', Bool.not_eq_true, Bool.not_eq_false, Int.not_lt, Int.not_le, beq_iff_eq, beq_eq_false_iff_ne, ne_eq, win_t, win_f] at h))
    · ((first | with_reducible refine holds_of_ex X 400 _ _ _ ?_ | skip); simp (maxSteps := 1000000) only [push_cast, reduceCtorEq, Nat.reduceAdd, Nat.reduceMul, Nat.reduceSub, Nat.reduceBEq, Nat.reduceGT, Nat.reduceLT, Int.toNat_zero, Nat.reduceLeDiff, Int.reduceEq, Int.reduceLT, Int.reduceLE, hP, hΓ, hL, hfin, ↓tm_get])
      exact Into.one (by rw [hini, allP_false (k := k) hk' h]; rfl) rfl
    · ((first | with_reducible refine holds_of_ex X 400 _ _ _ ?_ | skip); simp (maxSteps := 1000000) only [push_cast, reduceCtorEq, Nat.reduceAdd, Nat.reduceMul, Nat.reduceSub, Nat.reduceBEq, Nat.reduceGT, Nat.reduceLT, Int.toNat_zero, Nat.reduceLeDiff, Int.reduceEq, Int.reduceLT, Int.reduceLE, hP, hΓ, hL, hfin, ↓tm_get, wr_i64 ((k : Int) + 1) (by constructor <;> omega)])
      (refine ⟨⟨k + 1, by omega, by rw [allP_succ, ha, h]; rfl⟩, by (try simp only [List.length_cons, List.length_append, List.length_nil]); omega, ?_⟩; (try rw [hL]); (try simp only [push_cast, Int.natCast_zero]); first | (exact Into.sameA) | (exact Into.keep0A) | (exact Into.keep1A) | (exact Into.keep2A) | (exact Into.keep3A))
  obtain rfl : k = o.shown.length := by omega
  rw [ha, Bool.true_and] at hini
  ((first | with_reducible refine holds_of_ex X 400 _ _ _ ?_ | skip); simp (maxSteps := 1000000) only [push_cast, reduceCtorEq, Nat.reduceAdd, Nat.reduceMul, Nat.reduceSub, Nat.reduceBEq, Nat.reduceGT, Nat.reduceLT, Int.toNat_zero, Nat.reduceLeDiff, Int.reduceEq, Int.reduceLT, Int.reduceLE, hP, hΓ, hL, hfin, ↓tm_get])
  refine Holds.loopM (ι := {k : Nat // k ≤ o.strs.length ∧ allP q59 o.strs k = true}) [false, true, false, false, false, false, false, false, false, false, false, false, false, false, false, false, false, false, false, false, false, false, false, false, false, false, false, false, false, false, false, false, false, false, false, false, false, false, false, false, false, false, false, false, false, false, false, false, false, false, false, false, false, false, false, false, false, false, false, false, false, false, false, false, false, false, false, false, false, false, false, false, false, false, false, false, false, false, false, false, false, false, false, false, false, false, false, false, false, false, false, false, false, false, false, false, false, false, false, false, false, false, false, false, false, false, false, false, false, false, false, false, false, false, false, false, false, false, false, false, false, false, false, false, false, false, false, false, false, false, false, false, false, false, false, false, false, false, false, false, false, false, false, false, false, false, false, false, false, false, false, false, false, false, false, false, false] (fun i => [(10, .int .i64 i.1)]) (fun i => [.row o.c 13 0]) (fun i => o.strs.length - i.1) ⟨0, Nat.zero_le _, rfl⟩ ?_ ?_
  · (rw [hL]; simp only [push_cast, Int.natCast_zero]; exact Into.sameA)
  rintro ⟨k, hk, ha⟩
  ((first | with_reducible refine holds_of_ex X 400 _ _ _ ?_ | skip); simp (maxSteps := 1000000) only [push_cast, reduceCtorEq, Nat.reduceAdd, Nat.reduceMul, Nat.reduceSub, Nat.reduceBEq, Nat.reduceGT, Nat.reduceLT, Int.toNat_zero, Nat.reduceLeDiff, Int.reduceEq, Int.reduceLT, Int.reduceLE, hP, hΓ, hL, hfin, ↓tm_get])
  ((with_reducible refine exB_split (fun h => ?_) (fun h => ?_)) <;> (try simp only [decide_eq_true_eq, decide_eq_false_iff_not, Bool.and_eq_true, Bool.or_eq_true, Bool.and_eq_false_iff, Bool.or_eq_false_iff, Bool.not_eq_true', Bool.not_eq_false', Bool.not_eq_true, Bool.not_eq_false, Int.not_lt, Int.not_le, beq_iff_eq, beq_eq_false_iff_ne, ne_eq, win_t, win_f] at h))
  · have hk' : k < o.strs.length := by omega
    ((first | with_reducible refine holds_of_ex X 400 _ _ _ ?_ | skip); simp (maxSteps := 1000000) only [push_cast, reduceCtorEq, Nat.reduceAdd, Nat.reduceMul, Nat.reduceSub, Nat.reduceBEq, Nat.reduceGT, Nat.reduceLT, Int.toNat_zero, Nat.reduceLeDiff, Int.reduceEq, Int.reduceLT, Int.reduceLE, hP, hΓ, hL, hfin, ↓tm_get])
    (repeat (refine And.intro (by first | exact True.intro | omega | assumption | exact own_row _ | (simp only [List.length_append]; omega) | (intro hg; (try simp only [decide_eq_true_eq, decide_eq_false_iff_not, Bool.and_eq_true, Bool.or_eq_true, Bool.and_eq_false_iff, Bool.or_eq_false_iff, Bool.not_eq_true', Bool.not_eq_false', Bool.not_eq_true, Bool.not_eq_false, Int.not_lt, Int.not_le, beq_iff_eq, beq_eq_false_iff_ne, ne_eq, win_t, win_f] at hg); omega)) ?_))
    have e : decide (200 < ((o.strs.getD k default).length : Int)) = !q59 k (o.strs.getD k default) := by
      rw [Bool.eq_iff_iff]; simp only [q59, decide_eq_true_eq, Bool.not_eq_true', decide_eq_false_iff_not]; omega
    rw [e]
    ((with_reducible refine exB_split (fun h => ?_) (fun h => ?_)) <;> (try simp only [decide_eq_true_eq, decide_eq_false_iff_not, Bool.and_eq_true, Bool.or_eq_true, Bool.and_eq_false_iff, Bool.or_eq_false_iff, Bool.not_eq_true', Bool.not_eq_false', Bool.not_eq_true, Bool.not_eq_false, Int.not_lt, Int.not_le, beq_iff_eq, beq_eq_false_iff_ne, ne_eq, win_t, win_f] at h))
    · ((first | with_reducible refine holds_of_ex X 400 _ _ _ ?_ | skip); simp (maxSteps := 1000000) only [push_cast, reduceCtorEq, Nat.reduceAdd, Nat.reduceMul, Nat.reduceSub, Nat.reduceBEq, Nat.reduceGT, Nat.reduceLT, Int.toNat_zero, Nat.reduceLeDiff, Int.reduceEq, Int.reduceLT, Int.reduceLE, hP, hΓ, hL, hfin, ↓tm_get])
      exact Into.one (by rw [hini, allP_false (k := k) hk' h]) rfl
    · ((first | with_reducible refine holds_of_ex X 400 _ _ _ ?_ | skip); simp (maxSteps := 1000000) only [push_cast, reduceCtorEq, Nat.reduceAdd, Nat.reduceMul, Nat.reduceSub, Nat.reduceBEq, Nat.reduceGT, Nat.reduceLT, Int.toNat_zero, Nat.reduceLeDiff, Int.reduceEq, Int.reduceLT, Int.reduceLE, hP, hΓ, hL, hfin, ↓tm_get, wr_i64 ((k : Int) + 1) (by constructor <;> omega)])
      (refine ⟨⟨k + 1, by omega, by rw [allP_succ, ha, h]; rfl⟩, by (try simp only [List.length_cons, List.length_append, List.length_nil]); omega, ?_⟩; (try rw [hL]); (try simp only [push_cast, Int.natCast_zero]); first | (exact Into.sameA) | (exact Into.keep0A) | (exact Into.keep1A) | (exact Into.keep2A) | (exact Into.keep3A))
  obtain rfl : k = o.strs.length := by omega
  ((first | with_reducible refine holds_of_ex X 400 _ _ _ ?_ | skip); simp (maxSteps := 1000000) only [push_cast, reduceCtorEq, Nat.reduceAdd, Nat.reduceMul, Nat.reduceSub, Nat.reduceBEq, Nat.reduceGT, Nat.reduceLT, Int.toNat_zero, Nat.reduceLeDiff, Int.reduceEq, Int.reduceLT, Int.reduceLE, hP, hΓ, hL, hfin, ↓tm_get])
  exact Into.one (by rw [hini, ha]) rfl
theorem con67 {Γ : Env} (h : EnvOk Tryz.prog Γ) (h97 : Γ 100 = some S97) : Con Tryz.prog 88 S67 :=
  funS_con h (fn := Tryz.f88) (by kernel_rfl) rfl (by kernel_rfl) inj67 (by first | (intro h; cases h; done) | exact fun _ _ => rfl) fun o ho => body67 Γ h97 o ho.1 ho.2
end Go.Proofs.YtmilngcgcolpbaaGreat.objDone
