/- Of the model of a workstation: the program's fits; its Free is said, not yet shown. Conditions stand in each. Of the model of a workstation: the program's fits; its Free is said (S16), not yet shown. Conditions stand in each. Of the model of a workstation: the program's lay. Conditions stand in each. Of the model of a workstation: the program's put, add, free. Conditions stand in each. Of the model of a workstation: the program's free. Conditions stand in each. Of the model of a workstation: the program's Free, a sum over a map in whatever order. Conditions stand in each. Of the model of a workstation: the program's add. Conditions stand in each. -/
import Derived.Test.YtenopfmafecffaaGreatDoorMpA
import Derived.Test.YtenopfmafecffaaGreatDoorEF
section
namespace Go.Proofs.YtenopfmafecffaaGreatDoor.modelDone
open Go Go.Eng Go.Proofs Go.Mdl Go.RowKit
set_option linter.unusedVariables false
set_option linter.unusedSimpArgs false
set_option maxRecDepth 100000
set_option maxHeartbeats 4000000
theorem vS_inj {a b : Bytes} (h : vS a = vS b) : a = b := by
  simpa [vS] using h
theorem look_none {A : Fs} {a : Bytes} (h : ∀ x ∈ A, a < x.1) : A.lookup a = none := lookup_none fun x hx e => ltI a (by have := h x hx; rwa [e] at this)
theorem look_eq : ∀ {A B : Fs}, sorted A → sorted B → (∀ k, A.lookup k = B.lookup k) → A = B
  | [], [], _, _, _ => rfl
  | [], (b, y) :: B, _, _, h => by have := h b; rw [lookup_one, if_pos rfl] at this; cases this
  | (a, x) :: A, [], _, _, h => by have := h a; rw [lookup_one, if_pos rfl] at this; cases this
  | (a, x) :: A, (b, y) :: B, hA, hB, h => by
    rw [sorted, List.pairwise_cons] at hA hB
    have na : A.lookup a = none := look_none hA.1
    have nb : B.lookup b = none := look_none hB.1
    have e : a = b := by
      rcases Decidable.em (a < b) with h1 | h1
      · have := h a
        rw [lookup_one, if_pos rfl, lookup_one, if_neg (ltN h1), look_none fun z hz => ltT h1 (hB.1 z hz)] at this
        cases this
      · rcases Decidable.em (b < a) with h2 | h2
        · have := h b
          rw [lookup_one, if_neg (ltN h2), lookup_one, if_pos rfl, look_none fun z hz => ltT h2 (hA.1 z hz)] at this
          cases this
        · exact ltA h1 h2
    subst e
    have hx := h a
    rw [lookup_one, if_pos rfl, lookup_one, if_pos rfl] at hx
    cases hx
    rw [look_eq hA.2 hB.2 fun k => ?_]
    by_cases hk : k = a
    · rw [hk, na, nb]
    · have := h k
      rwa [lookup_one, if_neg hk, lookup_one, if_neg hk] at this
theorem mapF_inj {A B : Fs} (hA : sorted A) (hB : sorted B) (h : mapF A = mapF B) : A = B := look_eq hA hB fun k => by
  have := congrFun h (.s k)
  rw [mapF_s, mapF_s] at this
  cases h1 : A.lookup k <;> cases h2 : B.lookup k <;> rw [h1, h2] at this
  · cases this
  · cases this
  · rw [vS_inj (Option.some.inj this)]
open Classical in
/-- the files of a map -/
noncomputable def fsOf (f : Key → Option Value) : Fs := if h : ∃ A, sorted A ∧ mapF A = f then h.choose else []
theorem fsOf_mapF {A : Fs} (h : sorted A) : fsOf (mapF A) = A := by
  have e : ∃ B, sorted B ∧ mapF B = mapF A := ⟨A, h, rfl⟩
  rw [fsOf, dif_pos e]
  exact mapF_inj e.choose_spec.1 h e.choose_spec.2
end Go.Proofs.YtenopfmafecffaaGreatDoor.modelDone
end
section
namespace Go.Proofs.YtenopfmafecffaaGreatDoor.modelDone
open Go Go.Eng Go.Proofs Go.Mdl Go.RowKit
set_option linter.unusedVariables false
set_option linter.unusedSimpArgs false
set_option maxRecDepth 100000
set_option maxHeartbeats 4000000
noncomputable section
def e16 : ((Key → Option Value) × (Int)) ⊕ (Unit) → List AV × Heap
  | .inl (f, S) => ([.ref 0 0 0], [.row [.mp 1, .int .i64 S] 2 0, .raw (.map none f)])
  | .inr _ => ([.lit (.pointer none)], [])
def p16 : ((Key → Option Value) × (Int)) ⊕ (Unit) → Prop
  | .inl (f, S) => okS S (fsOf f) ∧ mapF (fsOf f) = f
  | .inr _ => True
def r16 : ((Key → Option Value) × (Int)) ⊕ (Unit) → AV
  | .inl (f, S) => .int .i64 (freeF S (fsOf f))
  | .inr _ => .int .i64 0
def g16 : ((Key → Option Value) × (Int)) ⊕ (Unit) → Heap
  | .inl (f, S) => [.row [.mp 1, .int .i64 S] 2 0, .raw (.map none f)]
  | .inr _ => []
theorem inj16 : ∀ a b, e16 a = e16 b → a = b := by
  rintro (⟨f, S⟩ | _) (⟨f', S'⟩ | _) h <;> simp only [e16, mi_iff, ms_iff, mb_iff, my_iff, UInt8.toNat_inj, AObj.raw.injEq, Raw.map.injEq, Prod.mk.injEq, List.cons.injEq, AObj.row.injEq, AV.int.injEq, AV.str.injEq, AV.bool.injEq, AV.sl.injEq, AV.agg.injEq, AV.ip.injEq, AV.fn.injEq, AV.ifc.injEq, AV.mpr.injEq, AV.msl.injEq, AV.ref.injEq, Int.natCast_inj, and_true, true_and, reduceCtorEq, false_and, and_false, List.cons_ne_nil] at h <;> simp_all only
noncomputable def S16 : FSpec := heapE true e16 p16 r16 g16
theorem ps16 (f : (Key → Option Value)) (S : (Int)) : pselK e16 p16 ([.ref 0 0 0], [.row [.mp 1, .int .i64 S] 2 0, .raw (.map none f)]) = (okS S (fsOf f) ∧ mapF (fsOf f) = f) := pselK_at inj16 p16 (.inl (f, S))
theorem rs16 (f : (Key → Option Value)) (S : (Int)) : rselK e16 r16 .any ([.ref 0 0 0], [.row [.mp 1, .int .i64 S] 2 0, .raw (.map none f)]) = (.int .i64 (freeF S (fsOf f))) := rselK_at inj16 r16 .any (.inl (f, S))
theorem hs16 (f : (Key → Option Value)) (S : (Int)) : rselK e16 g16 [] ([.ref 0 0 0], [.row [.mp 1, .int .i64 S] 2 0, .raw (.map none f)]) = ([.row [.mp 1, .int .i64 S] 2 0, .raw (.map none f)]) := rselK_at inj16 g16 [] (.inl (f, S))
theorem ps16n  : pselK e16 p16 ([.lit (.pointer none)], []) = (True) := pselK_at inj16 p16 (.inr ())
theorem rs16n  : rselK e16 r16 .any ([.lit (.pointer none)], []) = (.int .i64 0) := rselK_at inj16 r16 .any (.inr ())
theorem hs16n  : rselK e16 g16 [] ([.lit (.pointer none)], []) = ([]) := rselK_at inj16 g16 [] (.inr ())
attribute [push_cast] S16 ps16 rs16 hs16 ps16n rs16n hs16n
def e24 : (Key → Option Value) × (Int) × (Bytes) × (Int) → List AV × Heap := fun (f, S, n, m) => ([.ref 0 0 0, .str n, .int .i64 m], [.row [.mp 1, .int .i64 S] 2 0, .raw (.map none f)])
def p24 : (Key → Option Value) × (Int) × (Bytes) × (Int) → Prop := fun (f, S, n, m) => okS S (fsOf f) ∧ mapF (fsOf f) = f ∧ 0 ≤ m ∧ m ≤ 1000000000
def r24 : (Key → Option Value) × (Int) × (Bytes) × (Int) → AV := fun (f, S, n, m) => .int .i64 (fitsF S (fsOf f) n m)
def g24 : (Key → Option Value) × (Int) × (Bytes) × (Int) → Heap := fun (f, S, n, m) => [.row [.mp 1, .int .i64 S] 2 0, .raw (.map none f)]
theorem inj24 : ∀ a b, e24 a = e24 b → a = b := by
  rintro ⟨f, S, n, m⟩ ⟨f', S', n', m'⟩ h
  simp only [e24, mi_iff, ms_iff, mb_iff, my_iff, UInt8.toNat_inj, AObj.raw.injEq, Raw.map.injEq, Prod.mk.injEq, List.cons.injEq, AObj.row.injEq, AV.int.injEq, AV.str.injEq, AV.bool.injEq, AV.sl.injEq, AV.agg.injEq, AV.ip.injEq, AV.fn.injEq, AV.ifc.injEq, AV.mpr.injEq, AV.msl.injEq, AV.ref.injEq, Int.natCast_inj, and_true, true_and] at h
  simp_all only
noncomputable def S24 : FSpec := heapE true e24 p24 r24 g24
theorem ps24 (f : (Key → Option Value)) (S : (Int)) (n : (Bytes)) (m : (Int)) : pselK e24 p24 ([.ref 0 0 0, .str n, .int .i64 m], [.row [.mp 1, .int .i64 S] 2 0, .raw (.map none f)]) = (okS S (fsOf f) ∧ mapF (fsOf f) = f ∧ 0 ≤ m ∧ m ≤ 1000000000) := pselK_at inj24 p24 (f, S, n, m)
theorem rs24 (f : (Key → Option Value)) (S : (Int)) (n : (Bytes)) (m : (Int)) : rselK e24 r24 .any ([.ref 0 0 0, .str n, .int .i64 m], [.row [.mp 1, .int .i64 S] 2 0, .raw (.map none f)]) = (.int .i64 (fitsF S (fsOf f) n m)) := rselK_at inj24 r24 .any (f, S, n, m)
theorem hs24 (f : (Key → Option Value)) (S : (Int)) (n : (Bytes)) (m : (Int)) : rselK e24 g24 [] ([.ref 0 0 0, .str n, .int .i64 m], [.row [.mp 1, .int .i64 S] 2 0, .raw (.map none f)]) = ([.row [.mp 1, .int .i64 S] 2 0, .raw (.map none f)]) := rselK_at inj24 g24 [] (f, S, n, m)
attribute [push_cast] S24 ps24 rs24 hs24
theorem body24 (Γ : Env) (h16 : Γ 16 = some S16) (h43 : Γ 43 = some S43) (h44 : Γ 44 = some S44) (A : Fs) (S : Int) (n : Bytes) (m : Int) (hA : okS S A) (hm : 0 ≤ m ∧ m ≤ 1000000000) : BodyOk Tryz.prog Γ Tryz.f24 [.ref 0 0 0, .str n, .int .i64 m] [.row [.mp 1, .int .i64 S] 2 0, .raw (.map none (mapF A))] (.int .i64 (fitsF S A n m)) [.row [.mp 1, .int .i64 S] 2 0, .raw (.map none (mapF A))] := by
  have hl := hA.ok.le
  have hp : 0 ≤ pieces m ∧ pieces m ≤ 1000000000 := by unfold pieces; omega
  obtain ⟨q, hq⟩ : ∃ q, q = (A.length : Int) + (if has A n then 0 else 1) := ⟨_, rfl⟩
  have hq1 : 0 ≤ q ∧ q ≤ 201 := by rw [hq]; split <;> omega
  have hv : 0 ≤ leaves q ∧ leaves q ≤ 10 := by unfold leaves; omega
  have hf := free_b hA.ok S ⟨hA.lo, hA.hi⟩
  have hc := card_mapF hA.ok.so
  have hhl := has_lookup hA.ok.so n
  have hfs := fsOf_mapF hA.ok.so
  rw [fitsF, ← hq]
  cases hlk : A.lookup n
  all_goals
    rw [hlk] at hhl
    simp only [Option.isSome_none, Option.isSome_some] at hhl
    simp only [hhl, if_true, if_false, Bool.false_eq_true, Int.add_zero] at hq
    (intro X hP hΓ hL hfin; refine ⟨_, rfl, ?_⟩; rw [show Tryz.f24.ntmps = 44 from rfl]; rw [show Tryz.f24.results.toList = [.tmp 6] from rfl] at hfin; apply holds_of_ex X 400; simp (maxSteps := 1000000) only [push_cast, reduceCtorEq, Nat.reduceAdd, Nat.reduceMul, Nat.reduceSub, Nat.reduceBEq, Nat.reduceGT, Nat.reduceLT, Int.toNat_zero, Nat.reduceLeDiff, Int.reduceEq, Int.reduceLT, Int.reduceLE, hP, hΓ, hL, hfin, String.reduceEq, not_false_eq_true, if_true, hc, mapF_s, hlk, wr_i64 ((A.length : Int) + 1) (by constructor <;> omega), vS, Option.getD_some])
    refine ⟨⟨_, _, rfl⟩, ?_⟩
    simp only [← hq]
    by_cases c1 : 256000 < m
    · ((first | with_reducible refine holds_of_ex X 400 _ _ _ ?_ | skip); simp (maxSteps := 1000000) only [push_cast, reduceCtorEq, Nat.reduceAdd, Nat.reduceMul, Nat.reduceSub, Nat.reduceBEq, Nat.reduceGT, Nat.reduceLT, Int.toNat_zero, Nat.reduceLeDiff, Int.reduceEq, Int.reduceLT, Int.reduceLE, hP, hΓ, hL, hfin, String.reduceEq, not_false_eq_true, if_true, c1])
      exact Into.sameA
    ((first | with_reducible refine holds_of_ex X 400 _ _ _ ?_ | skip); simp (maxSteps := 1000000) only [push_cast, reduceCtorEq, Nat.reduceAdd, Nat.reduceMul, Nat.reduceSub, Nat.reduceBEq, Nat.reduceGT, Nat.reduceLT, Int.toNat_zero, Nat.reduceLeDiff, Int.reduceEq, Int.reduceLT, Int.reduceLE, hP, hΓ, hL, hfin, String.reduceEq, not_false_eq_true, if_true, c1])
    by_cases c2 : 200 < q
    · ((first | with_reducible refine holds_of_ex X 400 _ _ _ ?_ | skip); simp (maxSteps := 1000000) only [push_cast, reduceCtorEq, Nat.reduceAdd, Nat.reduceMul, Nat.reduceSub, Nat.reduceBEq, Nat.reduceGT, Nat.reduceLT, Int.toNat_zero, Nat.reduceLeDiff, Int.reduceEq, Int.reduceLT, Int.reduceLE, hP, hΓ, hL, hfin, String.reduceEq, not_false_eq_true, if_true, c2, c1])
      exact Into.sameA
    ((first | with_reducible refine holds_of_ex X 400 _ _ _ ?_ | skip); simp (maxSteps := 1000000) only [push_cast, reduceCtorEq, Nat.reduceAdd, Nat.reduceMul, Nat.reduceSub, Nat.reduceBEq, Nat.reduceGT, Nat.reduceLT, Int.toNat_zero, Nat.reduceLeDiff, Int.reduceEq, Int.reduceLT, Int.reduceLE, hP, hΓ, hL, hfin, String.reduceEq, not_false_eq_true, if_true, c2, h43, h44, h16, hfs, wr_i64 (1 + pieces m) (by constructor <;> omega), wr_i64 (1 + pieces m + leaves q) (by constructor <;> omega)])
    refine ⟨by omega, by omega, hA, ?_⟩
    by_cases c3 : freeF S A < 1 + pieces m + leaves q
    · ((first | with_reducible refine holds_of_ex X 400 _ _ _ ?_ | skip); simp (maxSteps := 1000000) only [push_cast, reduceCtorEq, Nat.reduceAdd, Nat.reduceMul, Nat.reduceSub, Nat.reduceBEq, Nat.reduceGT, Nat.reduceLT, Int.toNat_zero, Nat.reduceLeDiff, Int.reduceEq, Int.reduceLT, Int.reduceLE, hP, hΓ, hL, hfin, String.reduceEq, not_false_eq_true, if_true, c3, c1, c2])
      exact Into.sameA
    · ((first | with_reducible refine holds_of_ex X 400 _ _ _ ?_ | skip); simp (maxSteps := 1000000) only [push_cast, reduceCtorEq, Nat.reduceAdd, Nat.reduceMul, Nat.reduceSub, Nat.reduceBEq, Nat.reduceGT, Nat.reduceLT, Int.toNat_zero, Nat.reduceLeDiff, Int.reduceEq, Int.reduceLT, Int.reduceLE, hP, hΓ, hL, hfin, String.reduceEq, not_false_eq_true, if_true, c3, c1, c2])
      exact Into.sameA
theorem con24 {Γ : Env} (h : EnvOk Tryz.prog Γ) (h16 : Γ 16 = some S16) (h43 : Γ 43 = some S43) (h44 : Γ 44 = some S44) : Con Tryz.prog 24 S24 :=
  heapE_con h (fn := Tryz.f24) (by kernel_rfl) rfl (by kernel_rfl) inj24 fun ⟨f, S, n, m⟩ h => by obtain ⟨h1, h2, h3, h4⟩ := h; have := body24 Γ h16 h43 h44 (fsOf f) S n m h1 ⟨h3, h4⟩; rw [h2] at this; exact this
end
end Go.Proofs.YtenopfmafecffaaGreatDoor.modelDone
end
section
namespace Go.Proofs.YtenopfmafecffaaGreatDoor.modelDone
open Go Go.Eng Go.Proofs Go.Mdl Go.RowKit
set_option linter.unusedVariables false
set_option linter.unusedSimpArgs false
set_option maxRecDepth 100000
set_option maxHeartbeats 4000000
noncomputable section
def e79 : (Key → Option Value) × (Int) × (Bytes) × (Bytes) → List AV × Heap := fun (f, S, n, d) => ([.ref 0 0 0, .str n, .str d], [.row [.mp 1, .int .i64 S] 2 0, .raw (.map none f)])
def p79 : (Key → Option Value) × (Int) × (Bytes) × (Bytes) → Prop := fun (f, S, n, d) => okS S (fsOf f) ∧ mapF (fsOf f) = f ∧ n.length ≤ 4194304 ∧ d.length ≤ 1000000000
def r79 : (Key → Option Value) × (Int) × (Bytes) × (Bytes) → AV := fun (f, S, n, d) => .str (writeF S (fsOf f) n d).1
def g79 : (Key → Option Value) × (Int) × (Bytes) × (Bytes) → Heap := fun (f, S, n, d) => [.row [.mp 1, .int .i64 S] 2 0, .raw (.map none (mapF (writeF S (fsOf f) n d).2))]
theorem inj79 : ∀ a b, e79 a = e79 b → a = b := by
  rintro ⟨f, S, n, d⟩ ⟨f', S', n', d'⟩ h
  simp only [e79, mi_iff, ms_iff, mb_iff, my_iff, UInt8.toNat_inj, AObj.raw.injEq, Raw.map.injEq, Prod.mk.injEq, List.cons.injEq, AObj.row.injEq, AV.int.injEq, AV.str.injEq, AV.bool.injEq, AV.sl.injEq, AV.agg.injEq, AV.ip.injEq, AV.fn.injEq, AV.ifc.injEq, AV.mpr.injEq, AV.msl.injEq, AV.ref.injEq, Int.natCast_inj, and_true, true_and] at h
  simp_all only
noncomputable def S79 : FSpec := heapE true e79 p79 r79 g79
theorem ps79 (f : (Key → Option Value)) (S : (Int)) (n : (Bytes)) (d : (Bytes)) : pselK e79 p79 ([.ref 0 0 0, .str n, .str d], [.row [.mp 1, .int .i64 S] 2 0, .raw (.map none f)]) = (okS S (fsOf f) ∧ mapF (fsOf f) = f ∧ n.length ≤ 4194304 ∧ d.length ≤ 1000000000) := pselK_at inj79 p79 (f, S, n, d)
theorem rs79 (f : (Key → Option Value)) (S : (Int)) (n : (Bytes)) (d : (Bytes)) : rselK e79 r79 .any ([.ref 0 0 0, .str n, .str d], [.row [.mp 1, .int .i64 S] 2 0, .raw (.map none f)]) = (.str (writeF S (fsOf f) n d).1) := rselK_at inj79 r79 .any (f, S, n, d)
theorem hs79 (f : (Key → Option Value)) (S : (Int)) (n : (Bytes)) (d : (Bytes)) : rselK e79 g79 [] ([.ref 0 0 0, .str n, .str d], [.row [.mp 1, .int .i64 S] 2 0, .raw (.map none f)]) = ([.row [.mp 1, .int .i64 S] 2 0, .raw (.map none (mapF (writeF S (fsOf f) n d).2))]) := rselK_at inj79 g79 [] (f, S, n, d)
attribute [push_cast] S79 ps79 rs79 hs79
theorem body79 (Γ : Env) (h23 : Γ 23 = some S23) (h24 : Γ 24 = some S24) (h29 : Γ 29 = some S29) (A : Fs) (S : Int) (n d : Bytes) (hA : okS S A) (hn : n.length ≤ 4194304) (hd : d.length ≤ 1000000000) : BodyOk Tryz.prog Γ Tryz.f79 [.ref 0 0 0, .str n, .str d] [.row [.mp 1, .int .i64 S] 2 0, .raw (.map none (mapF A))] (.str (writeF S A n d).1) [.row [.mp 1, .int .i64 S] 2 0, .raw (.map none (mapF (writeF S A n d).2))] := by
  have hf := fits_b S A n d.length
  have hfs := fsOf_mapF hA.ok.so
  have hmi := mapF_ins hA.ok.so n d
  (intro X hP hΓ hL hfin; refine ⟨_, rfl, ?_⟩; rw [show Tryz.f79.ntmps = 27 from rfl]; rw [show Tryz.f79.results.toList = [.tmp 6] from rfl] at hfin; apply holds_of_ex X 400; simp (maxSteps := 1000000) only [push_cast, reduceCtorEq, Nat.reduceAdd, Nat.reduceMul, Nat.reduceSub, Nat.reduceBEq, Nat.reduceGT, Nat.reduceLT, Int.toNat_zero, Nat.reduceLeDiff, Int.reduceEq, Int.reduceLT, Int.reduceLE, hP, hΓ, hL, hfin, String.reduceEq, not_false_eq_true, if_true, h23])
  refine ⟨hn, ?_⟩
  cases hb : nameB n with
  | false =>
    ((first | with_reducible refine holds_of_ex X 400 _ _ _ ?_ | skip); simp (maxSteps := 1000000) only [push_cast, reduceCtorEq, Nat.reduceAdd, Nat.reduceMul, Nat.reduceSub, Nat.reduceBEq, Nat.reduceGT, Nat.reduceLT, Int.toNat_zero, Nat.reduceLeDiff, Int.reduceEq, Int.reduceLT, Int.reduceLE, hP, hΓ, hL, hfin, String.reduceEq, not_false_eq_true, if_true, h29])
    rw [writeF, if_pos hb]
    exact Into.sameA
  | true =>
    have hb' : ¬ nameB n = false := by simp [hb]
    ((first | with_reducible refine holds_of_ex X 400 _ _ _ ?_ | skip); simp (maxSteps := 1000000) only [push_cast, reduceCtorEq, Nat.reduceAdd, Nat.reduceMul, Nat.reduceSub, Nat.reduceBEq, Nat.reduceGT, Nat.reduceLT, Int.toNat_zero, Nat.reduceLeDiff, Int.reduceEq, Int.reduceLT, Int.reduceLE, hP, hΓ, hL, hfin, String.reduceEq, not_false_eq_true, if_true, h24, hfs])
    refine ⟨⟨hA, by omega⟩, ?_⟩
    by_cases h0 : fitsF S A n d.length = 0
    · ((first | with_reducible refine holds_of_ex X 400 _ _ _ ?_ | skip); simp (maxSteps := 1000000) only [push_cast, reduceCtorEq, Nat.reduceAdd, Nat.reduceMul, Nat.reduceSub, Nat.reduceBEq, Nat.reduceGT, Nat.reduceLT, Int.toNat_zero, Nat.reduceLeDiff, Int.reduceEq, Int.reduceLT, Int.reduceLE, hP, hΓ, hL, hfin, String.reduceEq, not_false_eq_true, if_true, h0])
      rw [writeF, if_neg hb', if_pos h0]
      simp only [vS] at hmi
      rw [hmi]
      exact Into.sameA
    · generalize hx : fitsF S A n d.length = x at *
      ((first | with_reducible refine holds_of_ex X 400 _ _ _ ?_ | skip); simp (maxSteps := 1000000) only [push_cast, reduceCtorEq, Nat.reduceAdd, Nat.reduceMul, Nat.reduceSub, Nat.reduceBEq, Nat.reduceGT, Nat.reduceLT, Int.toNat_zero, Nat.reduceLeDiff, Int.reduceEq, Int.reduceLT, Int.reduceLE, hP, hΓ, hL, hfin, String.reduceEq, not_false_eq_true, if_true, h0, h29])
      refine ⟨⟨by omega, by omega⟩, ?_⟩
      rw [writeF, if_neg hb', hx, if_neg h0]
      exact Into.sameA
theorem con79 {Γ : Env} (h : EnvOk Tryz.prog Γ) (h23 : Γ 23 = some S23) (h24 : Γ 24 = some S24) (h29 : Γ 29 = some S29) : Con Tryz.prog 79 S79 :=
  heapE_con h (fn := Tryz.f79) (by kernel_rfl) rfl (by kernel_rfl) inj79 fun ⟨f, S, n, d⟩ h => by obtain ⟨h1, h2, h3, h4⟩ := h; have := body79 Γ h23 h24 h29 (fsOf f) S n d h1 h3 h4; rw [h2] at this; exact this
end
end Go.Proofs.YtenopfmafecffaaGreatDoor.modelDone
end
section
namespace Go.Proofs.YtenopfmafecffaaGreatDoor.modelDone
open Go Go.Eng Go.Proofs Go.Mdl Go.RowKit
set_option linter.unusedVariables false
set_option linter.unusedSimpArgs false
set_option maxRecDepth 100000
set_option maxHeartbeats 4000000
noncomputable section
def e57 : (Key → Option Value) × (Int) × (Bytes) × (Bytes) → List AV × Heap := fun (f, S, n, t) => ([.ref 0 0 0, .sl [.str n] 1, .str t], [.row [.mp 1, .int .i64 S] 2 0, .raw (.map none f)])
def p57 : (Key → Option Value) × (Int) × (Bytes) × (Bytes) → Prop := fun (f, S, n, t) => okS S (fsOf f) ∧ mapF (fsOf f) = f ∧ n.length ≤ 4194304 ∧ t.length ≤ 1000000
def r57 : (Key → Option Value) × (Int) × (Bytes) × (Bytes) → AV := fun (f, S, n, t) => .str (writeF S (fsOf f) n (t ++ [10])).1
def g57 : (Key → Option Value) × (Int) × (Bytes) × (Bytes) → Heap := fun (f, S, n, t) => [.row [.mp 1, .int .i64 S] 2 0, .raw (.map none (mapF (writeF S (fsOf f) n (t ++ [10])).2))]
theorem inj57 : ∀ a b, e57 a = e57 b → a = b := by
  rintro ⟨f, S, n, t⟩ ⟨f', S', n', t'⟩ h
  simp only [e57, mi_iff, ms_iff, mb_iff, my_iff, UInt8.toNat_inj, AObj.raw.injEq, Raw.map.injEq, Prod.mk.injEq, List.cons.injEq, AObj.row.injEq, AV.int.injEq, AV.str.injEq, AV.bool.injEq, AV.sl.injEq, AV.agg.injEq, AV.ip.injEq, AV.fn.injEq, AV.ifc.injEq, AV.mpr.injEq, AV.msl.injEq, AV.ref.injEq, Int.natCast_inj, and_true, true_and] at h
  simp_all only
noncomputable def S57 : FSpec := heapE true e57 p57 r57 g57
theorem ps57 (f : (Key → Option Value)) (S : (Int)) (n : (Bytes)) (t : (Bytes)) : pselK e57 p57 ([.ref 0 0 0, .sl [.str n] 1, .str t], [.row [.mp 1, .int .i64 S] 2 0, .raw (.map none f)]) = (okS S (fsOf f) ∧ mapF (fsOf f) = f ∧ n.length ≤ 4194304 ∧ t.length ≤ 1000000) := pselK_at inj57 p57 (f, S, n, t)
theorem rs57 (f : (Key → Option Value)) (S : (Int)) (n : (Bytes)) (t : (Bytes)) : rselK e57 r57 .any ([.ref 0 0 0, .sl [.str n] 1, .str t], [.row [.mp 1, .int .i64 S] 2 0, .raw (.map none f)]) = (.str (writeF S (fsOf f) n (t ++ [10])).1) := rselK_at inj57 r57 .any (f, S, n, t)
theorem hs57 (f : (Key → Option Value)) (S : (Int)) (n : (Bytes)) (t : (Bytes)) : rselK e57 g57 [] ([.ref 0 0 0, .sl [.str n] 1, .str t], [.row [.mp 1, .int .i64 S] 2 0, .raw (.map none f)]) = ([.row [.mp 1, .int .i64 S] 2 0, .raw (.map none (mapF (writeF S (fsOf f) n (t ++ [10])).2))]) := rselK_at inj57 g57 [] (f, S, n, t)
attribute [push_cast] S57 ps57 rs57 hs57
theorem body57 (Γ : Env) (h79 : Γ 79 = some S79) (A : Fs) (S : Int) (n t : Bytes) (hA : okS S A) (hn : n.length ≤ 4194304) (hd : t.length ≤ 1000000) : BodyOk Tryz.prog Γ Tryz.f57 [.ref 0 0 0, .sl [.str n] 1, .str t] [.row [.mp 1, .int .i64 S] 2 0, .raw (.map none (mapF A))] (.str (writeF S A n (t ++ [10])).1) [.row [.mp 1, .int .i64 S] 2 0, .raw (.map none (mapF (writeF S A n (t ++ [10])).2))] := by
  have hfs := fsOf_mapF hA.ok.so
  (intro X hP hΓ hL hfin; refine ⟨_, rfl, ?_⟩; rw [show Tryz.f57.ntmps = 14 from rfl]; rw [show Tryz.f57.results.toList = [.tmp 6] from rfl] at hfin; apply holds_of_ex X 400; simp (maxSteps := 1000000) only [push_cast, reduceCtorEq, Nat.reduceAdd, Nat.reduceMul, Nat.reduceSub, Nat.reduceBEq, Nat.reduceGT, Nat.reduceLT, Int.toNat_zero, Nat.reduceLeDiff, Int.reduceEq, Int.reduceLT, Int.reduceLE, hP, hΓ, hL, hfin, String.reduceEq, not_false_eq_true, if_true, h79, hfs])
  refine ⟨by omega, by omega, ⟨hA, by omega, by omega⟩, ?_⟩
  exact Into.sameA
theorem con57 {Γ : Env} (h : EnvOk Tryz.prog Γ) (h79 : Γ 79 = some S79) : Con Tryz.prog 57 S57 :=
  heapE_con h (fn := Tryz.f57) (by kernel_rfl) rfl (by kernel_rfl) inj57 fun ⟨f, S, n, t⟩ h => by obtain ⟨h1, h2, h3, h4⟩ := h; have := body57 Γ h79 (fsOf f) S n t h1 h3 h4; rw [h2] at this; exact this
end
end Go.Proofs.YtenopfmafecffaaGreatDoor.modelDone
end
section
namespace Go.Proofs.YtenopfmafecffaaGreatDoor.modelDone
open Go Go.Eng Go.Proofs Go.Mdl Go.RowKit
set_option linter.unusedVariables false
set_option linter.unusedSimpArgs false
set_option maxRecDepth 100000
set_option maxHeartbeats 4000000
noncomputable section
def e63 : (Key → Option Value) × (Int) × (Bytes) → List AV × Heap := fun (f, S, t) => ([.ref 0 0 0, .sl [] 0, .str t], [.row [.mp 1, .int .i64 S] 2 0, .raw (.map none f)])
def p63 : (Key → Option Value) × (Int) × (Bytes) → Prop := fun (f, S, t) => okS S (fsOf f) ∧ mapF (fsOf f) = f
def r63 : (Key → Option Value) × (Int) × (Bytes) → AV := fun (f, S, t) => .str (numT (freeF S (fsOf f)))
def g63 : (Key → Option Value) × (Int) × (Bytes) → Heap := fun (f, S, t) => [.row [.mp 1, .int .i64 S] 2 0, .raw (.map none f)]
theorem inj63 : ∀ a b, e63 a = e63 b → a = b := by
  rintro ⟨f, S, t⟩ ⟨f', S', t'⟩ h
  simp only [e63, mi_iff, ms_iff, mb_iff, my_iff, UInt8.toNat_inj, AObj.raw.injEq, Raw.map.injEq, Prod.mk.injEq, List.cons.injEq, AObj.row.injEq, AV.int.injEq, AV.str.injEq, AV.bool.injEq, AV.sl.injEq, AV.agg.injEq, AV.ip.injEq, AV.fn.injEq, AV.ifc.injEq, AV.mpr.injEq, AV.msl.injEq, AV.ref.injEq, Int.natCast_inj, and_true, true_and] at h
  simp_all only
noncomputable def S63 : FSpec := heapE true e63 p63 r63 g63
theorem ps63 (f : (Key → Option Value)) (S : (Int)) (t : (Bytes)) : pselK e63 p63 ([.ref 0 0 0, .sl [] 0, .str t], [.row [.mp 1, .int .i64 S] 2 0, .raw (.map none f)]) = (okS S (fsOf f) ∧ mapF (fsOf f) = f) := pselK_at inj63 p63 (f, S, t)
theorem rs63 (f : (Key → Option Value)) (S : (Int)) (t : (Bytes)) : rselK e63 r63 .any ([.ref 0 0 0, .sl [] 0, .str t], [.row [.mp 1, .int .i64 S] 2 0, .raw (.map none f)]) = (.str (numT (freeF S (fsOf f)))) := rselK_at inj63 r63 .any (f, S, t)
theorem hs63 (f : (Key → Option Value)) (S : (Int)) (t : (Bytes)) : rselK e63 g63 [] ([.ref 0 0 0, .sl [] 0, .str t], [.row [.mp 1, .int .i64 S] 2 0, .raw (.map none f)]) = ([.row [.mp 1, .int .i64 S] 2 0, .raw (.map none f)]) := rselK_at inj63 g63 [] (f, S, t)
attribute [push_cast] S63 ps63 rs63 hs63
theorem body63 (Γ : Env) (h16 : Γ 16 = some S16) (h84 : Γ 84 = some S84) (A : Fs) (S : Int) (t : Bytes) (hA : okS S A) : BodyOk Tryz.prog Γ Tryz.f63 [.ref 0 0 0, .sl [] 0, .str t] [.row [.mp 1, .int .i64 S] 2 0, .raw (.map none (mapF A))] (.str (numT (freeF S A))) [.row [.mp 1, .int .i64 S] 2 0, .raw (.map none (mapF A))] := by
  have hfs := fsOf_mapF hA.ok.so
  have hf := free_b hA.ok S ⟨hA.lo, hA.hi⟩
  have hfr := hA.fr
  (intro X hP hΓ hL hfin; refine ⟨_, rfl, ?_⟩; rw [show Tryz.f63.ntmps = 10 from rfl]; rw [show Tryz.f63.results.toList = [.tmp 6] from rfl] at hfin; apply holds_of_ex X 400; simp (maxSteps := 1000000) only [push_cast, reduceCtorEq, Nat.reduceAdd, Nat.reduceMul, Nat.reduceSub, Nat.reduceBEq, Nat.reduceGT, Nat.reduceLT, Int.toNat_zero, Nat.reduceLeDiff, Int.reduceEq, Int.reduceLT, Int.reduceLE, hP, hΓ, hL, hfin, String.reduceEq, not_false_eq_true, if_true, h16, h84, hfs])
  refine ⟨hA, ⟨by omega, by omega⟩, ?_⟩
  exact Into.sameA
theorem con63 {Γ : Env} (h : EnvOk Tryz.prog Γ) (h16 : Γ 16 = some S16) (h84 : Γ 84 = some S84) : Con Tryz.prog 63 S63 :=
  heapE_con h (fn := Tryz.f63) (by kernel_rfl) rfl (by kernel_rfl) inj63 fun ⟨f, S, t⟩ h => by obtain ⟨h1, h2⟩ := h; have := body63 Γ h16 h84 (fsOf f) S t h1; rw [h2] at this; exact this
end
end Go.Proofs.YtenopfmafecffaaGreatDoor.modelDone
end
section
namespace Go.Proofs.YtenopfmafecffaaGreatDoor.modelDone
open Go Go.Eng Go.Proofs Go.Mdl Go.RowKit
set_option linter.unusedVariables false
set_option linter.unusedSimpArgs false
set_option maxRecDepth 100000
set_option maxHeartbeats 4000000
def vlen : Value → Nat
  | .string s => s.size
  | _ => 0
theorem vlen_vS (d : Bytes) : vlen (vS d) = d.length := by simp [vlen, vS, ByteArray.size]
def ecost (v : Value) : Int := 1 + pieces (vlen v)
theorem ecost_nn (v : Value) : 0 ≤ ecost v := by unfold ecost pieces; omega
/-- what the entries cost that have been seen -/
def csum : List MapEntry → Array Nat → Int
  | [], _ => 0
  | x :: l, seen => (if seen.contains x.born then ecost x.val else 0) + csum l seen
theorem csum_other (seen : Array Nat) (b : Nat) : ∀ (es : List MapEntry), b ∉ es.map (·.born) → csum es (seen.push b) = csum es seen
  | [], _ => rfl
  | x :: l, h => by
    have hx : (x.born == b) = false := by
      cases hc : x.born == b with
      | false => rfl
      | true => exact absurd (List.mem_cons.2 (Or.inl (beq_iff_eq.1 hc).symm)) h
    have ih := csum_other seen b l (fun e => h (List.mem_cons.2 (Or.inr e)))
    simp only [csum, contains_push, hx, Bool.or_false, ih]
theorem csum_push (seen : Array Nat) (e : MapEntry) (hs : seen.contains e.born = false) : ∀ (es : List MapEntry), (es.map (·.born)).Nodup → e ∈ es → csum es (seen.push e.born) = csum es seen + ecost e.val
  | x :: l, hn, he => by
    have hn' : x.born ∉ l.map (·.born) ∧ (l.map (·.born)).Nodup := List.nodup_cons.1 hn
    rcases List.mem_cons.1 he with rfl | h
    · simp only [csum, contains_push, hs, beq_self_eq_true, Bool.or_true, if_true, Bool.false_eq_true, if_false, csum_other seen e.born l hn'.1]
      omega
    · have hx : (x.born == e.born) = false := by
        cases hc : x.born == e.born with
        | false => rfl
        | true => exact absurd (by rw [beq_iff_eq.1 hc]; exact List.mem_map.2 ⟨e, h, rfl⟩) hn'.1
      simp only [csum, contains_push, hx, Bool.or_false, csum_push seen e hs l hn'.2 h]
      omega
theorem csum_full (seen : Array Nat) : ∀ (es : List MapEntry), (∀ x ∈ es, seen.contains x.born = true) → csum es seen = (es.map fun e => ecost e.val).sum
  | [], _ => rfl
  | x :: l, h => by
    simp only [csum, h x (List.mem_cons.2 (Or.inl rfl)), if_true, List.map_cons, List.sum_cons, csum_full seen l (fun y hy => h y (List.mem_cons.2 (Or.inr hy)))]
theorem csum_none : ∀ (es : List MapEntry), csum es #[] = 0
  | [] => rfl
  | x :: l => by
    have : (#[] : Array Nat).contains x.born = false := by simp
    simp only [csum, this, Bool.false_eq_true, if_false, csum_none l]
    rfl
theorem csum_le (seen : Array Nat) : ∀ (es : List MapEntry), 0 ≤ csum es seen ∧ csum es seen ≤ (es.map fun e => ecost e.val).sum
  | [] => ⟨Int.le_refl _, Int.le_refl _⟩
  | x :: l => by
    have := csum_le seen l
    have := ecost_nn x.val
    simp only [csum, List.map_cons, List.sum_cons]
    split <;> omega
theorem perm_sum {l l' : List Int} (h : l.Perm l') : l.sum = l'.sum := by
  induction h with
  | nil => rfl
  | cons x _ ih => simp [ih]
  | swap x y l => simp only [List.sum_cons]; omega
  | trans _ _ a b => exact a.trans b
theorem lookup_in {A : Fs} {n d : Bytes} (h : A.lookup n = some d) : (n, d) ∈ A := by
  induction A with
  | nil => cases h
  | cons x A ih =>
    obtain ⟨a, b⟩ := x
    rw [lookup_one] at h
    by_cases e : n = a
    · rw [if_pos e] at h; cases h; rw [e]; simp
    · rw [if_neg e] at h; exact List.mem_cons_of_mem _ (ih h)
theorem in_lookup {A : Fs} (hs : sorted A) {n d : Bytes} (h : (n, d) ∈ A) : A.lookup n = some d := by
  induction A with
  | nil => cases h
  | cons x A ih =>
    obtain ⟨a, b⟩ := x
    rw [sorted, List.pairwise_cons] at hs
    rw [lookup_one]
    rcases List.mem_cons.1 h with h | h
    · cases h; rw [if_pos rfl]
    · rw [if_neg, ih hs.2 h]
      exact fun e => ltI a (by have := hs.1 _ h; rwa [e] at this)
theorem cost_sum : ∀ A : Fs, cost A = (A.map fun x => ecost (vS x.2)).sum
  | [] => rfl
  | x :: A => by simp only [cost, List.map_cons, List.sum_cons, ecost, vlen_vS, cost_sum A]
/-- the entries' cost is the files' -/
theorem entries_cost {A : Fs} (hs : sorted A) {es : List MapEntry} (h : MRel none (mapF A) es) : (es.map fun e => ecost e.val).sum = cost A := by
  have h1 : (es.map fun e => (e.key, e.val)).Nodup := by
    have := h.nodup
    rw [List.nodup_iff_pairwise_ne, List.pairwise_map] at this ⊢
    exact this.imp fun h e => h (Prod.mk.inj e).1
  have h2 : (A.map fun x => (Key.val (.s x.1), vS x.2)).Nodup := by
    have := sorted_nodup hs
    rw [List.nodup_iff_pairwise_ne, List.pairwise_map] at this ⊢
    exact this.imp fun h e => h (Key.s.inj (key_inj (Prod.mk.inj e).1))
  have hp : (es.map fun e => (e.key, e.val)).Perm (A.map fun x => (Key.val (.s x.1), vS x.2)) := by
    refine (List.perm_ext_iff_of_nodup h1 h2).2 fun a => ?_
    simp only [List.mem_map]
    constructor
    · rintro ⟨e, he, rfl⟩
      obtain ⟨k, hk, hf⟩ := h.ent e he
      cases k with
      | i a b => cases hf
      | s n =>
        rw [mapF_s] at hf
        cases hl : A.lookup n with
        | none => rw [hl] at hf; cases hf
        | some d =>
          rw [hl] at hf
          exact ⟨(n, d), lookup_in hl, by rw [hk, ← Option.some.inj hf]⟩
    · rintro ⟨⟨n, d⟩, hx, rfl⟩
      have hl := in_lookup hs hx
      have hf : mapF A (.s n) = some (vS d) := by rw [mapF_s, hl]; rfl
      obtain ⟨_, e, he, hk⟩ := h.has _ _ hf
      obtain ⟨k', hk', hf'⟩ := h.ent e he
      have : k' = .s n := key_inj (by rw [← hk', hk])
      subst this
      rw [hf] at hf'
      exact ⟨e, he, by rw [hk, ← Option.some.inj hf']⟩
  have := perm_sum (hp.map fun q : Value × Value => ecost q.2)
  simp only [List.map_map] at this
  rw [cost_sum]
  exact this
noncomputable section
theorem body16n (Γ : Env) : BodyOk Tryz.prog Γ Tryz.f16 [.lit (.pointer none)] [] (.int .i64 0) [] := by
  (intro X hP hΓ hL hfin; refine ⟨_, rfl, ?_⟩; rw [show Tryz.f16.ntmps = 36 from rfl]; rw [show Tryz.f16.results.toList = [.tmp 2] from rfl] at hfin; apply holds_of_ex X 400; simp (maxSteps := 1000000) only [push_cast, reduceCtorEq, Nat.reduceAdd, Nat.reduceMul, Nat.reduceSub, Nat.reduceBEq, Nat.reduceGT, Nat.reduceLT, Int.toNat_zero, Nat.reduceLeDiff, Int.reduceEq, Int.reduceLT, Int.reduceLE, hP, hΓ, hL, hfin, String.reduceEq, not_false_eq_true, if_true])
  exact Into.sameA
theorem body16 (Γ : Env) (h43 : Γ 43 = some S43) (h44 : Γ 44 = some S44) (A : Fs) (S : Int) (hA : okS S A) : BodyOk Tryz.prog Γ Tryz.f16 [.ref 0 0 0] [.row [.mp 1, .int .i64 S] 2 0, .raw (.map none (mapF A))] (.int .i64 (freeF S A)) [.row [.mp 1, .int .i64 S] 2 0, .raw (.map none (mapF A))] := by
  have hl := hA.ok.le
  have hc := card_mapF hA.ok.so
  have hv : 0 ≤ leaves A.length ∧ leaves A.length ≤ 10 := by unfold leaves; omega
  have hS := hA.lo
  have hS' := hA.hi
  (intro X hP hΓ hL hfin; refine ⟨_, rfl, ?_⟩; rw [show Tryz.f16.ntmps = 36 from rfl]; rw [show Tryz.f16.results.toList = [.tmp 2] from rfl] at hfin; apply holds_of_ex X 400; simp (maxSteps := 1000000) only [push_cast, reduceCtorEq, Nat.reduceAdd, Nat.reduceMul, Nat.reduceSub, Nat.reduceBEq, Nat.reduceGT, Nat.reduceLT, Int.toNat_zero, Nat.reduceLeDiff, Int.reduceEq, Int.reduceLT, Int.reduceLE, hP, hΓ, hL, hfin, String.reduceEq, not_false_eq_true, if_true, hc])
  (refine Holds.drawn (fixH _) [] (by rw [hP]; kernel_rfl) (by kernel_rfl) (by kernel_rfl) rfl ?_; simp (maxSteps := 1000000) only [↓reduceIte, Option.getD_some, push_cast, reduceCtorEq, Nat.reduceAdd, Nat.reduceMul, Nat.reduceSub, Nat.reduceBEq, Nat.reduceGT, Nat.reduceLT, Int.toNat_zero, Nat.reduceLeDiff, Int.reduceEq, Int.reduceLT, Int.reduceLE, hP, hΓ, hL, hfin, String.reduceEq, not_false_eq_true, if_true, h43, hc, wr_i64 (S - 1) (by constructor <;> omega), wr_i64 (S - 1 - leaves A.length) (by constructor <;> omega)])
  refine ⟨⟨_, _, rfl⟩, by omega, ?_⟩
  (repeat (first | refine Holds.peel ?_ | refine Holds.peelB ?_ | refine Holds.peelS ?_ | refine Holds.peelL ?_ | refine Holds.peelN ?_))
  refine Holds.pinMap (id := 1) (kd := none) (f := mapF A) rfl fun b es clock hM => ?_
  refine Holds.opIn 4 rfl rfl ?_
  simp (maxSteps := 1000000) only [↓reduceIte, Option.getD_some, push_cast, reduceCtorEq, Nat.reduceAdd, Nat.reduceMul, Nat.reduceSub, Nat.reduceBEq, Nat.reduceGT, Nat.reduceLT, Int.toNat_zero, Nat.reduceLeDiff, Int.reduceEq, Int.reduceLT, Int.reduceLE, hP, hΓ, hL, hfin, String.reduceEq, not_false_eq_true, if_true]
  refine ⟨_, out_range (id := 1) rfl (by rw [hP]; exact Tryz.underlying48) rfl rfl, ?_⟩
  rintro v L' ⟨rfl, rfl⟩
  simp (maxSteps := 1000000) only [↓reduceIte, Option.getD_some, push_cast, reduceCtorEq, Nat.reduceAdd, Nat.reduceMul, Nat.reduceSub, Nat.reduceBEq, Nat.reduceGT, Nat.reduceLT, Int.toNat_zero, Nat.reduceLeDiff, Int.reduceEq, Int.reduceLT, Int.reduceLE, hP, hΓ, hL, hfin, String.reduceEq, not_false_eq_true, if_true]
  (repeat (first | refine Holds.peel ?_ | refine Holds.peelB ?_ | refine Holds.peelS ?_ | refine Holds.peelL ?_ | refine Holds.peelN ?_))
  refine Holds.loopM (ι := {q : Array Nat × Nat // clock ≤ q.2}) [false, false, true, false, false, false, false, false, false, false, false, false, false, false, false, false, false, false, false, false, false, false, false, false, true, false, false, false, false, false, false, false, false, false, false, false] (fun i => [(3, .int .i64 (S - 1 - leaves A.length - csum es.toList i.1.1))]) (fun i => [.row [.mp 1, .int .i64 S] 2 0, .raw (.obj (some b) (.map es clock)), .raw (.obj none (.mapIter (some b) clock i.1.1 i.1.2))]) (fun i => (leftOf es i.1.1).size) ⟨(#[], clock), Nat.le_refl _⟩ ?_ ?_
  · (rw [hL]; simp only [push_cast, Int.natCast_zero, csum_none, Int.sub_zero]; exact Into.same (by first | exact leF_refl _ | (simp only [leF, true_and, and_true, and_self]; done) | (simp [leF]; done)) (by first | (simp only [push_cast, reduceCtorEq, Nat.reduceAdd, Nat.reduceMul, Nat.reduceSub, Nat.reduceBEq, Nat.reduceGT, Nat.reduceLT, Int.toNat_zero, Nat.reduceLeDiff, Int.reduceEq, Int.reduceLT, Int.reduceLE]; done) | simp only [push_cast, reduceCtorEq, Nat.reduceAdd, Nat.reduceMul, Nat.reduceSub, Nat.reduceBEq, Nat.reduceGT, Nat.reduceLT, Int.toNat_zero, Nat.reduceLeDiff, Int.reduceEq, Int.reduceLT, Int.reduceLE, hcs]) (by first | (simp only [push_cast, reduceCtorEq, Nat.reduceAdd, Nat.reduceMul, Nat.reduceSub, Nat.reduceBEq, Nat.reduceGT, Nat.reduceLT, Int.toNat_zero, Nat.reduceLeDiff, Int.reduceEq, Int.reduceLT, Int.reduceLE]; done) | simp only [push_cast, reduceCtorEq, Nat.reduceAdd, Nat.reduceMul, Nat.reduceSub, Nat.reduceBEq, Nat.reduceGT, Nat.reduceLT, Int.toNat_zero, Nat.reduceLeDiff, Int.reduceEq, Int.reduceLT, Int.reduceLE, hcs]) (by first | decide | simp))
  rintro ⟨⟨seen, c0⟩, hc0⟩
  have hT := entries_cost hA.ok.so hM.rel
  have hcb := cost_b hA.ok.sm
  have hcs := csum_le seen es.toList
  (repeat (first | refine Holds.peel ?_ | refine Holds.peelB ?_ | refine Holds.peelS ?_ | refine Holds.peelL ?_ | refine Holds.peelN ?_))
  refine Holds.opIn 0 rfl rfl ?_
  simp (maxSteps := 1000000) only [↓reduceIte, Option.getD_some, push_cast, reduceCtorEq, Nat.reduceAdd, Nat.reduceMul, Nat.reduceSub, Nat.reduceBEq, Nat.reduceGT, Nat.reduceLT, Int.toNat_zero, Nat.reduceLeDiff, Int.reduceEq, Int.reduceLT, Int.reduceLE, hP, hΓ, hL, hfin, String.reduceEq, not_false_eq_true, if_true]
  refine ⟨_, out_next (id := 1) (it := 2) rfl rfl rfl rfl (fun x hx => hM.st.1 x hx) hc0, ?_⟩
  rintro v L' (⟨rfl, rfl, h0⟩ | ⟨e, he, rfl, rfl⟩)
  · have hz : csum es.toList seen = cost A := by rw [← hT]; exact csum_full seen _ (all_seen es seen h0)
    simp (maxSteps := 1000000) only [↓reduceIte, Option.getD_some, push_cast, reduceCtorEq, Nat.reduceAdd, Nat.reduceMul, Nat.reduceSub, Nat.reduceBEq, Nat.reduceGT, Nat.reduceLT, Int.toNat_zero, Nat.reduceLeDiff, Int.reduceEq, Int.reduceLT, Int.reduceLE, hP, hΓ, hL, hfin, String.reduceEq, not_false_eq_true, if_true]
    refine Holds.unpinMap (id := 1) (kd := none) (f := mapF A) rfl hM ?_
    ((first | with_reducible refine holds_of_ex X 400 _ _ _ ?_ | skip); simp (maxSteps := 1000000) only [push_cast, reduceCtorEq, Nat.reduceAdd, Nat.reduceMul, Nat.reduceSub, Nat.reduceBEq, Nat.reduceGT, Nat.reduceLT, Int.toNat_zero, Nat.reduceLeDiff, Int.reduceEq, Int.reduceLT, Int.reduceLE, hP, hΓ, hL, hfin, String.reduceEq, not_false_eq_true, if_true, hz])
    (refine Into.keep2 (by first | exact leF_refl _ | (simp only [leF, true_and, and_true, and_self]; done) | (simp [leF]; done)) (by first | (simp only [push_cast, reduceCtorEq, Nat.reduceAdd, Nat.reduceMul, Nat.reduceSub, Nat.reduceBEq, Nat.reduceGT, Nat.reduceLT, Int.toNat_zero, Nat.reduceLeDiff, Int.reduceEq, Int.reduceLT, Int.reduceLE]; done) | simp only [push_cast, reduceCtorEq, Nat.reduceAdd, Nat.reduceMul, Nat.reduceSub, Nat.reduceBEq, Nat.reduceGT, Nat.reduceLT, Int.toNat_zero, Nat.reduceLeDiff, Int.reduceEq, Int.reduceLT, Int.reduceLE, hcs]) (by first | rfl | (first | (simp only [push_cast, reduceCtorEq, Nat.reduceAdd, Nat.reduceMul, Nat.reduceSub, Nat.reduceBEq, Nat.reduceGT, Nat.reduceLT, Int.toNat_zero, Nat.reduceLeDiff, Int.reduceEq, Int.reduceLT, Int.reduceLE]; done) | simp only [push_cast, reduceCtorEq, Nat.reduceAdd, Nat.reduceMul, Nat.reduceSub, Nat.reduceBEq, Nat.reduceGT, Nat.reduceLT, Int.toNat_zero, Nat.reduceLeDiff, Int.reduceEq, Int.reduceLT, Int.reduceLE, hcs])) (by first | decide | simp))
  · obtain ⟨hem, hes⟩ := mem_left he
    obtain ⟨k, hk, hf⟩ := hM.rel.ent e hem
    obtain ⟨n, d, hd, hv, hkn⟩ : ∃ n d, (n, d) ∈ A ∧ e.val = vS d ∧ e.key = vS n := by
      cases k with
      | i a b => cases hf
      | s n =>
        rw [mapF_s] at hf
        cases hl : A.lookup n with
        | none => rw [hl] at hf; cases hf
        | some d => rw [hl] at hf; exact ⟨n, d, lookup_in hl, (Option.some.inj hf).symm, hk⟩
    have hdl := (hA.ok.sm _ hd).2
    simp only at hdl
    have hpu := csum_push seen e hes es.toList hM.st.2 hem
    have hcs2 := csum_le (seen.push e.born) es.toList
    rw [hv, ecost, vlen_vS] at hpu
    have hpc : 0 ≤ pieces d.length ∧ pieces d.length ≤ 300 := by unfold pieces; omega
    rw [hv, hkn]
    simp (maxSteps := 1000000) only [↓reduceIte, Option.getD_some, push_cast, reduceCtorEq, Nat.reduceAdd, Nat.reduceMul, Nat.reduceSub, Nat.reduceBEq, Nat.reduceGT, Nat.reduceLT, Int.toNat_zero, Nat.reduceLeDiff, Int.reduceEq, Int.reduceLT, Int.reduceLE, hP, hΓ, hL, hfin, String.reduceEq, not_false_eq_true, if_true, vS]
    (repeat (first | refine Holds.peel ?_ | refine Holds.peelB ?_ | refine Holds.peelS ?_ | refine Holds.peelL ?_ | refine Holds.peelN ?_))
    refine Holds.condT rfl ?_
    (repeat (first | refine Holds.peel ?_ | refine Holds.peelB ?_ | refine Holds.peelS ?_ | refine Holds.peelL ?_ | refine Holds.peelN ?_))
    refine Holds.opIn 0 rfl rfl ?_
    simp (maxSteps := 1000000) only [↓reduceIte, Option.getD_some, push_cast, reduceCtorEq, Nat.reduceAdd, Nat.reduceMul, Nat.reduceSub, Nat.reduceBEq, Nat.reduceGT, Nat.reduceLT, Int.toNat_zero, Nat.reduceLeDiff, Int.reduceEq, Int.reduceLT, Int.reduceLE, hP, hΓ, hL, hfin, String.reduceEq, not_false_eq_true, if_true]
    refine ⟨_, out_entry (id := 1) (it := 2) (e := e) rfl rfl rfl rfl hem hM.st.2, ?_⟩
    rintro v L' ⟨rfl, rfl⟩
    rw [hv, hkn]
    simp (maxSteps := 1000000) only [↓reduceIte, Option.getD_some, push_cast, reduceCtorEq, Nat.reduceAdd, Nat.reduceMul, Nat.reduceSub, Nat.reduceBEq, Nat.reduceGT, Nat.reduceLT, Int.toNat_zero, Nat.reduceLeDiff, Int.reduceEq, Int.reduceLT, Int.reduceLE, hP, hΓ, hL, hfin, String.reduceEq, not_false_eq_true, if_true, vS]
    ((first | with_reducible refine holds_of_ex X 400 _ _ _ ?_ | skip); simp (maxSteps := 1000000) only [push_cast, reduceCtorEq, Nat.reduceAdd, Nat.reduceMul, Nat.reduceSub, Nat.reduceBEq, Nat.reduceGT, Nat.reduceLT, Int.toNat_zero, Nat.reduceLeDiff, Int.reduceEq, Int.reduceLT, Int.reduceLE, hP, hΓ, hL, hfin, String.reduceEq, not_false_eq_true, if_true, h44, wr_i64 (1 + pieces d.length) (by constructor <;> omega), wr_i64 (S - 1 - leaves A.length - csum es.toList seen - (1 + pieces d.length)) (by constructor <;> omega)])
    refine ⟨by omega, ?_⟩
    have hq : S - 1 - leaves A.length - csum es.toList (seen.push e.born) = S - 1 - leaves A.length - csum es.toList seen - (1 + pieces d.length) := by omega
    refine ⟨⟨(seen.push e.born, clock), Nat.le_refl _⟩, left_shrinks es seen e he, ?_⟩
    simp only [hq]
    exact Into.same (by first | exact leF_refl _ | (simp only [leF, true_and, and_true, and_self]; done) | (simp [leF]; done)) (by first | (simp only [push_cast, reduceCtorEq, Nat.reduceAdd, Nat.reduceMul, Nat.reduceSub, Nat.reduceBEq, Nat.reduceGT, Nat.reduceLT, Int.toNat_zero, Nat.reduceLeDiff, Int.reduceEq, Int.reduceLT, Int.reduceLE]; done) | simp only [push_cast, reduceCtorEq, Nat.reduceAdd, Nat.reduceMul, Nat.reduceSub, Nat.reduceBEq, Nat.reduceGT, Nat.reduceLT, Int.toNat_zero, Nat.reduceLeDiff, Int.reduceEq, Int.reduceLT, Int.reduceLE, hcs]) (by first | (simp only [push_cast, reduceCtorEq, Nat.reduceAdd, Nat.reduceMul, Nat.reduceSub, Nat.reduceBEq, Nat.reduceGT, Nat.reduceLT, Int.toNat_zero, Nat.reduceLeDiff, Int.reduceEq, Int.reduceLT, Int.reduceLE]; done) | simp only [push_cast, reduceCtorEq, Nat.reduceAdd, Nat.reduceMul, Nat.reduceSub, Nat.reduceBEq, Nat.reduceGT, Nat.reduceLT, Int.toNat_zero, Nat.reduceLeDiff, Int.reduceEq, Int.reduceLT, Int.reduceLE, hcs]) (by first | decide | simp)
theorem con16 {Γ : Env} (h : EnvOk Tryz.prog Γ) (h43 : Γ 43 = some S43) (h44 : Γ 44 = some S44) : Con Tryz.prog 16 S16 :=
  heapE_con h (fn := Tryz.f16) (by kernel_rfl) rfl (by kernel_rfl) inj16 fun a h => by
    rcases a with ⟨f, S⟩ | u
    · obtain ⟨h1, h2⟩ := h; have := body16 Γ h43 h44 (fsOf f) S h1; rw [h2] at this; exact this
    · exact body16n Γ
end
end Go.Proofs.YtenopfmafecffaaGreatDoor.modelDone
end
section
namespace Go.Proofs.YtenopfmafecffaaGreatDoor.modelDone
open Go Go.Eng Go.Proofs Go.Mdl Go.RowKit
set_option linter.unusedVariables false
set_option linter.unusedSimpArgs false
set_option maxRecDepth 100000
set_option maxHeartbeats 4000000
theorem old_look {A : Fs} (h : okF A) (n : Bytes) : oldF A n = (A.lookup n).getD [] := by
  rw [oldF, has_lookup h.so]
  cases hk : A.lookup n with
  | none => rfl
  | some d =>
    have := at_place h.so hk
    simp only [Option.isSome_some, if_true, Option.getD_some, dataF, List.getD, this]
noncomputable section
def e58 : (Key → Option Value) × (Int) × (Bytes) × (Bytes) → List AV × Heap := fun (f, S, n, t) => ([.ref 0 0 0, .sl [.str n] 1, .str t], [.row [.mp 1, .int .i64 S] 2 0, .raw (.map none f)])
def p58 : (Key → Option Value) × (Int) × (Bytes) × (Bytes) → Prop := fun (f, S, n, t) => okS S (fsOf f) ∧ mapF (fsOf f) = f ∧ n.length ≤ 4194304 ∧ t.length ≤ 1000000
def r58 : (Key → Option Value) × (Int) × (Bytes) × (Bytes) → AV := fun (f, S, n, t) => .str (writeF S (fsOf f) n (oldF (fsOf f) n ++ t ++ [10])).1
def g58 : (Key → Option Value) × (Int) × (Bytes) × (Bytes) → Heap := fun (f, S, n, t) => [.row [.mp 1, .int .i64 S] 2 0, .raw (.map none (mapF (writeF S (fsOf f) n (oldF (fsOf f) n ++ t ++ [10])).2))]
theorem inj58 : ∀ a b, e58 a = e58 b → a = b := by
  rintro ⟨f, S, n, t⟩ ⟨f', S', n', t'⟩ h
  simp only [e58, mi_iff, ms_iff, mb_iff, my_iff, UInt8.toNat_inj, AObj.raw.injEq, Raw.map.injEq, Prod.mk.injEq, List.cons.injEq, AObj.row.injEq, AV.int.injEq, AV.str.injEq, AV.bool.injEq, AV.sl.injEq, AV.agg.injEq, AV.ip.injEq, AV.fn.injEq, AV.ifc.injEq, AV.mpr.injEq, AV.msl.injEq, AV.ref.injEq, Int.natCast_inj, and_true, true_and] at h
  simp_all only
noncomputable def S58 : FSpec := heapE true e58 p58 r58 g58
theorem ps58 (f : (Key → Option Value)) (S : (Int)) (n : (Bytes)) (t : (Bytes)) : pselK e58 p58 ([.ref 0 0 0, .sl [.str n] 1, .str t], [.row [.mp 1, .int .i64 S] 2 0, .raw (.map none f)]) = (okS S (fsOf f) ∧ mapF (fsOf f) = f ∧ n.length ≤ 4194304 ∧ t.length ≤ 1000000) := pselK_at inj58 p58 (f, S, n, t)
theorem rs58 (f : (Key → Option Value)) (S : (Int)) (n : (Bytes)) (t : (Bytes)) : rselK e58 r58 .any ([.ref 0 0 0, .sl [.str n] 1, .str t], [.row [.mp 1, .int .i64 S] 2 0, .raw (.map none f)]) = (.str (writeF S (fsOf f) n (oldF (fsOf f) n ++ t ++ [10])).1) := rselK_at inj58 r58 .any (f, S, n, t)
theorem hs58 (f : (Key → Option Value)) (S : (Int)) (n : (Bytes)) (t : (Bytes)) : rselK e58 g58 [] ([.ref 0 0 0, .sl [.str n] 1, .str t], [.row [.mp 1, .int .i64 S] 2 0, .raw (.map none f)]) = ([.row [.mp 1, .int .i64 S] 2 0, .raw (.map none (mapF (writeF S (fsOf f) n (oldF (fsOf f) n ++ t ++ [10])).2))]) := rselK_at inj58 g58 [] (f, S, n, t)
attribute [push_cast] S58 ps58 rs58 hs58
theorem body58 (Γ : Env) (h79 : Γ 79 = some S79) (A : Fs) (S : Int) (n t : Bytes) (hA : okS S A) (hn : n.length ≤ 4194304) (hd : t.length ≤ 1000000) : BodyOk Tryz.prog Γ Tryz.f58 [.ref 0 0 0, .sl [.str n] 1, .str t] [.row [.mp 1, .int .i64 S] 2 0, .raw (.map none (mapF A))] (.str (writeF S A n (oldF A n ++ t ++ [10])).1) [.row [.mp 1, .int .i64 S] 2 0, .raw (.map none (mapF (writeF S A n (oldF A n ++ t ++ [10])).2))] := by
  have hfs := fsOf_mapF hA.ok.so
  have ho := old_look hA.ok n
  have hol : (oldF A n).length ≤ 256000 := by unfold oldF; split; · exact data_le hA.ok n
                                              · simp
  cases hlk : A.lookup n
  all_goals
    rw [hlk] at ho
    simp only [Option.getD_none, Option.getD_some] at ho
    rw [ho] at hol ⊢
    (intro X hP hΓ hL hfin; refine ⟨_, rfl, ?_⟩; rw [show Tryz.f58.ntmps = 23 from rfl]; rw [show Tryz.f58.results.toList = [.tmp 6] from rfl] at hfin; apply holds_of_ex X 400; simp (maxSteps := 1000000) only [push_cast, reduceCtorEq, Nat.reduceAdd, Nat.reduceMul, Nat.reduceSub, Nat.reduceBEq, Nat.reduceGT, Nat.reduceLT, Int.toNat_zero, Nat.reduceLeDiff, Int.reduceEq, Int.reduceLT, Int.reduceLE, hP, hΓ, hL, hfin, String.reduceEq, not_false_eq_true, if_true, mapF_s, hlk, vS, Option.getD_some])
    (refine Holds.drawnE (patH []) [0, 1, 2, 3, 4, 5, 6, 7, 8, 9, 10, 11, 12, 13, 14, 15, 16] [] [] false (by rw [hP]; kernel_rfl) (by kernel_rfl) (by kernel_rfl) (by kernel_rfl) (by first | exact .inl rfl | exact .inr fun _ _ h => patH_app _ _ h) (by first | (simp only [push_cast]; done) | (simp only [push_cast, and_true]; omega)) ?_; simp (maxSteps := 1000000) only [↓reduceIte, Option.getD_some, push_cast, reduceCtorEq, Nat.reduceAdd, Nat.reduceMul, Nat.reduceSub, Nat.reduceBEq, Nat.reduceGT, Nat.reduceLT, Int.toNat_zero, Nat.reduceLeDiff, Int.reduceEq, Int.reduceLT, Int.reduceLE, hP, hΓ, hL, hfin, String.reduceEq, not_false_eq_true, if_true, h79, hfs, mapF_s, hlk, vS])
    refine ⟨by omega, by omega, by omega, by omega, ⟨hA, by omega, by omega⟩, ?_⟩
    ((first | with_reducible refine holds_of_ex X 400 _ _ _ ?_ | skip); simp (maxSteps := 1000000) only [push_cast, reduceCtorEq, Nat.reduceAdd, Nat.reduceMul, Nat.reduceSub, Nat.reduceBEq, Nat.reduceGT, Nat.reduceLT, Int.toNat_zero, Nat.reduceLeDiff, Int.reduceEq, Int.reduceLT, Int.reduceLE, hP, hΓ, hL, hfin, String.reduceEq, not_false_eq_true, if_true])
    exact Into.sameA
theorem con58 {Γ : Env} (h : EnvOk Tryz.prog Γ) (h79 : Γ 79 = some S79) : Con Tryz.prog 58 S58 :=
  heapE_con h (fn := Tryz.f58) (by kernel_rfl) rfl (by kernel_rfl) inj58 fun ⟨f, S, n, t⟩ h => by obtain ⟨h1, h2, h3, h4⟩ := h; have := body58 Γ h79 (fsOf f) S n t h1 h3 h4; rw [h2] at this; exact this
end
end Go.Proofs.YtenopfmafecffaaGreatDoor.modelDone
end
