/- Of the model of a workstation: the program's Run. Conditions stand in each. Of the model of a workstation: does a line only ask? Conditions stand in each. Of the model of a workstation: nothing answers nothing. Conditions stand in each. -/
import Derived.Test.YtenopfmafecffaaGreatDoorPB
import Derived.Test.YtenopfmafecffaaGreatDoorMpP
import Derived.Test.YtenopfmafecffaaGreatDoorMpA
import Derived.Test.YtenopfmafecffaaGreatDoorMoY
import Derived.Test.YtenopfmafecffaaGreatDoorMoZ
import Derived.Test.YtenopfmafecffaaGreatDoorMpN
section
namespace Go.Proofs.YtenopfmafecffaaGreatDoor.modelDone
open Go Go.Eng Go.Proofs Go.Mdl Go.RowKit
open Go.Lines (pres)
open Go.Proofs.YtenopfmafecffaaGreatDoor.linesDone (linesS linesV lnF lrF lwP lines_eq)
open Go.Proofs.YtenopfmafecffaaGreatDoor.bld (S46 S48)
set_option linter.unusedVariables false
set_option linter.unusedSimpArgs false
set_option maxRecDepth 100000
set_option maxHeartbeats 4000000
noncomputable section
def e19 : ((Key → Option Value) × (Int) × (Bytes)) ⊕ ((Bytes)) → List AV × Heap
  | .inl (f, S, l) => ([.ref 0 0 0, .str l], [.row [.mp 1, .int .i64 S] 2 0, .raw (.map none f)])
  | .inr l => ([.lit (.pointer none), .str l], [])
def p19 : ((Key → Option Value) × (Int) × (Bytes)) ⊕ ((Bytes)) → Prop
  | .inl (f, S, l) => okS S (fsOf f) ∧ mapF (fsOf f) = f ∧ l.length ≤ 4194304
  | .inr l => True
def r19 : ((Key → Option Value) × (Int) × (Bytes)) ⊕ ((Bytes)) → AV
  | .inl (f, S, l) => .str (runT S (fsOf f) (lnF l))
  | .inr l => .str []
def g19 : ((Key → Option Value) × (Int) × (Bytes)) ⊕ ((Bytes)) → Heap
  | .inl (f, S, l) => [.row [.mp 1, .int .i64 S] 2 0, .raw (.map none (mapF (runF S (fsOf f) (lnF l)).2))]
  | .inr l => []
theorem inj19 : ∀ a b, e19 a = e19 b → a = b := by
  rintro (⟨f, S, l⟩ | l) (⟨f', S', l'⟩ | l') h <;> simp only [e19, mi_iff, ms_iff, mb_iff, my_iff, UInt8.toNat_inj, AObj.raw.injEq, Raw.map.injEq, Prod.mk.injEq, List.cons.injEq, AObj.row.injEq, AV.int.injEq, AV.str.injEq, AV.bool.injEq, AV.sl.injEq, AV.agg.injEq, AV.ip.injEq, AV.fn.injEq, AV.ifc.injEq, AV.mpr.injEq, AV.msl.injEq, AV.ref.injEq, Int.natCast_inj, and_true, true_and, reduceCtorEq, false_and, and_false, List.cons_ne_nil] at h <;> simp_all only
noncomputable def S19 : FSpec := heapE true e19 p19 r19 g19
theorem ps19 (f : (Key → Option Value)) (S : (Int)) (l : (Bytes)) : pselK e19 p19 ([.ref 0 0 0, .str l], [.row [.mp 1, .int .i64 S] 2 0, .raw (.map none f)]) = (okS S (fsOf f) ∧ mapF (fsOf f) = f ∧ l.length ≤ 4194304) := pselK_at inj19 p19 (.inl (f, S, l))
theorem rs19 (f : (Key → Option Value)) (S : (Int)) (l : (Bytes)) : rselK e19 r19 .any ([.ref 0 0 0, .str l], [.row [.mp 1, .int .i64 S] 2 0, .raw (.map none f)]) = (.str (runT S (fsOf f) (lnF l))) := rselK_at inj19 r19 .any (.inl (f, S, l))
theorem hs19 (f : (Key → Option Value)) (S : (Int)) (l : (Bytes)) : rselK e19 g19 [] ([.ref 0 0 0, .str l], [.row [.mp 1, .int .i64 S] 2 0, .raw (.map none f)]) = ([.row [.mp 1, .int .i64 S] 2 0, .raw (.map none (mapF (runF S (fsOf f) (lnF l)).2))]) := rselK_at inj19 g19 [] (.inl (f, S, l))
theorem ps19n (l : (Bytes)) : pselK e19 p19 ([.lit (.pointer none), .str l], []) = (True) := pselK_at inj19 p19 (.inr l)
theorem rs19n (l : (Bytes)) : rselK e19 r19 .any ([.lit (.pointer none), .str l], []) = (.str []) := rselK_at inj19 r19 .any (.inr l)
theorem hs19n (l : (Bytes)) : rselK e19 g19 [] ([.lit (.pointer none), .str l], []) = ([]) := rselK_at inj19 g19 [] (.inr l)
attribute [push_cast] S19 ps19 rs19 hs19 ps19n rs19n hs19n
theorem body19n (Γ : Env) (l : Bytes) : BodyOk Tryz.prog Γ Tryz.f19 [.lit (.pointer none), .str l] [] (.str []) [] := by
  (intro X hP hΓ hL hfin; refine ⟨_, rfl, ?_⟩; rw [show Tryz.f19.ntmps = 31 from rfl]; rw [show Tryz.f19.results.toList = [.tmp 4] from rfl] at hfin; apply holds_of_ex X 400; simp (maxSteps := 1000000) only [push_cast, reduceCtorEq, Nat.reduceAdd, Nat.reduceMul, Nat.reduceSub, Nat.reduceBEq, Nat.reduceGT, Nat.reduceLT, Int.toNat_zero, Nat.reduceLeDiff, Int.reduceEq, Int.reduceLT, Int.reduceLE, hP, hΓ, hL, hfin, String.reduceEq, not_false_eq_true, if_true, Int.toNat_one])
  exact Into.sameA
theorem body19 (Γ : Env) (h12 : Γ 12 = some S12) (h46 : Γ 46 = some S46) (h47 : Γ 47 = some linesS) (h48 : Γ 48 = some S48) (A : Fs) (S : Int) (l : Bytes) (hA : okS S A) (hlen : l.length ≤ 4194304) : BodyOk Tryz.prog Γ Tryz.f19 [.ref 0 0 0, .str l] [.row [.mp 1, .int .i64 S] 2 0, .raw (.map none (mapF A))] (.str (runT S A (lnF l))) [.row [.mp 1, .int .i64 S] 2 0, .raw (.map none (mapF (runF S A (lnF l)).2))] := by
  (intro X hP hΓ hL hfin; refine ⟨_, rfl, ?_⟩; rw [show Tryz.f19.ntmps = 31 from rfl]; rw [show Tryz.f19.results.toList = [.tmp 4] from rfl] at hfin; apply holds_of_ex X 400; simp (maxSteps := 1000000) only [push_cast, reduceCtorEq, Nat.reduceAdd, Nat.reduceMul, Nat.reduceSub, Nat.reduceBEq, Nat.reduceGT, Nat.reduceLT, Int.toNat_zero, Nat.reduceLeDiff, Int.reduceEq, Int.reduceLT, Int.reduceLE, hP, hΓ, hL, hfin, String.reduceEq, not_false_eq_true, if_true, Int.toNat_one, h46, h47, lwP])
  refine ⟨hlen, ?_⟩
  have hll := ln_le l
  generalize lnF l = ls at *
  ((first | with_reducible refine holds_of_ex X 400 _ _ _ ?_ | skip); simp (maxSteps := 1000000) only [push_cast, reduceCtorEq, Nat.reduceAdd, Nat.reduceMul, Nat.reduceSub, Nat.reduceBEq, Nat.reduceGT, Nat.reduceLT, Int.toNat_zero, Nat.reduceLeDiff, Int.reduceEq, Int.reduceLT, Int.reduceLE, hP, hΓ, hL, hfin, String.reduceEq, not_false_eq_true, if_true, Int.toNat_one])
  refine Holds.loopM (ι := {k : Nat // k ≤ ls.length}) [true, false, false, false, true, true, false, false, false, false, false, false, false, false, false, false, false, false, true, true, false, false, false, false, false, false, false, false, false, false, false] (fun i => [(20, .int .i64 i.1)]) (fun i => [.row [.mp 1, .int .i64 S] 2 0, .raw (.map none (mapF (runF S A (ls.take i.1)).2)), .raw (.bld 74 5 (runT S A (ls.take i.1)))]) (fun i => ls.length - i.1) ⟨0, Nat.zero_le _⟩ ?_ ?_
  · rw [hL]
    simp only [List.take_zero, runT_0, runF_0, headT, push_cast, Int.natCast_zero]
    exact Into.sameA
  rintro ⟨k, hk⟩
  have hB := run_s hA (ls.take k)
  have hT := run_l hA (ls.take k)
  have hkl : (ls.take k).length = k := by rw [List.length_take]; omega
  have hTl : (runT S A (ls.take k)).length = 9 + (runF S A (ls.take k)).1.length := by rw [runT, List.length_append]; rfl
  ((first | with_reducible refine holds_of_ex X 400 _ _ _ ?_ | skip); simp (maxSteps := 1000000) only [push_cast, reduceCtorEq, Nat.reduceAdd, Nat.reduceMul, Nat.reduceSub, Nat.reduceBEq, Nat.reduceGT, Nat.reduceLT, Int.toNat_zero, Nat.reduceLeDiff, Int.reduceEq, Int.reduceLT, Int.reduceLE, hP, hΓ, hL, hfin, String.reduceEq, not_false_eq_true, if_true, Int.toNat_one])
  ((with_reducible refine exB_split (fun h => ?_) (fun h => ?_)) <;> (try simp only [decide_eq_true_eq, decide_eq_false_iff_not, Bool.and_eq_true, Bool.or_eq_true, Bool.and_eq_false_iff, Bool.or_eq_false_iff, Bool.not_eq_true', Bool.not_eq_false', Bool.not_eq_true, Bool.not_eq_false, Int.not_lt, Int.not_le, beq_iff_eq, beq_eq_false_iff_ne, ne_eq] at h))
  · have hk' : k < ls.length := by omega
    have hl' : (k : Int) < (ls.length : Int) := by omega
    have hn : ls.take (k + 1) = ls.take k ++ [ls.getD k default] := by rw [List.take_add_one, List.getD, List.getElem?_eq_getElem hk']; rfl
    have hr := run_snoc S A (ls.take k) (ls.getD k default)
    rw [← hn] at hr
    have hT1 : runT S A (ls.take (k + 1)) = runT S A (ls.take k) ++ (doF S (runF S A (ls.take k)).2 (ls.getD k default)).1 ++ [62, 32] := by rw [runT, hr, runT]; simp
    have hF1 : (runF S A (ls.take (k + 1))).2 = (doF S (runF S A (ls.take k)).2 (ls.getD k default)).2 := by rw [hr]
    have hdl := do_l hB (ls.getD k default)
    have hle : (runT S A (ls.take k)).length ≤ 1300000000000 := by omega
    generalize hx : ls.getD k default = x at *
    clear hn hr hTl hT
    have hfs := fsOf_mapF hB.ok.so
    generalize (runF S A (ls.take k)).2 = B at *
    generalize runT S A (ls.take k) = T at *
    ((first | with_reducible refine holds_of_ex X 400 _ _ _ ?_ | skip); simp (maxSteps := 1000000) only [push_cast, reduceCtorEq, Nat.reduceAdd, Nat.reduceMul, Nat.reduceSub, Nat.reduceBEq, Nat.reduceGT, Nat.reduceLT, Int.toNat_zero, Nat.reduceLeDiff, Int.reduceEq, Int.reduceLT, Int.reduceLE, hP, hΓ, hL, hfin, String.reduceEq, not_false_eq_true, if_true, Int.toNat_one, h12, h46, hx, hl', wr_i64 ((k : Int) + 1) (by constructor <;> omega), hfs])
    refine ⟨by omega, hB, by omega, by omega, ⟨k + 1, hk'⟩, by simp only; omega, ?_⟩
    simp only [hT1, hF1, List.append_assoc]
    exact Into.sameA
  · obtain rfl : k = ls.length := by omega
    ((first | with_reducible refine holds_of_ex X 400 _ _ _ ?_ | skip); simp (maxSteps := 1000000) only [push_cast, reduceCtorEq, Nat.reduceAdd, Nat.reduceMul, Nat.reduceSub, Nat.reduceBEq, Nat.reduceGT, Nat.reduceLT, Int.toNat_zero, Nat.reduceLeDiff, Int.reduceEq, Int.reduceLT, Int.reduceLE, hP, hΓ, hL, hfin, String.reduceEq, not_false_eq_true, if_true, Int.toNat_one, h48])
    rw [List.take_length] at *
    refine ⟨by omega, ?_⟩
    exact Into.keep2A
theorem con19 {Γ : Env} (h : EnvOk Tryz.prog Γ) (h12 : Γ 12 = some S12) (h46 : Γ 46 = some S46) (h47 : Γ 47 = some linesS) (h48 : Γ 48 = some S48) : Con Tryz.prog 19 S19 :=
  heapE_con h (fn := Tryz.f19) (by kernel_rfl) rfl (by kernel_rfl) inj19 fun a h => by
    rcases a with ⟨f, S, l⟩ | l
    · obtain ⟨h1, h2, h3⟩ := h; have := body19 Γ h12 h46 h47 h48 (fsOf f) S l h1 h3; rw [h2] at this; exact this
    · exact body19n Γ l
end
end Go.Proofs.YtenopfmafecffaaGreatDoor.modelDone
end
section
namespace Go.Proofs.YtenopfmafecffaaGreatDoor.modelDone
open Go Go.Eng Go.Proofs Go.Mdl Go.RowKit
open Go.Lines (pres)
open Go.Proofs.YtenopfmafecffaaGreatDoor.lineDone (cmd refS refV parseP)
set_option linter.unusedVariables false
set_option linter.unusedSimpArgs false
set_option maxRecDepth 100000
set_option maxHeartbeats 4000000
def qc (c : Bytes) : Bool := c == [] || c == [100, 105, 114] || c == [102, 114, 101, 101] || c == [115, 104, 111, 119] || c == [115, 105, 122, 101] || c == [114, 117, 110]
/-- does a line only ask, or was it refused? -/
def asksF (l t : Bytes) : Bool := !decide ((pres l).2.2.2 = 0) || qc (pres l).1 || (decide (1 < t.length) && t.take 2 == [63, 32])
def e21 : (Bytes) × (Bytes) → List AV := fun (l, t) => [.str l, .str t]
def p21 : (Bytes) × (Bytes) → Prop := fun (l, t) => t.length ≤ 1000000000
def r21 : (Bytes) × (Bytes) → AV := fun (l, t) => .bool (asksF l t)
def g21 : (Bytes) × (Bytes) → Heap := fun (l, t) => []
theorem inj21 : ∀ a b, e21 a = e21 b → a = b := by
  rintro ⟨l, t⟩ ⟨l', t'⟩ h
  simp only [e21, mi_iff, ms_iff, mb_iff, my_iff, UInt8.toNat_inj, List.cons.injEq, AV.int.injEq, AV.str.injEq, AV.bool.injEq, AV.sl.injEq, AV.agg.injEq, AV.ip.injEq, AV.fn.injEq, AV.ifc.injEq, AV.mpr.injEq, Int.natCast_inj, and_true, true_and] at h
  simp_all only
noncomputable def S21 : FSpec := funS e21 p21 r21 g21 false
theorem ps21 (l : (Bytes)) (t : (Bytes)) : psel e21 p21 [.str l, .str t] = (t.length ≤ 1000000000) := psel_at inj21 p21 (l, t)
theorem rs21 (l : (Bytes)) (t : (Bytes)) : rsel e21 r21 .any [.str l, .str t] = (.bool (asksF l t)) := rsel_at inj21 r21 .any (l, t)
theorem hs21 (l : (Bytes)) (t : (Bytes)) : rsel e21 g21 [] [.str l, .str t] = ([]) := rsel_at inj21 g21 [] (l, t)
attribute [push_cast] S21 ps21 rs21 hs21
theorem body21 (Γ : Env) (h31 : Γ 31 = some refS) (l t : Bytes) (ht : t.length ≤ 1000000000) : BodyOk Tryz.prog Γ Tryz.f21 [.str l, .str t] [] (.bool (asksF l t)) [] := by
  have hPr := pres_pr l
  have hpre : parseP [.str l] := trivial
  unfold asksF
  (intro X hP hΓ hL hfin; refine ⟨_, rfl, ?_⟩; rw [show Tryz.f21.ntmps = 52 from rfl]; rw [show Tryz.f21.results.toList = [.tmp 4] from rfl] at hfin; apply holds_of_ex X 400; simp (maxSteps := 1000000) only [push_cast, reduceCtorEq, Nat.reduceAdd, Nat.reduceMul, Nat.reduceSub, Nat.reduceBEq, Nat.reduceGT, Nat.reduceLT, Int.toNat_zero, Nat.reduceLeDiff, Int.reduceEq, Int.reduceLT, Int.reduceLE, hP, hΓ, hL, hfin, String.reduceEq, not_false_eq_true, if_true, Int.toNat_one, h31])
  generalize (pres l).1 = c at *
  generalize (pres l).2.1 = w at *
  generalize (pres l).2.2.1 = x at *
  generalize (pres l).2.2.2 = e at *
  refine ⟨fun h => by rw [Bool.and_eq_true, decide_eq_true_eq] at h; omega, ?_⟩
  rw [show decide ((e : Int) = 0) = decide (e = 0) from decide_eq_decide.2 (by omega), show decide (1 < (t.length : Int)) = decide (1 < t.length) from decide_eq_decide.2 (by omega), show Int.toNat 2 = 2 from rfl]
  simp only [qc, Bool.or_assoc]
  exact Into.sameA
theorem con21 {Γ : Env} (h : EnvOk Tryz.prog Γ) (h31 : Γ 31 = some refS) : Con Tryz.prog 21 S21 :=
  funS_con h (fn := Tryz.f21) (by kernel_rfl) rfl (by kernel_rfl) inj21 (by first | (intro h; cases h; done) | exact fun _ _ => rfl) fun ⟨l, t⟩ h => body21 Γ h31 l t h
end Go.Proofs.YtenopfmafecffaaGreatDoor.modelDone
end
section
namespace Go.Proofs.YtenopfmafecffaaGreatDoor.modelDone
open Go Go.Eng Go.Proofs Go.Mdl Go.RowKit
open Go.Lines (pres)
open Go.Proofs.YtenopfmafecffaaGreatDoor.linesDone (linesS linesV lnF lrF lwP lines_eq)
set_option linter.unusedVariables false
set_option linter.unusedSimpArgs false
set_option maxRecDepth 100000
set_option maxHeartbeats 4000000
theorem newF_s {S : Int} : ∀ (l A : Fs), okS S A → (newF S A l).1 = 0 → okS S (newF S A l).2
  | [], A, h, _ => h
  | x :: l, A, h, h0 => by
    have hk := h.ok.le
    unfold newF at h0 ⊢
    split at h0
    · exact absurd h0 (by simp)
    · rename_i c1
      split at h0
      · exact absurd h0 (by simp)
      · rename_i c2
        split at h0
        · rename_i c3
          rw [if_neg c1, if_neg c2, if_pos c3]
          exact newF_s l _ (lay_s h (by simpa using c2) c3) h0
        · rename_i c3; exact absurd h0 c3
theorem new_s {S : Int} {l : Fs} (h : (newE S l).1 = 0) : okS S (newE S l).2 := by
  unfold newE at h ⊢
  split at h
  · exact absurd h (by simp)
  · rename_i c
    rw [if_neg c]
    exact newF_s l [] (ok_nil (by omega)) h
def e9 : Unit → List AV := fun _ => []
def p9 : Unit → Prop := fun _ => True
def r9 : Unit → AV := fun _ => .bool true
def g9 : Unit → Heap := fun _ => []
theorem inj9 : ∀ a b, e9 a = e9 b → a = b := fun _ _ _ => rfl
noncomputable def S9 : FSpec := funS e9 p9 r9 g9 false
theorem ps9  : psel e9 p9 [] = (True) := psel_at inj9 p9 ()
theorem rs9  : rsel e9 r9 .any [] = (.bool true) := rsel_at inj9 r9 .any ()
theorem hs9  : rsel e9 g9 [] [] = ([]) := rsel_at inj9 g9 [] ()
attribute [push_cast] S9 ps9 rs9 hs9
theorem body9 (Γ : Env) (h12 : Γ 12 = some S12) (h14 : Γ 14 = some S14) (h16 : Γ 16 = some S16) (h19 : Γ 19 = some S19) : BodyOk Tryz.prog Γ Tryz.f9 [] [] (.bool true) [] := by
  (intro X hP hΓ hL hfin; refine ⟨_, rfl, ?_⟩; rw [show Tryz.f9.ntmps = 21 from rfl]; rw [show Tryz.f9.results.toList = [.tmp 0] from rfl] at hfin; apply holds_of_ex X 400; simp (maxSteps := 1000000) only [push_cast, reduceCtorEq, Nat.reduceAdd, Nat.reduceMul, Nat.reduceSub, Nat.reduceBEq, Nat.reduceGT, Nat.reduceLT, Int.toNat_zero, Nat.reduceLeDiff, Int.reduceEq, Int.reduceLT, Int.reduceLE, hP, hΓ, hL, hfin, String.reduceEq, not_false_eq_true, if_true, Int.toNat_one, h12, h14, h16, h19])
  exact Into.sameA
theorem con9 {Γ : Env} (h : EnvOk Tryz.prog Γ) (h12 : Γ 12 = some S12) (h14 : Γ 14 = some S14) (h16 : Γ 16 = some S16) (h19 : Γ 19 = some S19) : Con Tryz.prog 9 S9 :=
  funS_con h (fn := Tryz.f9) (by kernel_rfl) rfl (by kernel_rfl) inj9 (by first | (intro h; cases h; done) | exact fun _ _ => rfl) fun _ _ => body9 Γ h12 h14 h16 h19
def e8 : Unit → List AV := fun _ => []
def p8 : Unit → Prop := fun _ => True
def r8 : Unit → AV := fun _ => .bool true
def g8 : Unit → Heap := fun _ => []
theorem inj8 : ∀ a b, e8 a = e8 b → a = b := fun _ _ _ => rfl
noncomputable def S8 : FSpec := funS e8 p8 r8 g8 false
theorem ps8  : psel e8 p8 [] = (True) := psel_at inj8 p8 ()
theorem rs8  : rsel e8 r8 .any [] = (.bool true) := rsel_at inj8 r8 .any ()
theorem hs8  : rsel e8 g8 [] [] = ([]) := rsel_at inj8 g8 [] ()
attribute [push_cast] S8 ps8 rs8 hs8
def A1 : Fs := [([97], [104, 101, 108, 108, 111])]
theorem sh_new : newE 16 A1 = (0, A1) := by kernel_rfl
theorem sh_new0 : newE 8 [] = (0, []) := by kernel_rfl
theorem sh_show : doF 16 A1 [115, 104, 111, 119, 32, 97] = ([104, 101, 108, 108, 111], A1) := by kernel_rfl
theorem sh_dir : doF 16 A1 [100, 105, 114] = ([97, 32, 53, 10], A1) := by kernel_rfl
theorem sh_free : doF 16 A1 [102, 114, 101, 101] = ([49, 50, 10], A1) := by kernel_rfl
theorem sh_foo : doF 16 A1 [102, 111, 111] = ([63, 32, 49, 57, 49, 10], A1) := by kernel_rfl
theorem sh_ln : lnF [102, 114, 101, 101, 10, 100, 105, 114] = [[102, 114, 101, 101]] := by kernel_rfl
theorem sh_run : runT 8 [] [[102, 114, 101, 101]] = [99, 97, 114, 114, 101, 108, 10, 62, 32, 55, 10, 62, 32] := by kernel_rfl
theorem sh_run2 : (runF 8 [] [[102, 114, 101, 101]]).2 = [] := by kernel_rfl
theorem a1_ps : pselK e10 p10 ([.int .i64 16, .sl [.str [97], .str [104, 101, 108, 108, 111]] 1], []) = True := (ps10 16 A1).trans (eq_true (by decide))
theorem a1_rs : rselK e10 r10 .any ([.int .i64 16, .sl [.str [97], .str [104, 101, 108, 108, 111]] 1], []) = .tup [.ref 0 0 0, .int .i64 0] := (rs10 16 A1).trans (by rw [newV, sh_new, if_pos rfl])
theorem a1_hs : rselK e10 g10 [] ([.int .i64 16, .sl [.str [97], .str [104, 101, 108, 108, 111]] 1], []) = [.row [.mp 1, .int .i64 16] 2 0, .raw (.map none (mapF A1))] := (hs10 16 A1).trans (by rw [newMH, sh_new, if_pos rfl])
theorem a0_ps : pselK e10 p10 ([.int .i64 8, .lit (.slice none 0 0)], []) = True := ps10n 8
theorem a0_rs : rselK e10 r10 .any ([.int .i64 8, .lit (.slice none 0 0)], []) = .tup [.ref 0 0 0, .int .i64 0] := (rs10n 8).trans (by rw [newV, sh_new0, if_pos rfl])
theorem a0_hs : rselK e10 g10 [] ([.int .i64 8, .lit (.slice none 0 0)], []) = [.row [.mp 1, .int .i64 8] 2 0, .raw (.map none (mapF []))] := (hs10n 8).trans (by rw [newMH, sh_new0, if_pos rfl])
theorem a1_ok : okS 16 A1 := by
  have := new_s (S := 16) (l := A1) (by rw [sh_new])
  rwa [sh_new] at this
theorem a0_ok : okS 8 [] := ok_nil (by omega)
theorem body8 (Γ : Env) (h10 : Γ 10 = some S10) (h12 : Γ 12 = some S12) (h19 : Γ 19 = some S19) : BodyOk Tryz.prog Γ Tryz.f8 [] [] (.bool true) [] := by
  have hfs := fsOf_mapF a1_ok.ok.so
  have hfs0 := fsOf_mapF a0_ok.ok.so
  (intro X hP hΓ hL hfin; refine ⟨_, rfl, ?_⟩; rw [show Tryz.f8.ntmps = 46 from rfl]; rw [show Tryz.f8.results.toList = [.tmp 0] from rfl] at hfin; apply holds_of_ex X 400; simp (maxSteps := 1000000) only [push_cast, reduceCtorEq, Nat.reduceAdd, Nat.reduceMul, Nat.reduceSub, Nat.reduceBEq, Nat.reduceGT, Nat.reduceLT, Int.toNat_zero, Nat.reduceLeDiff, Int.reduceEq, Int.reduceLT, Int.reduceLE, hP, hΓ, hL, hfin, String.reduceEq, not_false_eq_true, if_true, Int.toNat_one, h10, a1_ps, a1_rs, a1_hs, a0_ps, a0_rs, a0_hs, h12, h19, hfs, hfs0, sh_show, sh_dir, sh_free, sh_foo, sh_ln, sh_run, sh_run2])
  refine ⟨⟨by decide, a1_ok⟩, ⟨by decide, a1_ok⟩, ⟨by decide, a1_ok⟩, ⟨by decide, a1_ok⟩, ⟨by decide, a0_ok⟩, ?_⟩
  exact Into.keep0A
theorem con8 {Γ : Env} (h : EnvOk Tryz.prog Γ) (h10 : Γ 10 = some S10) (h12 : Γ 12 = some S12) (h19 : Γ 19 = some S19) : Con Tryz.prog 8 S8 :=
  funS_con h (fn := Tryz.f8) (by kernel_rfl) rfl (by kernel_rfl) inj8 (by first | (intro h; cases h; done) | exact fun _ _ => rfl) fun _ _ => body8 Γ h10 h12 h19
end Go.Proofs.YtenopfmafecffaaGreatDoor.modelDone
end
