/- Of objects: what a reader's rows ask for, one by one. Conditions stand in each. -/
import Derived.Test.YtmilngcgcolpbaaGreatQC
namespace Go.Proofs.YtmilngcgcolpbaaGreat.objDone
open Go Go.Eng Go.Proofs
set_option linter.unusedVariables false
set_option linter.unusedSimpArgs false
set_option maxRecDepth 100000
set_option maxHeartbeats 4000000
theorem oc_nil : (Value.slice none 0 0).oneCell' = true := rfl
attribute [push_cast] oc_nil
theorem tk_map {α β : Type} (f : α → β) (l : List α) : List.take l.length (l.map f) = l.map f := List.take_of_length_le (by simp)
theorem tk_fm {α : Type} {g : α → List AV} {w : Nat} [Width g w] (l : List α) : List.take (l.length * w) (l.flatMap g) = l.flatMap g := List.take_of_length_le (by rw [len_fm (g := g)]; omega)
def importM (r : Rd) : Im × Rd := (⟨(textM r 20).1, (wordM (textM r 20).2).1⟩, (wordM (textM r 20).2).2)
theorem import_ok {r : Rd} (hr : r.ok) : (importM r).2.ok ∧ (importM r).2.b = r.b := by
  have h1 := text_ok hr 20
  have h2 := word_ok h1.1
  exact ⟨h2.1, h2.2.trans h1.2⟩
def e78 : (Rd) → List AV × Heap := fun r => ([.ref 0 0 0], [.row [.ref 1 0 0] 1 0, .row r.c 3 0])
def p78 : (Rd) → Prop := fun r => r.ok
def r78 : (Rd) → AV := fun r => .agg (importM r).1.c
def g78 : (Rd) → Heap := fun r => [.row [.ref 1 0 0] 1 0, .row (importM r).2.c 3 0]
theorem inj78 : ∀ a b, e78 a = e78 b → a = b := by
  rintro r r' h
  simp only [e78, mi_iff, ms_iff, mb_iff, my_iff, rc_iff, Prod.mk.injEq, List.cons.injEq, AObj.row.injEq, AV.int.injEq, AV.str.injEq, AV.bool.injEq, AV.sl.injEq, AV.agg.injEq, AV.ip.injEq, AV.fn.injEq, AV.ifc.injEq, AV.mpr.injEq, AV.msl.injEq, AV.ref.injEq, Int.natCast_inj, and_true, true_and] at h
  simp_all only
noncomputable def S78 : FSpec := heapE false e78 p78 r78 g78
theorem ps78 (r : (Rd)) : pselK e78 p78 ([.ref 0 0 0], [.row [.ref 1 0 0] 1 0, .row r.c 3 0]) = (r.ok) := pselK_at inj78 p78 r
theorem rs78 (r : (Rd)) : rselK e78 r78 .any ([.ref 0 0 0], [.row [.ref 1 0 0] 1 0, .row r.c 3 0]) = (.agg (importM r).1.c) := rselK_at inj78 r78 .any r
theorem hs78 (r : (Rd)) : rselK e78 g78 [] ([.ref 0 0 0], [.row [.ref 1 0 0] 1 0, .row r.c 3 0]) = ([.row [.ref 1 0 0] 1 0, .row (importM r).2.c 3 0]) := rselK_at inj78 g78 [] r
attribute [push_cast] S78 ps78 rs78 hs78
theorem body78 (Γ : Env) (h75 : Γ 30 = some S75) (h76 : Γ 31 = some S76) (r : Rd) (hr : r.ok) : BodyOk Tryz.prog Γ Tryz.f33 [.ref 0 0 0] [.row [.ref 1 0 0] 1 0, .row r.c 3 0] (.agg (importM r).1.c) [.row [.ref 1 0 0] 1 0, .row (importM r).2.c 3 0] := by
  have h1 := text_ok hr 20
  (intro X hP hΓ hL hfin; refine ⟨_, rfl, ?_⟩; rw [show Tryz.f33.ntmps = 7 from rfl]; rw [show Tryz.f33.results.toList = [.cell 1 61] from rfl] at hfin; apply holds_of_ex X 400; simp (maxSteps := 1000000) only [push_cast, reduceCtorEq, Nat.reduceAdd, Nat.reduceMul, Nat.reduceSub, Nat.reduceBEq, Nat.reduceGT, Nat.reduceLT, Int.toNat_zero, Nat.reduceLeDiff, Int.reduceEq, Int.reduceLT, Int.reduceLE, hP, hΓ, hL, hfin, ↓tm_get, String.reduceEq, not_false_eq_true, if_true, h75, h76])
  (refine Holds.drawnE (patH [.fix (.row [.ref 1 0 0] 1 0), .row 3 0]) [1, 3, 5] [] [] true (by rw [hP]; kernel_rfl) (by kernel_rfl) (by kernel_rfl) (by kernel_rfl) (by first | exact .inl rfl | exact .inr fun _ _ h => patH_app _ _ h) (by first | (simp only [push_cast]; done) | (simp only [push_cast, and_true]; omega)) ?_; simp (maxSteps := 1000000) only [↓reduceIte, Option.getD_some, push_cast, reduceCtorEq, Nat.reduceAdd, Nat.reduceMul, Nat.reduceSub, Nat.reduceBEq, Nat.reduceGT, Nat.reduceLT, Int.toNat_zero, Nat.reduceLeDiff, Int.reduceEq, Int.reduceLT, Int.reduceLE, hP, hΓ, hL, hfin, ↓tm_get, String.reduceEq, not_false_eq_true, if_true, h75, h76])
  refine ⟨hr, h1.1, ?_⟩
  ((first | with_reducible refine holds_of_ex X 400 _ _ _ ?_ | skip); simp (maxSteps := 1000000) only [push_cast, reduceCtorEq, Nat.reduceAdd, Nat.reduceMul, Nat.reduceSub, Nat.reduceBEq, Nat.reduceGT, Nat.reduceLT, Int.toNat_zero, Nat.reduceLeDiff, Int.reduceEq, Int.reduceLT, Int.reduceLE, hP, hΓ, hL, hfin, ↓tm_get, String.reduceEq, not_false_eq_true, if_true])
  simp only [importM, Im.c]
  exact Into.keep2A
theorem con78 {Γ : Env} (h : EnvOk Tryz.prog Γ) (h75 : Γ 30 = some S75) (h76 : Γ 31 = some S76) : Con Tryz.prog 33 S78 :=
  heapE_con h (fn := Tryz.f33) (by kernel_rfl) rfl (by kernel_rfl) inj78 fun r h => body78 Γ h75 h76 r h
def e85 : (Rd) → List AV × Heap := fun r => ([.ref 0 0 0], [.row [.ref 1 0 0] 1 0, .row r.c 3 0])
def p85 : (Rd) → Prop := fun r => r.ok
def r85 : (Rd) → AV := fun r => .str (textM r 200).1
def g85 : (Rd) → Heap := fun r => [.row [.ref 1 0 0] 1 0, .row (textM r 200).2.c 3 0]
theorem inj85 : ∀ a b, e85 a = e85 b → a = b := by
  rintro r r' h
  simp only [e85, mi_iff, ms_iff, mb_iff, my_iff, rc_iff, Prod.mk.injEq, List.cons.injEq, AObj.row.injEq, AV.int.injEq, AV.str.injEq, AV.bool.injEq, AV.sl.injEq, AV.agg.injEq, AV.ip.injEq, AV.fn.injEq, AV.ifc.injEq, AV.mpr.injEq, AV.msl.injEq, AV.ref.injEq, Int.natCast_inj, and_true, true_and] at h
  simp_all only
noncomputable def S85 : FSpec := heapE false e85 p85 r85 g85
theorem ps85 (r : (Rd)) : pselK e85 p85 ([.ref 0 0 0], [.row [.ref 1 0 0] 1 0, .row r.c 3 0]) = (r.ok) := pselK_at inj85 p85 r
theorem rs85 (r : (Rd)) : rselK e85 r85 .any ([.ref 0 0 0], [.row [.ref 1 0 0] 1 0, .row r.c 3 0]) = (.str (textM r 200).1) := rselK_at inj85 r85 .any r
theorem hs85 (r : (Rd)) : rselK e85 g85 [] ([.ref 0 0 0], [.row [.ref 1 0 0] 1 0, .row r.c 3 0]) = ([.row [.ref 1 0 0] 1 0, .row (textM r 200).2.c 3 0]) := rselK_at inj85 g85 [] r
attribute [push_cast] S85 ps85 rs85 hs85
theorem body85 (Γ : Env) (h75 : Γ 30 = some S75) (r : Rd) (hr : r.ok) : BodyOk Tryz.prog Γ Tryz.f40 [.ref 0 0 0] [.row [.ref 1 0 0] 1 0, .row r.c 3 0] (.str (textM r 200).1) [.row [.ref 1 0 0] 1 0, .row (textM r 200).2.c 3 0] := by
  (intro X hP hΓ hL hfin; refine ⟨_, rfl, ?_⟩; rw [show Tryz.f40.ntmps = 4 from rfl]; rw [show Tryz.f40.results.toList = [.tmp 1] from rfl] at hfin; apply holds_of_ex X 400; simp (maxSteps := 1000000) only [push_cast, reduceCtorEq, Nat.reduceAdd, Nat.reduceMul, Nat.reduceSub, Nat.reduceBEq, Nat.reduceGT, Nat.reduceLT, Int.toNat_zero, Nat.reduceLeDiff, Int.reduceEq, Int.reduceLT, Int.reduceLE, hP, hΓ, hL, hfin, ↓tm_get, String.reduceEq, not_false_eq_true, if_true, h75])
  refine ⟨hr, ?_⟩
  exact Into.sameA
theorem con85 {Γ : Env} (h : EnvOk Tryz.prog Γ) (h75 : Γ 30 = some S75) : Con Tryz.prog 40 S85 :=
  heapE_con h (fn := Tryz.f40) (by kernel_rfl) rfl (by kernel_rfl) inj85 fun r h => body85 Γ h75 r h
abbrev anyM (r : Rd) : Int × Rd := numM r 4294967295
def fixM (r : Rd) : Fx × Rd :=
  let a := anyM r
  let k := byteM a.2 255
  let m := numM k.2 16
  let n := anyM m.2
  (⟨a.1, k.1, m.1 - 1, n.1⟩, n.2)
theorem fix_ok {r : Rd} (hr : r.ok) : (fixM r).2.ok ∧ (fixM r).2.b = r.b := by
  have h1 := num_ok hr 4294967295
  have h2 := byte_ok h1.1 255
  have h3 := num_ok h2.1 16
  have h4 := num_ok h3.1 4294967295
  exact ⟨h4.1, h4.2.trans (h3.2.trans (h2.2.trans h1.2))⟩
theorem num_b (r : Rd) (m : Int) : 0 ≤ (numM r m).1 ∧ (numM r m).1 < 4294967296 := by
  unfold numM
  simp only
  split
  · exact valR_b _
  · omega
theorem byte_b (r : Rd) (m : Int) : 0 ≤ (byteM r m).1 ∧ (byteM r m).1 < 256 := by
  unfold byteM
  simp only
  split
  · have := (r.b.getD r.at_.toNat 0).toNat_lt; omega
  · omega
def e89 : (Rd) → List AV × Heap := fun r => ([.ref 0 0 0], [.row [.ref 1 0 0] 1 0, .row r.c 3 0])
def p89 : (Rd) → Prop := fun r => r.ok
def r89 : (Rd) → AV := fun r => .agg (fixM r).1.c
def g89 : (Rd) → Heap := fun r => [.row [.ref 1 0 0] 1 0, .row (fixM r).2.c 3 0]
theorem inj89 : ∀ a b, e89 a = e89 b → a = b := by
  rintro r r' h
  simp only [e89, mi_iff, ms_iff, mb_iff, my_iff, rc_iff, Prod.mk.injEq, List.cons.injEq, AObj.row.injEq, AV.int.injEq, AV.str.injEq, AV.bool.injEq, AV.sl.injEq, AV.agg.injEq, AV.ip.injEq, AV.fn.injEq, AV.ifc.injEq, AV.mpr.injEq, AV.msl.injEq, AV.ref.injEq, Int.natCast_inj, and_true, true_and] at h
  simp_all only
noncomputable def S89 : FSpec := heapE false e89 p89 r89 g89
theorem ps89 (r : (Rd)) : pselK e89 p89 ([.ref 0 0 0], [.row [.ref 1 0 0] 1 0, .row r.c 3 0]) = (r.ok) := pselK_at inj89 p89 r
theorem rs89 (r : (Rd)) : rselK e89 r89 .any ([.ref 0 0 0], [.row [.ref 1 0 0] 1 0, .row r.c 3 0]) = (.agg (fixM r).1.c) := rselK_at inj89 r89 .any r
theorem hs89 (r : (Rd)) : rselK e89 g89 [] ([.ref 0 0 0], [.row [.ref 1 0 0] 1 0, .row r.c 3 0]) = ([.row [.ref 1 0 0] 1 0, .row (fixM r).2.c 3 0]) := rselK_at inj89 g89 [] r
attribute [push_cast] S89 ps89 rs89 hs89
theorem body89 (Γ : Env) (h82 : Γ 37 = some S82) (h83 : Γ 38 = some S83) (h90 : Γ 45 = some S90) (r : Rd) (hr : r.ok) : BodyOk Tryz.prog Γ Tryz.f44 [.ref 0 0 0] [.row [.ref 1 0 0] 1 0, .row r.c 3 0] (.agg (fixM r).1.c) [.row [.ref 1 0 0] 1 0, .row (fixM r).2.c 3 0] := by
  have h1 := num_ok hr 4294967295
  have h2 := byte_ok h1.1 255
  have h3 := num_ok h2.1 16
  have b2 := byte_b (numM r 4294967295).2 255
  have b3 := num_b (byteM (numM r 4294967295).2 255).2 16
  (intro X hP hΓ hL hfin; refine ⟨_, rfl, ?_⟩; rw [show Tryz.f44.ntmps = 17 from rfl]; rw [show Tryz.f44.results.toList = [.cell 1 58] from rfl] at hfin; apply holds_of_ex X 400; simp (maxSteps := 1000000) only [push_cast, reduceCtorEq, Nat.reduceAdd, Nat.reduceMul, Nat.reduceSub, Nat.reduceBEq, Nat.reduceGT, Nat.reduceLT, Int.toNat_zero, Nat.reduceLeDiff, Int.reduceEq, Int.reduceLT, Int.reduceLE, hP, hΓ, hL, hfin, ↓tm_get, String.reduceEq, not_false_eq_true, if_true, h82, h83, h90])
  (refine Holds.drawnE (patH [.fix (.row [.ref 1 0 0] 1 0), .row 3 0]) [1, 3, 7] [6] [1, 3] true (by rw [hP]; kernel_rfl) (by kernel_rfl) (by kernel_rfl) (by kernel_rfl) (by first | exact .inl rfl | exact .inr fun _ _ h => patH_app _ _ h) (by first | (simp only [push_cast]; done) | (simp only [push_cast, and_true]; omega)) ?_; simp (maxSteps := 1000000) only [↓reduceIte, Option.getD_some, push_cast, reduceCtorEq, Nat.reduceAdd, Nat.reduceMul, Nat.reduceSub, Nat.reduceBEq, Nat.reduceGT, Nat.reduceLT, Int.toNat_zero, Nat.reduceLeDiff, Int.reduceEq, Int.reduceLT, Int.reduceLE, hP, hΓ, hL, hfin, ↓tm_get, String.reduceEq, not_false_eq_true, if_true, h82, h83, h90, wr_i64 ((byteM (numM r 4294967295).2 255).1) (by constructor <;> omega)])
  refine ⟨hr, hr, h1.1, h1.1, ?_⟩
  ((first | with_reducible refine holds_of_ex X 400 _ _ _ ?_ | skip); simp (maxSteps := 1000000) only [push_cast, reduceCtorEq, Nat.reduceAdd, Nat.reduceMul, Nat.reduceSub, Nat.reduceBEq, Nat.reduceGT, Nat.reduceLT, Int.toNat_zero, Nat.reduceLeDiff, Int.reduceEq, Int.reduceLT, Int.reduceLE, hP, hΓ, hL, hfin, ↓tm_get, String.reduceEq, not_false_eq_true, if_true, h82, h83, h90, wr_i64 ((numM (byteM (numM r 4294967295).2 255).2 16).1 - 1) (by constructor <;> omega)])
  refine ⟨h2.1, h3.1, ?_⟩
  simp only [fixM, anyM, Fx.c]
  exact Into.keep2A
theorem con89 {Γ : Env} (h : EnvOk Tryz.prog Γ) (h82 : Γ 37 = some S82) (h83 : Γ 38 = some S83) (h90 : Γ 45 = some S90) : Con Tryz.prog 44 S89 :=
  heapE_con h (fn := Tryz.f44) (by kernel_rfl) rfl (by kernel_rfl) inj89 fun r h => body89 Γ h82 h83 h90 r h
/-- rows: how many there are, and each -/
def rowsM {α : Type} (one : Rd → α × Rd) : Nat → Rd → List α × Rd
  | 0, r => ([], r)
  | n + 1, r => if r.bad < 0 then ((one r).1 :: (rowsM one n (one r).2).1, (rowsM one n (one r).2).2) else ([], r)
def rowsR {α : Type} (one : Rd → α × Rd) (most : Int) (r : Rd) : List α × Rd := rowsM one (numM r most).1.toNat (numM r most).2
/-- a row's states -/
structure RowSt {α : Type} (one : Rd → α × Rd) (N : Nat) (r0 : Rd) where
  l : List α
  r : Rd
  c : Nat
  ok : r.ok
  len : l.length + c = N
  eq : rowsM one N r0 = (l ++ (rowsM one c r).1, (rowsM one c r).2)
def RowSt.init {α : Type} (one : Rd → α × Rd) (N : Nat) (r0 : Rd) (h : r0.ok) : RowSt one N r0 := ⟨[], r0, N, h, by simp, by simp⟩
def RowSt.next {α : Type} {one : Rd → α × Rd} {N : Nat} {r0 : Rd} (s : RowSt one N r0) (hok : ∀ r : Rd, r.ok → (one r).2.ok) (hc : 0 < s.c) (hb : s.r.bad < 0) : RowSt one N r0 :=
  ⟨s.l ++ [(one s.r).1], (one s.r).2, s.c - 1, hok _ s.ok, by have := s.len; simp; omega, by
    rw [s.eq]
    obtain ⟨c, hc'⟩ : ∃ c, s.c = c + 1 := ⟨s.c - 1, by omega⟩
    rw [hc', rowsM, if_pos hb]
    simp⟩
theorem RowSt.done {α : Type} {one : Rd → α × Rd} {N : Nat} {r0 : Rd} (s : RowSt one N r0) (h : s.c = 0 ∨ ¬ s.r.bad < 0) : rowsM one N r0 = (s.l, s.r) := by
  rw [s.eq]
  rcases h with h | h
  · rw [h]; simp [rowsM]
  · cases hc : s.c with
    | zero => simp [rowsM]
    | succ c => rw [rowsM, if_neg h]; simp
def e77 : (Rd) → List AV × Heap := fun r => ([.ref 0 0 0, .int .u32 16, .fn (.func 33) [] [.ref 1 0 0]], [.row r.c 3 0, .row [.ref 0 0 0] 1 0])
def p77 : (Rd) → Prop := fun r => r.ok
def r77 : (Rd) → AV := fun r => .sl ((rowsR importM 16 r).1.flatMap Im.c) (rowsR importM 16 r).1.length
def g77 : (Rd) → Heap := fun r => [.row (rowsR importM 16 r).2.c 3 0, .row [.ref 0 0 0] 1 0]
theorem inj77 : ∀ a b, e77 a = e77 b → a = b := by
  rintro r r' h
  simp only [e77, mi_iff, ms_iff, mb_iff, my_iff, rc_iff, Prod.mk.injEq, List.cons.injEq, AObj.row.injEq, AV.int.injEq, AV.str.injEq, AV.bool.injEq, AV.sl.injEq, AV.agg.injEq, AV.ip.injEq, AV.fn.injEq, AV.ifc.injEq, AV.mpr.injEq, AV.msl.injEq, AV.ref.injEq, Int.natCast_inj, and_true, true_and] at h
  simp_all only
noncomputable def S77 : FSpec := heapE false e77 p77 r77 g77
theorem ps77 (r : (Rd)) : pselK e77 p77 ([.ref 0 0 0, .int .u32 16, .fn (.func 33) [] [.ref 1 0 0]], [.row r.c 3 0, .row [.ref 0 0 0] 1 0]) = (r.ok) := pselK_at inj77 p77 r
theorem rs77 (r : (Rd)) : rselK e77 r77 .any ([.ref 0 0 0, .int .u32 16, .fn (.func 33) [] [.ref 1 0 0]], [.row r.c 3 0, .row [.ref 0 0 0] 1 0]) = (.sl ((rowsR importM 16 r).1.flatMap Im.c) (rowsR importM 16 r).1.length) := rselK_at inj77 r77 .any r
theorem hs77 (r : (Rd)) : rselK e77 g77 [] ([.ref 0 0 0, .int .u32 16, .fn (.func 33) [] [.ref 1 0 0]], [.row r.c 3 0, .row [.ref 0 0 0] 1 0]) = ([.row (rowsR importM 16 r).2.c 3 0, .row [.ref 0 0 0] 1 0]) := rselK_at inj77 g77 [] r
attribute [push_cast] S77 ps77 rs77 hs77
theorem body77 (Γ : Env) (h78 : Γ 33 = some S78) (h90 : Γ 45 = some S90) (r : Rd) (hr : r.ok) : BodyOk Tryz.prog Γ Tryz.f32 [.ref 0 0 0, .int .u32 16, .fn (.func 33) [] [.ref 1 0 0]] [.row r.c 3 0, .row [.ref 0 0 0] 1 0] (.sl ((rowsR importM 16 r).1.flatMap Im.c) (rowsR importM 16 r).1.length) [.row (rowsR importM 16 r).2.c 3 0, .row [.ref 0 0 0] 1 0] := by
  have h1 := num_ok hr 16
  have b1 := num_b r 16
  (intro X hP hΓ hL hfin; refine ⟨_, rfl, ?_⟩; rw [show Tryz.f32.ntmps = 29 from rfl]; rw [show Tryz.f32.results.toList = [.tmp 6] from rfl] at hfin; apply holds_of_ex X 400; simp (maxSteps := 1000000) only [push_cast, reduceCtorEq, Nat.reduceAdd, Nat.reduceMul, Nat.reduceSub, Nat.reduceBEq, Nat.reduceGT, Nat.reduceLT, Int.toNat_zero, Nat.reduceLeDiff, Int.reduceEq, Int.reduceLT, Int.reduceLE, hP, hΓ, hL, hfin, ↓tm_get, String.reduceEq, not_false_eq_true, if_true, h90])
  refine ⟨hr, ?_⟩
  refine Holds.loopM (ι := RowSt importM (numM r 16).1.toNat (numM r 16).2) [true, false, true, false, false, false, true, false, false, false, false, false, false, false, false, false, false, false, false, false, false, false, false, false, false, false, false, false, false] (fun i => [(7, .msl 2 i.l.length 0 i.l.length), (8, .int .i64 i.c)]) (fun i => [.row i.r.c 3 0, .row [.ref 0 0 0] 1 0, .row (i.l.flatMap Im.c) 2 i.l.length]) (fun i => i.c) (RowSt.init _ _ _ h1.1) ?_ ?_
  · rw [hL]; simp only [push_cast, Int.natCast_zero]
    (refine IntoF.nil 7  2 rfl ?_; simp only [push_cast, reduceCtorEq, Nat.reduceAdd, Nat.reduceMul, Nat.reduceSub, Nat.reduceBEq, Nat.reduceGT, Nat.reduceLT, Int.toNat_zero, Nat.reduceLeDiff, Int.reduceEq, Int.reduceLT, Int.reduceLE])
    simp only [RowSt.init, List.map_nil, List.flatMap_nil, List.length_nil, Int.toNat_of_nonneg b1.1]
    exact Into.sameA
  intro s
  have hl := s.len
  ((first | with_reducible refine holds_of_ex X 400 _ _ _ ?_ | skip); simp (maxSteps := 1000000) only [push_cast, reduceCtorEq, Nat.reduceAdd, Nat.reduceMul, Nat.reduceSub, Nat.reduceBEq, Nat.reduceGT, Nat.reduceLT, Int.toNat_zero, Nat.reduceLeDiff, Int.reduceEq, Int.reduceLT, Int.reduceLE, hP, hΓ, hL, hfin, ↓tm_get, String.reduceEq, not_false_eq_true, if_true])
  ((with_reducible refine exB_split (fun h => ?_) (fun h => ?_)) <;> (try simp only [decide_eq_true_eq, decide_eq_false_iff_not, Bool.and_eq_true, Bool.or_eq_true, Bool.and_eq_false_iff, Bool.or_eq_false_iff, Bool.not_eq_true', Bool.not_eq_false', Bool.not_eq_true, Bool.not_eq_false, Int.not_lt, Int.not_le, beq_iff_eq, beq_eq_false_iff_ne, ne_eq, win_t, win_f] at h))
  · ((first | with_reducible refine holds_of_ex X 400 _ _ _ ?_ | skip); simp (maxSteps := 1000000) only [push_cast, reduceCtorEq, Nat.reduceAdd, Nat.reduceMul, Nat.reduceSub, Nat.reduceBEq, Nat.reduceGT, Nat.reduceLT, Int.toNat_zero, Nat.reduceLeDiff, Int.reduceEq, Int.reduceLT, Int.reduceLE, hP, hΓ, hL, hfin, ↓tm_get, String.reduceEq, not_false_eq_true, if_true, h78, wr_i64 ((s.c : Int) - 1) (by constructor <;> omega)])
    refine ⟨s.ok, by omega, s.next (fun r hr => (import_ok hr).1) (by omega) h.2, by simp only [RowSt.next]; omega, ?_⟩
    simp only [RowSt.next, List.map_append, List.map_cons, List.map_nil, List.flatMap_append, List.flatMap_cons, List.flatMap_nil, List.append_nil, List.length_append, List.length_cons, List.length_nil, Nat.zero_add, show ((s.c - 1 : Nat) : Int) = (s.c : Int) - 1 by omega]
    exact Into.sameA
  · ((first | with_reducible refine holds_of_ex X 400 _ _ _ ?_ | skip); simp (maxSteps := 1000000) only [push_cast, reduceCtorEq, Nat.reduceAdd, Nat.reduceMul, Nat.reduceSub, Nat.reduceBEq, Nat.reduceGT, Nat.reduceLT, Int.toNat_zero, Nat.reduceLeDiff, Int.reduceEq, Int.reduceLT, Int.reduceLE, hP, hΓ, hL, hfin, ↓tm_get, String.reduceEq, not_false_eq_true, if_true])
    (refine IntoF.frz 2 (by simp only [push_cast, reduceCtorEq, Nat.reduceAdd, Nat.reduceMul, Nat.reduceSub, Nat.reduceBEq, Nat.reduceGT, Nat.reduceLT, Int.toNat_zero, Nat.reduceLeDiff, Int.reduceEq, Int.reduceLT, Int.reduceLE]; first | done | decide | omega) (by simp only [frzOk', frzOk, isMap, or_true, true_or, push_cast, reduceCtorEq, Nat.reduceAdd, Nat.reduceMul, Nat.reduceSub, Nat.reduceBEq, Nat.reduceGT, Nat.reduceLT, Int.toNat_zero, Nat.reduceLeDiff, Int.reduceEq, Int.reduceLT, Int.reduceLE]) ?_; simp only [push_cast, reduceCtorEq, Nat.reduceAdd, Nat.reduceMul, Nat.reduceSub, Nat.reduceBEq, Nat.reduceGT, Nat.reduceLT, Int.toNat_zero, Nat.reduceLeDiff, Int.reduceEq, Int.reduceLT, Int.reduceLE])
    simp only [tk_map, tk_fm]
    rw [show rowsR importM 16 r = (s.l, s.r) from s.done (by omega)]
    exact Into.keep2A
theorem con77 {Γ : Env} (h : EnvOk Tryz.prog Γ) (h78 : Γ 33 = some S78) (h90 : Γ 45 = some S90) : Con Tryz.prog 32 S77 :=
  heapE_con h (fn := Tryz.f32) (by kernel_rfl) rfl (by kernel_rfl) inj77 fun r h => body77 Γ h78 h90 r h
def e79 : (Rd) → List AV × Heap := fun r => ([.ref 0 0 0, .int .u32 65536, .fn (.func 31) [.ref 0 0 0] []], [.row r.c 3 0])
def p79 : (Rd) → Prop := fun r => r.ok
def r79 : (Rd) → AV := fun r => .sl ((rowsR wordM 65536 r).1.map (.int .u32)) (rowsR wordM 65536 r).1.length
def g79 : (Rd) → Heap := fun r => [.row (rowsR wordM 65536 r).2.c 3 0]
theorem inj79 : ∀ a b, e79 a = e79 b → a = b := by
  rintro r r' h
  simp only [e79, mi_iff, ms_iff, mb_iff, my_iff, rc_iff, Prod.mk.injEq, List.cons.injEq, AObj.row.injEq, AV.int.injEq, AV.str.injEq, AV.bool.injEq, AV.sl.injEq, AV.agg.injEq, AV.ip.injEq, AV.fn.injEq, AV.ifc.injEq, AV.mpr.injEq, AV.msl.injEq, AV.ref.injEq, Int.natCast_inj, and_true, true_and] at h
  simp_all only
noncomputable def S79 : FSpec := heapE false e79 p79 r79 g79
theorem ps79 (r : (Rd)) : pselK e79 p79 ([.ref 0 0 0, .int .u32 65536, .fn (.func 31) [.ref 0 0 0] []], [.row r.c 3 0]) = (r.ok) := pselK_at inj79 p79 r
theorem rs79 (r : (Rd)) : rselK e79 r79 .any ([.ref 0 0 0, .int .u32 65536, .fn (.func 31) [.ref 0 0 0] []], [.row r.c 3 0]) = (.sl ((rowsR wordM 65536 r).1.map (.int .u32)) (rowsR wordM 65536 r).1.length) := rselK_at inj79 r79 .any r
theorem hs79 (r : (Rd)) : rselK e79 g79 [] ([.ref 0 0 0, .int .u32 65536, .fn (.func 31) [.ref 0 0 0] []], [.row r.c 3 0]) = ([.row (rowsR wordM 65536 r).2.c 3 0]) := rselK_at inj79 g79 [] r
attribute [push_cast] S79 ps79 rs79 hs79
theorem body79 (Γ : Env) (h76 : Γ 31 = some S76) (h90 : Γ 45 = some S90) (r : Rd) (hr : r.ok) : BodyOk Tryz.prog Γ Tryz.f34 [.ref 0 0 0, .int .u32 65536, .fn (.func 31) [.ref 0 0 0] []] [.row r.c 3 0] (.sl ((rowsR wordM 65536 r).1.map (.int .u32)) (rowsR wordM 65536 r).1.length) [.row (rowsR wordM 65536 r).2.c 3 0] := by
  have h1 := num_ok hr 65536
  have b1 := num_b r 65536
  (intro X hP hΓ hL hfin; refine ⟨_, rfl, ?_⟩; rw [show Tryz.f34.ntmps = 29 from rfl]; rw [show Tryz.f34.results.toList = [.tmp 6] from rfl] at hfin; apply holds_of_ex X 400; simp (maxSteps := 1000000) only [push_cast, reduceCtorEq, Nat.reduceAdd, Nat.reduceMul, Nat.reduceSub, Nat.reduceBEq, Nat.reduceGT, Nat.reduceLT, Int.toNat_zero, Nat.reduceLeDiff, Int.reduceEq, Int.reduceLT, Int.reduceLE, hP, hΓ, hL, hfin, ↓tm_get, String.reduceEq, not_false_eq_true, if_true, h90])
  refine ⟨hr, ?_⟩
  refine Holds.loopM (ι := RowSt wordM (numM r 65536).1.toNat (numM r 65536).2) [true, false, true, false, false, false, true, false, false, false, false, false, false, false, false, false, false, false, false, false, false, false, false, false, false, false, false, false, false] (fun i => [(7, .msl 1 i.l.length 0 i.l.length), (8, .int .i64 i.c)]) (fun i => [.row i.r.c 3 0, .row (i.l.map (.int .u32)) 1 i.l.length]) (fun i => i.c) (RowSt.init _ _ _ h1.1) ?_ ?_
  · rw [hL]; simp only [push_cast, Int.natCast_zero]
    (refine IntoF.nil 7  1 rfl ?_; simp only [push_cast, reduceCtorEq, Nat.reduceAdd, Nat.reduceMul, Nat.reduceSub, Nat.reduceBEq, Nat.reduceGT, Nat.reduceLT, Int.toNat_zero, Nat.reduceLeDiff, Int.reduceEq, Int.reduceLT, Int.reduceLE])
    simp only [RowSt.init, List.map_nil, List.flatMap_nil, List.length_nil, Int.toNat_of_nonneg b1.1]
    exact Into.sameA
  intro s
  have hl := s.len
  ((first | with_reducible refine holds_of_ex X 400 _ _ _ ?_ | skip); simp (maxSteps := 1000000) only [push_cast, reduceCtorEq, Nat.reduceAdd, Nat.reduceMul, Nat.reduceSub, Nat.reduceBEq, Nat.reduceGT, Nat.reduceLT, Int.toNat_zero, Nat.reduceLeDiff, Int.reduceEq, Int.reduceLT, Int.reduceLE, hP, hΓ, hL, hfin, ↓tm_get, String.reduceEq, not_false_eq_true, if_true])
  ((with_reducible refine exB_split (fun h => ?_) (fun h => ?_)) <;> (try simp only [decide_eq_true_eq, decide_eq_false_iff_not, Bool.and_eq_true, Bool.or_eq_true, Bool.and_eq_false_iff, Bool.or_eq_false_iff, Bool.not_eq_true', Bool.not_eq_false', Bool.not_eq_true, Bool.not_eq_false, Int.not_lt, Int.not_le, beq_iff_eq, beq_eq_false_iff_ne, ne_eq, win_t, win_f] at h))
  · ((first | with_reducible refine holds_of_ex X 400 _ _ _ ?_ | skip); simp (maxSteps := 1000000) only [push_cast, reduceCtorEq, Nat.reduceAdd, Nat.reduceMul, Nat.reduceSub, Nat.reduceBEq, Nat.reduceGT, Nat.reduceLT, Int.toNat_zero, Nat.reduceLeDiff, Int.reduceEq, Int.reduceLT, Int.reduceLE, hP, hΓ, hL, hfin, ↓tm_get, String.reduceEq, not_false_eq_true, if_true, h76, wr_i64 ((s.c : Int) - 1) (by constructor <;> omega)])
    refine ⟨s.ok, by omega, s.next (fun r hr => (word_ok hr).1) (by omega) h.2, by simp only [RowSt.next]; omega, ?_⟩
    simp only [RowSt.next, List.map_append, List.map_cons, List.map_nil, List.flatMap_append, List.flatMap_cons, List.flatMap_nil, List.append_nil, List.length_append, List.length_cons, List.length_nil, Nat.zero_add, show ((s.c - 1 : Nat) : Int) = (s.c : Int) - 1 by omega]
    exact Into.sameA
  · ((first | with_reducible refine holds_of_ex X 400 _ _ _ ?_ | skip); simp (maxSteps := 1000000) only [push_cast, reduceCtorEq, Nat.reduceAdd, Nat.reduceMul, Nat.reduceSub, Nat.reduceBEq, Nat.reduceGT, Nat.reduceLT, Int.toNat_zero, Nat.reduceLeDiff, Int.reduceEq, Int.reduceLT, Int.reduceLE, hP, hΓ, hL, hfin, ↓tm_get, String.reduceEq, not_false_eq_true, if_true])
    (refine IntoF.frz 1 (by simp only [push_cast, reduceCtorEq, Nat.reduceAdd, Nat.reduceMul, Nat.reduceSub, Nat.reduceBEq, Nat.reduceGT, Nat.reduceLT, Int.toNat_zero, Nat.reduceLeDiff, Int.reduceEq, Int.reduceLT, Int.reduceLE]; first | done | decide | omega) (by simp only [frzOk', frzOk, isMap, or_true, true_or, push_cast, reduceCtorEq, Nat.reduceAdd, Nat.reduceMul, Nat.reduceSub, Nat.reduceBEq, Nat.reduceGT, Nat.reduceLT, Int.toNat_zero, Nat.reduceLeDiff, Int.reduceEq, Int.reduceLT, Int.reduceLE]) ?_; simp only [push_cast, reduceCtorEq, Nat.reduceAdd, Nat.reduceMul, Nat.reduceSub, Nat.reduceBEq, Nat.reduceGT, Nat.reduceLT, Int.toNat_zero, Nat.reduceLeDiff, Int.reduceEq, Int.reduceLT, Int.reduceLE])
    simp only [tk_map, tk_fm]
    rw [show rowsR wordM 65536 r = (s.l, s.r) from s.done (by omega)]
    exact Into.keep1A
theorem con79 {Γ : Env} (h : EnvOk Tryz.prog Γ) (h76 : Γ 31 = some S76) (h90 : Γ 45 = some S90) : Con Tryz.prog 34 S79 :=
  heapE_con h (fn := Tryz.f34) (by kernel_rfl) rfl (by kernel_rfl) inj79 fun r h => body79 Γ h76 h90 r h
def e84 : (Rd) → List AV × Heap := fun r => ([.ref 0 0 0, .int .u32 200, .fn (.func 40) [] [.ref 1 0 0]], [.row r.c 3 0, .row [.ref 0 0 0] 1 0])
def p84 : (Rd) → Prop := fun r => r.ok
def r84 : (Rd) → AV := fun r => .sl ((rowsR (fun r => textM r 200) 200 r).1.map .str) (rowsR (fun r => textM r 200) 200 r).1.length
def g84 : (Rd) → Heap := fun r => [.row (rowsR (fun r => textM r 200) 200 r).2.c 3 0, .row [.ref 0 0 0] 1 0]
theorem inj84 : ∀ a b, e84 a = e84 b → a = b := by
  rintro r r' h
  simp only [e84, mi_iff, ms_iff, mb_iff, my_iff, rc_iff, Prod.mk.injEq, List.cons.injEq, AObj.row.injEq, AV.int.injEq, AV.str.injEq, AV.bool.injEq, AV.sl.injEq, AV.agg.injEq, AV.ip.injEq, AV.fn.injEq, AV.ifc.injEq, AV.mpr.injEq, AV.msl.injEq, AV.ref.injEq, Int.natCast_inj, and_true, true_and] at h
  simp_all only
noncomputable def S84 : FSpec := heapE false e84 p84 r84 g84
theorem ps84 (r : (Rd)) : pselK e84 p84 ([.ref 0 0 0, .int .u32 200, .fn (.func 40) [] [.ref 1 0 0]], [.row r.c 3 0, .row [.ref 0 0 0] 1 0]) = (r.ok) := pselK_at inj84 p84 r
theorem rs84 (r : (Rd)) : rselK e84 r84 .any ([.ref 0 0 0, .int .u32 200, .fn (.func 40) [] [.ref 1 0 0]], [.row r.c 3 0, .row [.ref 0 0 0] 1 0]) = (.sl ((rowsR (fun r => textM r 200) 200 r).1.map .str) (rowsR (fun r => textM r 200) 200 r).1.length) := rselK_at inj84 r84 .any r
theorem hs84 (r : (Rd)) : rselK e84 g84 [] ([.ref 0 0 0, .int .u32 200, .fn (.func 40) [] [.ref 1 0 0]], [.row r.c 3 0, .row [.ref 0 0 0] 1 0]) = ([.row (rowsR (fun r => textM r 200) 200 r).2.c 3 0, .row [.ref 0 0 0] 1 0]) := rselK_at inj84 g84 [] r
attribute [push_cast] S84 ps84 rs84 hs84
theorem body84 (Γ : Env) (h85 : Γ 40 = some S85) (h90 : Γ 45 = some S90) (r : Rd) (hr : r.ok) : BodyOk Tryz.prog Γ Tryz.f39 [.ref 0 0 0, .int .u32 200, .fn (.func 40) [] [.ref 1 0 0]] [.row r.c 3 0, .row [.ref 0 0 0] 1 0] (.sl ((rowsR (fun r => textM r 200) 200 r).1.map .str) (rowsR (fun r => textM r 200) 200 r).1.length) [.row (rowsR (fun r => textM r 200) 200 r).2.c 3 0, .row [.ref 0 0 0] 1 0] := by
  have h1 := num_ok hr 200
  have b1 := num_b r 200
  (intro X hP hΓ hL hfin; refine ⟨_, rfl, ?_⟩; rw [show Tryz.f39.ntmps = 29 from rfl]; rw [show Tryz.f39.results.toList = [.tmp 6] from rfl] at hfin; apply holds_of_ex X 400; simp (maxSteps := 1000000) only [push_cast, reduceCtorEq, Nat.reduceAdd, Nat.reduceMul, Nat.reduceSub, Nat.reduceBEq, Nat.reduceGT, Nat.reduceLT, Int.toNat_zero, Nat.reduceLeDiff, Int.reduceEq, Int.reduceLT, Int.reduceLE, hP, hΓ, hL, hfin, ↓tm_get, String.reduceEq, not_false_eq_true, if_true, h90])
  refine ⟨hr, ?_⟩
  refine Holds.loopM (ι := RowSt (fun r => textM r 200) (numM r 200).1.toNat (numM r 200).2) [true, false, true, false, false, false, true, false, false, false, false, false, false, false, false, false, false, false, false, false, false, false, false, false, false, false, false, false, false] (fun i => [(7, .msl 2 i.l.length 0 i.l.length), (8, .int .i64 i.c)]) (fun i => [.row i.r.c 3 0, .row [.ref 0 0 0] 1 0, .row (i.l.map .str) 1 i.l.length]) (fun i => i.c) (RowSt.init _ _ _ h1.1) ?_ ?_
  · rw [hL]; simp only [push_cast, Int.natCast_zero]
    (refine IntoF.nil 7  1 rfl ?_; simp only [push_cast, reduceCtorEq, Nat.reduceAdd, Nat.reduceMul, Nat.reduceSub, Nat.reduceBEq, Nat.reduceGT, Nat.reduceLT, Int.toNat_zero, Nat.reduceLeDiff, Int.reduceEq, Int.reduceLT, Int.reduceLE])
    simp only [RowSt.init, List.map_nil, List.flatMap_nil, List.length_nil, Int.toNat_of_nonneg b1.1]
    exact Into.sameA
  intro s
  have hl := s.len
  ((first | with_reducible refine holds_of_ex X 400 _ _ _ ?_ | skip); simp (maxSteps := 1000000) only [push_cast, reduceCtorEq, Nat.reduceAdd, Nat.reduceMul, Nat.reduceSub, Nat.reduceBEq, Nat.reduceGT, Nat.reduceLT, Int.toNat_zero, Nat.reduceLeDiff, Int.reduceEq, Int.reduceLT, Int.reduceLE, hP, hΓ, hL, hfin, ↓tm_get, String.reduceEq, not_false_eq_true, if_true])
  ((with_reducible refine exB_split (fun h => ?_) (fun h => ?_)) <;> (try simp only [decide_eq_true_eq, decide_eq_false_iff_not, Bool.and_eq_true, Bool.or_eq_true, Bool.and_eq_false_iff, Bool.or_eq_false_iff, Bool.not_eq_true', Bool.not_eq_false', Bool.not_eq_true, Bool.not_eq_false, Int.not_lt, Int.not_le, beq_iff_eq, beq_eq_false_iff_ne, ne_eq, win_t, win_f] at h))
  · ((first | with_reducible refine holds_of_ex X 400 _ _ _ ?_ | skip); simp (maxSteps := 1000000) only [push_cast, reduceCtorEq, Nat.reduceAdd, Nat.reduceMul, Nat.reduceSub, Nat.reduceBEq, Nat.reduceGT, Nat.reduceLT, Int.toNat_zero, Nat.reduceLeDiff, Int.reduceEq, Int.reduceLT, Int.reduceLE, hP, hΓ, hL, hfin, ↓tm_get, String.reduceEq, not_false_eq_true, if_true, h85, wr_i64 ((s.c : Int) - 1) (by constructor <;> omega)])
    refine ⟨s.ok, by omega, s.next (fun r hr => (text_ok hr 200).1) (by omega) h.2, by simp only [RowSt.next]; omega, ?_⟩
    simp only [RowSt.next, List.map_append, List.map_cons, List.map_nil, List.flatMap_append, List.flatMap_cons, List.flatMap_nil, List.append_nil, List.length_append, List.length_cons, List.length_nil, Nat.zero_add, show ((s.c - 1 : Nat) : Int) = (s.c : Int) - 1 by omega]
    exact Into.sameA
  · ((first | with_reducible refine holds_of_ex X 400 _ _ _ ?_ | skip); simp (maxSteps := 1000000) only [push_cast, reduceCtorEq, Nat.reduceAdd, Nat.reduceMul, Nat.reduceSub, Nat.reduceBEq, Nat.reduceGT, Nat.reduceLT, Int.toNat_zero, Nat.reduceLeDiff, Int.reduceEq, Int.reduceLT, Int.reduceLE, hP, hΓ, hL, hfin, ↓tm_get, String.reduceEq, not_false_eq_true, if_true])
    (refine IntoF.frz 2 (by simp only [push_cast, reduceCtorEq, Nat.reduceAdd, Nat.reduceMul, Nat.reduceSub, Nat.reduceBEq, Nat.reduceGT, Nat.reduceLT, Int.toNat_zero, Nat.reduceLeDiff, Int.reduceEq, Int.reduceLT, Int.reduceLE]; first | done | decide | omega) (by simp only [frzOk', frzOk, isMap, or_true, true_or, push_cast, reduceCtorEq, Nat.reduceAdd, Nat.reduceMul, Nat.reduceSub, Nat.reduceBEq, Nat.reduceGT, Nat.reduceLT, Int.toNat_zero, Nat.reduceLeDiff, Int.reduceEq, Int.reduceLT, Int.reduceLE]) ?_; simp only [push_cast, reduceCtorEq, Nat.reduceAdd, Nat.reduceMul, Nat.reduceSub, Nat.reduceBEq, Nat.reduceGT, Nat.reduceLT, Int.toNat_zero, Nat.reduceLeDiff, Int.reduceEq, Int.reduceLT, Int.reduceLE])
    simp only [tk_map, tk_fm]
    rw [show rowsR (fun r => textM r 200) 200 r = (s.l, s.r) from s.done (by omega)]
    exact Into.keep2A
theorem con84 {Γ : Env} (h : EnvOk Tryz.prog Γ) (h85 : Γ 40 = some S85) (h90 : Γ 45 = some S90) : Con Tryz.prog 39 S84 :=
  heapE_con h (fn := Tryz.f39) (by kernel_rfl) rfl (by kernel_rfl) inj84 fun r h => body84 Γ h85 h90 r h
def e88 : (Rd) → List AV × Heap := fun r => ([.ref 0 0 0, .int .u32 65536, .fn (.func 44) [] [.ref 1 0 0]], [.row r.c 3 0, .row [.ref 0 0 0] 1 0])
def p88 : (Rd) → Prop := fun r => r.ok
def r88 : (Rd) → AV := fun r => .sl ((rowsR fixM 65536 r).1.flatMap Fx.c) (rowsR fixM 65536 r).1.length
def g88 : (Rd) → Heap := fun r => [.row (rowsR fixM 65536 r).2.c 3 0, .row [.ref 0 0 0] 1 0]
theorem inj88 : ∀ a b, e88 a = e88 b → a = b := by
  rintro r r' h
  simp only [e88, mi_iff, ms_iff, mb_iff, my_iff, rc_iff, Prod.mk.injEq, List.cons.injEq, AObj.row.injEq, AV.int.injEq, AV.str.injEq, AV.bool.injEq, AV.sl.injEq, AV.agg.injEq, AV.ip.injEq, AV.fn.injEq, AV.ifc.injEq, AV.mpr.injEq, AV.msl.injEq, AV.ref.injEq, Int.natCast_inj, and_true, true_and] at h
  simp_all only
noncomputable def S88 : FSpec := heapE false e88 p88 r88 g88
theorem ps88 (r : (Rd)) : pselK e88 p88 ([.ref 0 0 0, .int .u32 65536, .fn (.func 44) [] [.ref 1 0 0]], [.row r.c 3 0, .row [.ref 0 0 0] 1 0]) = (r.ok) := pselK_at inj88 p88 r
theorem rs88 (r : (Rd)) : rselK e88 r88 .any ([.ref 0 0 0, .int .u32 65536, .fn (.func 44) [] [.ref 1 0 0]], [.row r.c 3 0, .row [.ref 0 0 0] 1 0]) = (.sl ((rowsR fixM 65536 r).1.flatMap Fx.c) (rowsR fixM 65536 r).1.length) := rselK_at inj88 r88 .any r
theorem hs88 (r : (Rd)) : rselK e88 g88 [] ([.ref 0 0 0, .int .u32 65536, .fn (.func 44) [] [.ref 1 0 0]], [.row r.c 3 0, .row [.ref 0 0 0] 1 0]) = ([.row (rowsR fixM 65536 r).2.c 3 0, .row [.ref 0 0 0] 1 0]) := rselK_at inj88 g88 [] r
attribute [push_cast] S88 ps88 rs88 hs88
theorem body88 (Γ : Env) (h89 : Γ 44 = some S89) (h90 : Γ 45 = some S90) (r : Rd) (hr : r.ok) : BodyOk Tryz.prog Γ Tryz.f43 [.ref 0 0 0, .int .u32 65536, .fn (.func 44) [] [.ref 1 0 0]] [.row r.c 3 0, .row [.ref 0 0 0] 1 0] (.sl ((rowsR fixM 65536 r).1.flatMap Fx.c) (rowsR fixM 65536 r).1.length) [.row (rowsR fixM 65536 r).2.c 3 0, .row [.ref 0 0 0] 1 0] := by
  have h1 := num_ok hr 65536
  have b1 := num_b r 65536
  (intro X hP hΓ hL hfin; refine ⟨_, rfl, ?_⟩; rw [show Tryz.f43.ntmps = 29 from rfl]; rw [show Tryz.f43.results.toList = [.tmp 6] from rfl] at hfin; apply holds_of_ex X 400; simp (maxSteps := 1000000) only [push_cast, reduceCtorEq, Nat.reduceAdd, Nat.reduceMul, Nat.reduceSub, Nat.reduceBEq, Nat.reduceGT, Nat.reduceLT, Int.toNat_zero, Nat.reduceLeDiff, Int.reduceEq, Int.reduceLT, Int.reduceLE, hP, hΓ, hL, hfin, ↓tm_get, String.reduceEq, not_false_eq_true, if_true, h90])
  refine ⟨hr, ?_⟩
  refine Holds.loopM (ι := RowSt fixM (numM r 65536).1.toNat (numM r 65536).2) [true, false, true, false, false, false, true, false, false, false, false, false, false, false, false, false, false, false, false, false, false, false, false, false, false, false, false, false, false] (fun i => [(7, .msl 2 i.l.length 0 i.l.length), (8, .int .i64 i.c)]) (fun i => [.row i.r.c 3 0, .row [.ref 0 0 0] 1 0, .row (i.l.flatMap Fx.c) 4 i.l.length]) (fun i => i.c) (RowSt.init _ _ _ h1.1) ?_ ?_
  · rw [hL]; simp only [push_cast, Int.natCast_zero]
    (refine IntoF.nil 7  4 rfl ?_; simp only [push_cast, reduceCtorEq, Nat.reduceAdd, Nat.reduceMul, Nat.reduceSub, Nat.reduceBEq, Nat.reduceGT, Nat.reduceLT, Int.toNat_zero, Nat.reduceLeDiff, Int.reduceEq, Int.reduceLT, Int.reduceLE])
    simp only [RowSt.init, List.map_nil, List.flatMap_nil, List.length_nil, Int.toNat_of_nonneg b1.1]
    exact Into.sameA
  intro s
  have hl := s.len
  ((first | with_reducible refine holds_of_ex X 400 _ _ _ ?_ | skip); simp (maxSteps := 1000000) only [push_cast, reduceCtorEq, Nat.reduceAdd, Nat.reduceMul, Nat.reduceSub, Nat.reduceBEq, Nat.reduceGT, Nat.reduceLT, Int.toNat_zero, Nat.reduceLeDiff, Int.reduceEq, Int.reduceLT, Int.reduceLE, hP, hΓ, hL, hfin, ↓tm_get, String.reduceEq, not_false_eq_true, if_true])
  ((with_reducible refine exB_split (fun h => ?_) (fun h => ?_)) <;> (try simp only [decide_eq_true_eq, decide_eq_false_iff_not, Bool.and_eq_true, Bool.or_eq_true, Bool.and_eq_false_iff, Bool.or_eq_false_iff, Bool.not_eq_true', Bool.not_eq_false', Bool.not_eq_true, Bool.not_eq_false, Int.not_lt, Int.not_le, beq_iff_eq, beq_eq_false_iff_ne, ne_eq, win_t, win_f] at h))
  · ((first | with_reducible refine holds_of_ex X 400 _ _ _ ?_ | skip); simp (maxSteps := 1000000) only [push_cast, reduceCtorEq, Nat.reduceAdd, Nat.reduceMul, Nat.reduceSub, Nat.reduceBEq, Nat.reduceGT, Nat.reduceLT, Int.toNat_zero, Nat.reduceLeDiff, Int.reduceEq, Int.reduceLT, Int.reduceLE, hP, hΓ, hL, hfin, ↓tm_get, String.reduceEq, not_false_eq_true, if_true, h89, wr_i64 ((s.c : Int) - 1) (by constructor <;> omega)])
    refine ⟨s.ok, by omega, s.next (fun r hr => (fix_ok hr).1) (by omega) h.2, by simp only [RowSt.next]; omega, ?_⟩
    simp only [RowSt.next, List.map_append, List.map_cons, List.map_nil, List.flatMap_append, List.flatMap_cons, List.flatMap_nil, List.append_nil, List.length_append, List.length_cons, List.length_nil, Nat.zero_add, show ((s.c - 1 : Nat) : Int) = (s.c : Int) - 1 by omega]
    exact Into.sameA
  · ((first | with_reducible refine holds_of_ex X 400 _ _ _ ?_ | skip); simp (maxSteps := 1000000) only [push_cast, reduceCtorEq, Nat.reduceAdd, Nat.reduceMul, Nat.reduceSub, Nat.reduceBEq, Nat.reduceGT, Nat.reduceLT, Int.toNat_zero, Nat.reduceLeDiff, Int.reduceEq, Int.reduceLT, Int.reduceLE, hP, hΓ, hL, hfin, ↓tm_get, String.reduceEq, not_false_eq_true, if_true])
    (refine IntoF.frz 2 (by simp only [push_cast, reduceCtorEq, Nat.reduceAdd, Nat.reduceMul, Nat.reduceSub, Nat.reduceBEq, Nat.reduceGT, Nat.reduceLT, Int.toNat_zero, Nat.reduceLeDiff, Int.reduceEq, Int.reduceLT, Int.reduceLE]; first | done | decide | omega) (by simp only [frzOk', frzOk, isMap, or_true, true_or, push_cast, reduceCtorEq, Nat.reduceAdd, Nat.reduceMul, Nat.reduceSub, Nat.reduceBEq, Nat.reduceGT, Nat.reduceLT, Int.toNat_zero, Nat.reduceLeDiff, Int.reduceEq, Int.reduceLT, Int.reduceLE]) ?_; simp only [push_cast, reduceCtorEq, Nat.reduceAdd, Nat.reduceMul, Nat.reduceSub, Nat.reduceBEq, Nat.reduceGT, Nat.reduceLT, Int.toNat_zero, Nat.reduceLeDiff, Int.reduceEq, Int.reduceLT, Int.reduceLE])
    simp only [tk_map, tk_fm]
    rw [show rowsR fixM 65536 r = (s.l, s.r) from s.done (by omega)]
    exact Into.keep2A
theorem con88 {Γ : Env} (h : EnvOk Tryz.prog Γ) (h89 : Γ 44 = some S89) (h90 : Γ 45 = some S90) : Con Tryz.prog 43 S88 :=
  heapE_con h (fn := Tryz.f43) (by kernel_rfl) rfl (by kernel_rfl) inj88 fun r h => body88 Γ h89 h90 r h
theorem body80a (Γ : Env) (h82 : Γ 37 = some S82) (h90 : Γ 45 = some S90) (r : Rd) (m : Int) (hr : r.ok) : BodyOk Tryz.prog Γ Tryz.f35 [.ref 0 0 0, .int .u32 m, .fn (.func 37) [.ref 0 0 0] []] [.row r.c 3 0] (.sl ((rowsR anyM m r).1.map (.int .i64)) (rowsR anyM m r).1.length) [.row (rowsR anyM m r).2.c 3 0] := by
  have h1 := num_ok hr m
  have b1 := num_b r m
  (intro X hP hΓ hL hfin; refine ⟨_, rfl, ?_⟩; rw [show Tryz.f35.ntmps = 29 from rfl]; rw [show Tryz.f35.results.toList = [.tmp 6] from rfl] at hfin; apply holds_of_ex X 400; simp (maxSteps := 1000000) only [push_cast, reduceCtorEq, Nat.reduceAdd, Nat.reduceMul, Nat.reduceSub, Nat.reduceBEq, Nat.reduceGT, Nat.reduceLT, Int.toNat_zero, Nat.reduceLeDiff, Int.reduceEq, Int.reduceLT, Int.reduceLE, hP, hΓ, hL, hfin, ↓tm_get, String.reduceEq, not_false_eq_true, if_true, h90])
  refine ⟨hr, ?_⟩
  refine Holds.loopM (ι := RowSt anyM (numM r m).1.toNat (numM r m).2) [true, false, true, false, false, false, true, false, false, false, false, false, false, false, false, false, false, false, false, false, false, false, false, false, false, false, false, false, false] (fun i => [(7, .msl 1 i.l.length 0 i.l.length), (8, .int .i64 i.c)]) (fun i => [.row i.r.c 3 0, .row (i.l.map (.int .i64)) 1 i.l.length]) (fun i => i.c) (RowSt.init _ _ _ h1.1) ?_ ?_
  · rw [hL]; simp only [push_cast, Int.natCast_zero]
    (refine IntoF.nil 7  1 rfl ?_; simp only [push_cast, reduceCtorEq, Nat.reduceAdd, Nat.reduceMul, Nat.reduceSub, Nat.reduceBEq, Nat.reduceGT, Nat.reduceLT, Int.toNat_zero, Nat.reduceLeDiff, Int.reduceEq, Int.reduceLT, Int.reduceLE])
    simp only [RowSt.init, List.map_nil, List.flatMap_nil, List.length_nil, Int.toNat_of_nonneg b1.1]
    exact Into.sameA
  intro s
  have hl := s.len
  ((first | with_reducible refine holds_of_ex X 400 _ _ _ ?_ | skip); simp (maxSteps := 1000000) only [push_cast, reduceCtorEq, Nat.reduceAdd, Nat.reduceMul, Nat.reduceSub, Nat.reduceBEq, Nat.reduceGT, Nat.reduceLT, Int.toNat_zero, Nat.reduceLeDiff, Int.reduceEq, Int.reduceLT, Int.reduceLE, hP, hΓ, hL, hfin, ↓tm_get, String.reduceEq, not_false_eq_true, if_true])
  ((with_reducible refine exB_split (fun h => ?_) (fun h => ?_)) <;> (try simp only [decide_eq_true_eq, decide_eq_false_iff_not, Bool.and_eq_true, Bool.or_eq_true, Bool.and_eq_false_iff, Bool.or_eq_false_iff, Bool.not_eq_true', Bool.not_eq_false', Bool.not_eq_true, Bool.not_eq_false, Int.not_lt, Int.not_le, beq_iff_eq, beq_eq_false_iff_ne, ne_eq, win_t, win_f] at h))
  · ((first | with_reducible refine holds_of_ex X 400 _ _ _ ?_ | skip); simp (maxSteps := 1000000) only [push_cast, reduceCtorEq, Nat.reduceAdd, Nat.reduceMul, Nat.reduceSub, Nat.reduceBEq, Nat.reduceGT, Nat.reduceLT, Int.toNat_zero, Nat.reduceLeDiff, Int.reduceEq, Int.reduceLT, Int.reduceLE, hP, hΓ, hL, hfin, ↓tm_get, String.reduceEq, not_false_eq_true, if_true, h82, wr_i64 ((s.c : Int) - 1) (by constructor <;> omega)])
    refine ⟨s.ok, by omega, s.next (fun r hr => (num_ok hr _).1) (by omega) h.2, by simp only [RowSt.next]; omega, ?_⟩
    simp only [RowSt.next, List.map_append, List.map_cons, List.map_nil, List.flatMap_append, List.flatMap_cons, List.flatMap_nil, List.append_nil, List.length_append, List.length_cons, List.length_nil, Nat.zero_add, show ((s.c - 1 : Nat) : Int) = (s.c : Int) - 1 by omega]
    exact Into.sameA
  · ((first | with_reducible refine holds_of_ex X 400 _ _ _ ?_ | skip); simp (maxSteps := 1000000) only [push_cast, reduceCtorEq, Nat.reduceAdd, Nat.reduceMul, Nat.reduceSub, Nat.reduceBEq, Nat.reduceGT, Nat.reduceLT, Int.toNat_zero, Nat.reduceLeDiff, Int.reduceEq, Int.reduceLT, Int.reduceLE, hP, hΓ, hL, hfin, ↓tm_get, String.reduceEq, not_false_eq_true, if_true])
    (refine IntoF.frz 1 (by simp only [push_cast, reduceCtorEq, Nat.reduceAdd, Nat.reduceMul, Nat.reduceSub, Nat.reduceBEq, Nat.reduceGT, Nat.reduceLT, Int.toNat_zero, Nat.reduceLeDiff, Int.reduceEq, Int.reduceLT, Int.reduceLE]; first | done | decide | omega) (by simp only [frzOk', frzOk, isMap, or_true, true_or, push_cast, reduceCtorEq, Nat.reduceAdd, Nat.reduceMul, Nat.reduceSub, Nat.reduceBEq, Nat.reduceGT, Nat.reduceLT, Int.toNat_zero, Nat.reduceLeDiff, Int.reduceEq, Int.reduceLT, Int.reduceLE]) ?_; simp only [push_cast, reduceCtorEq, Nat.reduceAdd, Nat.reduceMul, Nat.reduceSub, Nat.reduceBEq, Nat.reduceGT, Nat.reduceLT, Int.toNat_zero, Nat.reduceLeDiff, Int.reduceEq, Int.reduceLT, Int.reduceLE])
    simp only [tk_map, tk_fm]
    rw [show rowsR anyM m r = (s.l, s.r) from s.done (by omega)]
    exact Into.keep1A
end Go.Proofs.YtmilngcgcolpbaaGreat.objDone
