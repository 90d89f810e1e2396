/- Of objects: what a reader's rows ask for: procedures, descriptors. Conditions stand in each. -/
import Derived.Test.YtmilngcgcolpbaaGreatQD
namespace Go.Proofs.YtmilngcgcolpbaaGreat.objDone
open Go Go.Eng Go.Proofs
set_option linter.unusedVariables false
set_option linter.unusedSimpArgs false
set_option maxRecDepth 100000
set_option maxHeartbeats 4000000
/-- a procedure: its place, its name, is it known outside? -/
def procM (r : Rd) : (Int × Bytes × Bool) × Rd :=
  let a := anyM r
  let s := textM a.2 20
  let b := byteM s.2 1
  ((a.1, s.1, decide (b.1 = 1)), b.2)
theorem proc_ok {r : Rd} (hr : r.ok) : (procM r).2.ok ∧ (procM r).2.b = r.b := by
  have h1 := num_ok hr 4294967295
  have h2 := text_ok h1.1 20
  have h3 := byte_ok h2.1 1
  exact ⟨h3.1, h3.2.trans (h2.2.trans h1.2)⟩
theorem tk_mm {α β γ : Type} (f : α → β) (g : β → γ) (l : List α) : List.take l.length ((l.map f).map g) = (l.map f).map g := List.take_of_length_le (by simp)
theorem num_le (r : Rd) (m : Int) (hm : 0 ≤ m) : (numM r m).1 ≤ m := by
  unfold numM
  simp only
  split
  · rename_i h
    obtain ⟨_, h, _⟩ := tookM_t h
    simp only [Bool.and_eq_true, decide_eq_true_eq] at h
    exact h.2
  · omega
def e81 : (Rd) × (Bytes) × (Int) × (List Im) × (Nat) × (List Int) × (Nat) × (List Bytes) × (List Bool) × (Nat) → List AV × Heap := fun (r, name, key, imps, ni, code, nc, ns, es, n) => ([.ref 0 0 0, .ref 1 0 0], [.row [.ref 2 0 0] 1 0, .row [.str name, .int .u32 key, .sl (imps.flatMap Im.c) ni, .sl (code.map (.int .u32)) nc, .lit (.slice none 0 0), .msl 3 n 0 n, .msl 4 n 0 n, .int .i64 0, .lit (.slice none 0 0), .lit (.slice none 0 0), .lit (.slice none 0 0), .lit (.slice none 0 0), .lit (.slice none 0 0)] 13 0, .row r.c 3 0, .row (ns.map .str) 1 n, .row (es.map .bool) 1 n])
def p81 : (Rd) × (Bytes) × (Int) × (List Im) × (Nat) × (List Int) × (Nat) × (List Bytes) × (List Bool) × (Nat) → Prop := fun (r, name, key, imps, ni, code, nc, ns, es, n) => r.ok ∧ n ≤ 100000 ∧ n = ns.length ∧ n = es.length ∧ ni = imps.length ∧ nc = code.length
def r81 : (Rd) × (Bytes) × (Int) × (List Im) × (Nat) × (List Int) × (Nat) × (List Bytes) × (List Bool) × (Nat) → AV := fun (r, name, key, imps, ni, code, nc, ns, es, n) => .int .i64 (procM r).1.1
def g81 : (Rd) × (Bytes) × (Int) × (List Im) × (Nat) × (List Int) × (Nat) × (List Bytes) × (List Bool) × (Nat) → Heap := fun (r, name, key, imps, ni, code, nc, ns, es, n) => [.row [.ref 2 0 0] 1 0, .row [.str name, .int .u32 key, .sl (imps.flatMap Im.c) ni, .sl (code.map (.int .u32)) nc, .lit (.slice none 0 0), .msl 3 (n + 1) 0 (n + 1), .msl 4 (n + 1) 0 (n + 1), .int .i64 0, .lit (.slice none 0 0), .lit (.slice none 0 0), .lit (.slice none 0 0), .lit (.slice none 0 0), .lit (.slice none 0 0)] 13 0, .row (procM r).2.c 3 0, .row ((ns ++ [(procM r).1.2.1]).map .str) 1 (n + 1), .row ((es ++ [(procM r).1.2.2]).map .bool) 1 (n + 1)]
theorem inj81 : ∀ a b, e81 a = e81 b → a = b := by
  rintro ⟨r, name, key, imps, ni, code, nc, ns, es, n⟩ ⟨r', name', key', imps', ni', code', nc', ns', es', n'⟩ h
  simp only [e81, mi_iff, ms_iff, mb_iff, my_iff, rc_iff, fI_iff, Prod.mk.injEq, List.cons.injEq, AObj.row.injEq, AV.int.injEq, AV.str.injEq, AV.bool.injEq, AV.sl.injEq, AV.agg.injEq, AV.ip.injEq, AV.fn.injEq, AV.ifc.injEq, AV.mpr.injEq, AV.msl.injEq, AV.ref.injEq, Int.natCast_inj, and_true, true_and] at h
  simp_all only
noncomputable def S81 : FSpec := heapE true e81 p81 r81 g81
theorem ps81 (r : (Rd)) (name : (Bytes)) (key : (Int)) (imps : (List Im)) (ni : (Nat)) (code : (List Int)) (nc : (Nat)) (ns : (List Bytes)) (es : (List Bool)) (n : (Nat)) : pselK e81 p81 ([.ref 0 0 0, .ref 1 0 0], [.row [.ref 2 0 0] 1 0, .row [.str name, .int .u32 key, .sl (imps.flatMap Im.c) ni, .sl (code.map (.int .u32)) nc, .lit (.slice none 0 0), .msl 3 n 0 n, .msl 4 n 0 n, .int .i64 0, .lit (.slice none 0 0), .lit (.slice none 0 0), .lit (.slice none 0 0), .lit (.slice none 0 0), .lit (.slice none 0 0)] 13 0, .row r.c 3 0, .row (ns.map .str) 1 n, .row (es.map .bool) 1 n]) = (r.ok ∧ n ≤ 100000 ∧ n = ns.length ∧ n = es.length ∧ ni = imps.length ∧ nc = code.length) := pselK_at inj81 p81 (r, name, key, imps, ni, code, nc, ns, es, n)
theorem rs81 (r : (Rd)) (name : (Bytes)) (key : (Int)) (imps : (List Im)) (ni : (Nat)) (code : (List Int)) (nc : (Nat)) (ns : (List Bytes)) (es : (List Bool)) (n : (Nat)) : rselK e81 r81 .any ([.ref 0 0 0, .ref 1 0 0], [.row [.ref 2 0 0] 1 0, .row [.str name, .int .u32 key, .sl (imps.flatMap Im.c) ni, .sl (code.map (.int .u32)) nc, .lit (.slice none 0 0), .msl 3 n 0 n, .msl 4 n 0 n, .int .i64 0, .lit (.slice none 0 0), .lit (.slice none 0 0), .lit (.slice none 0 0), .lit (.slice none 0 0), .lit (.slice none 0 0)] 13 0, .row r.c 3 0, .row (ns.map .str) 1 n, .row (es.map .bool) 1 n]) = (.int .i64 (procM r).1.1) := rselK_at inj81 r81 .any (r, name, key, imps, ni, code, nc, ns, es, n)
theorem hs81 (r : (Rd)) (name : (Bytes)) (key : (Int)) (imps : (List Im)) (ni : (Nat)) (code : (List Int)) (nc : (Nat)) (ns : (List Bytes)) (es : (List Bool)) (n : (Nat)) : rselK e81 g81 [] ([.ref 0 0 0, .ref 1 0 0], [.row [.ref 2 0 0] 1 0, .row [.str name, .int .u32 key, .sl (imps.flatMap Im.c) ni, .sl (code.map (.int .u32)) nc, .lit (.slice none 0 0), .msl 3 n 0 n, .msl 4 n 0 n, .int .i64 0, .lit (.slice none 0 0), .lit (.slice none 0 0), .lit (.slice none 0 0), .lit (.slice none 0 0), .lit (.slice none 0 0)] 13 0, .row r.c 3 0, .row (ns.map .str) 1 n, .row (es.map .bool) 1 n]) = ([.row [.ref 2 0 0] 1 0, .row [.str name, .int .u32 key, .sl (imps.flatMap Im.c) ni, .sl (code.map (.int .u32)) nc, .lit (.slice none 0 0), .msl 3 (n + 1) 0 (n + 1), .msl 4 (n + 1) 0 (n + 1), .int .i64 0, .lit (.slice none 0 0), .lit (.slice none 0 0), .lit (.slice none 0 0), .lit (.slice none 0 0), .lit (.slice none 0 0)] 13 0, .row (procM r).2.c 3 0, .row ((ns ++ [(procM r).1.2.1]).map .str) 1 (n + 1), .row ((es ++ [(procM r).1.2.2]).map .bool) 1 (n + 1)]) := rselK_at inj81 g81 [] (r, name, key, imps, ni, code, nc, ns, es, n)
attribute [push_cast] S81 ps81 rs81 hs81
theorem body81 (Γ : Env) (h82 : Γ 37 = some S82) (h75 : Γ 30 = some S75) (h83 : Γ 38 = some S83) (r : Rd) (name : Bytes) (key : Int) (imps : List Im) (ni : Nat) (code : List Int) (nc : Nat) (ns : List Bytes) (es : List Bool) (n : Nat) (hr : r.ok) (hn : n ≤ 100000) (e1 : n = ns.length) (e2 : n = es.length) (e3 : ni = imps.length) (e4 : nc = code.length) :
    BodyOk Tryz.prog Γ Tryz.f36 [.ref 0 0 0, .ref 1 0 0] [.row [.ref 2 0 0] 1 0, .row [.str name, .int .u32 key, .sl (imps.flatMap Im.c) ni, .sl (code.map (.int .u32)) nc, .lit (.slice none 0 0), .msl 3 n 0 n, .msl 4 n 0 n, .int .i64 0, .lit (.slice none 0 0), .lit (.slice none 0 0), .lit (.slice none 0 0), .lit (.slice none 0 0), .lit (.slice none 0 0)] 13 0, .row r.c 3 0, .row (ns.map .str) 1 n, .row (es.map .bool) 1 n] (.int .i64 (procM r).1.1) [.row [.ref 2 0 0] 1 0, .row [.str name, .int .u32 key, .sl (imps.flatMap Im.c) ni, .sl (code.map (.int .u32)) nc, .lit (.slice none 0 0), .msl 3 (n + 1) 0 (n + 1), .msl 4 (n + 1) 0 (n + 1), .int .i64 0, .lit (.slice none 0 0), .lit (.slice none 0 0), .lit (.slice none 0 0), .lit (.slice none 0 0), .lit (.slice none 0 0)] 13 0, .row (procM r).2.c 3 0, .row ((ns ++ [(procM r).1.2.1]).map .str) 1 (n + 1), .row ((es ++ [(procM r).1.2.2]).map .bool) 1 (n + 1)] := by
  have h1 := num_ok hr 4294967295
  have h2 := text_ok h1.1 20
  have h3 := byte_ok h2.1 1
  have l1 : (ns.map AV.str).length = n := by rw [List.length_map, e1]
  have l2 : (es.map AV.bool).length = n := by rw [List.length_map, e2]
  (intro X hP hΓ hL hfin; refine ⟨_, rfl, ?_⟩; rw [show Tryz.f36.ntmps = 22 from rfl]; rw [show Tryz.f36.results.toList = [.tmp 2] from rfl] at hfin; apply holds_of_ex X 400; simp (maxSteps := 1000000) only [push_cast, reduceCtorEq, Nat.reduceAdd, Nat.reduceMul, Nat.reduceSub, Nat.reduceBEq, Nat.reduceGT, Nat.reduceLT, Int.toNat_zero, Nat.reduceLeDiff, Int.reduceEq, Int.reduceLT, Int.reduceLE, hP, hΓ, hL, hfin, ↓tm_get, String.reduceEq, not_false_eq_true, if_true, h82, h75, h83])
  refine ⟨hr, ?_⟩
  (refine Holds.drawnE (patH [.fix (.row [.ref 2 0 0] 1 0), .fix (.row [.str name, .int .u32 key, .sl (imps.flatMap Im.c) ni, .sl (code.map (.int .u32)) nc, .lit (.slice none 0 0), .msl 3 n 0 n, .msl 4 n 0 n, .int .i64 0, .lit (.slice none 0 0), .lit (.slice none 0 0), .lit (.slice none 0 0), .lit (.slice none 0 0), .lit (.slice none 0 0)] 13 0), .row 3 0]) [2, 3, 5, 7] [] [] true (by rw [hP]; kernel_rfl) (by kernel_rfl) (by kernel_rfl) (by kernel_rfl) (by first | exact .inl rfl | exact .inr fun _ _ h => patH_app _ _ h) (by first | (simp only [push_cast]; done) | (simp only [push_cast, and_true]; omega)) ?_; simp (maxSteps := 1000000) only [↓reduceIte, Option.getD_some, push_cast, reduceCtorEq, Nat.reduceAdd, Nat.reduceMul, Nat.reduceSub, Nat.reduceBEq, Nat.reduceGT, Nat.reduceLT, Int.toNat_zero, Nat.reduceLeDiff, Int.reduceEq, Int.reduceLT, Int.reduceLE, hP, hΓ, hL, hfin, ↓tm_get, String.reduceEq, not_false_eq_true, if_true, h82, h75, h83])
  refine ⟨h1.1, ⟨by omega, by omega⟩, ?_⟩
  ((first | with_reducible refine holds_of_ex X 400 _ _ _ ?_ | skip); simp (maxSteps := 1000000) only [push_cast, reduceCtorEq, Nat.reduceAdd, Nat.reduceMul, Nat.reduceSub, Nat.reduceBEq, Nat.reduceGT, Nat.reduceLT, Int.toNat_zero, Nat.reduceLeDiff, Int.reduceEq, Int.reduceLT, Int.reduceLE, hP, hΓ, hL, hfin, ↓tm_get, String.reduceEq, not_false_eq_true, if_true])
  (refine Holds.drawnE (patH [.fix (.row [.ref 2 0 0] 1 0), .fix (.row [.str name, .int .u32 key, .sl (imps.flatMap Im.c) ni, .sl (code.map (.int .u32)) nc, .lit (.slice none 0 0), .msl 3 (n + 1) 0 (n + 1), .msl 4 n 0 n, .int .i64 0, .lit (.slice none 0 0), .lit (.slice none 0 0), .lit (.slice none 0 0), .lit (.slice none 0 0), .lit (.slice none 0 0)] 13 0), .row 3 0]) [2, 3, 4, 6, 8] [] [] true (by rw [hP]; kernel_rfl) (by kernel_rfl) (by kernel_rfl) (by kernel_rfl) (by first | exact .inl rfl | exact .inr fun _ _ h => patH_app _ _ h) (by first | (simp only [push_cast]; done) | (simp only [push_cast, and_true]; omega)) ?_; simp (maxSteps := 1000000) only [↓reduceIte, Option.getD_some, push_cast, reduceCtorEq, Nat.reduceAdd, Nat.reduceMul, Nat.reduceSub, Nat.reduceBEq, Nat.reduceGT, Nat.reduceLT, Int.toNat_zero, Nat.reduceLeDiff, Int.reduceEq, Int.reduceLT, Int.reduceLE, hP, hΓ, hL, hfin, ↓tm_get, String.reduceEq, not_false_eq_true, if_true, h82, h75, h83])
  refine ⟨h2.1, ⟨by omega, by omega⟩, ?_⟩
  ((first | with_reducible refine holds_of_ex X 400 _ _ _ ?_ | skip); simp (maxSteps := 1000000) only [push_cast, reduceCtorEq, Nat.reduceAdd, Nat.reduceMul, Nat.reduceSub, Nat.reduceBEq, Nat.reduceGT, Nat.reduceLT, Int.toNat_zero, Nat.reduceLeDiff, Int.reduceEq, Int.reduceLT, Int.reduceLE, hP, hΓ, hL, hfin, ↓tm_get, String.reduceEq, not_false_eq_true, if_true])
  simp only [procM, anyM, List.map_append, List.map_cons, List.map_nil, List.length_append, List.length_cons, List.length_nil, Nat.zero_add]
  exact Into.sameA
theorem con81 {Γ : Env} (h : EnvOk Tryz.prog Γ) (h82 : Γ 37 = some S82) (h75 : Γ 30 = some S75) (h83 : Γ 38 = some S83) : Con Tryz.prog 36 S81 :=
  heapE_con h (fn := Tryz.f36) (by kernel_rfl) rfl (by kernel_rfl) inj81 fun ⟨r, name, key, imps, ni, code, nc, ns, es, n⟩ h => body81 Γ h82 h75 h83 r name key imps ni code nc ns es n h.1 h.2.1 h.2.2.1 h.2.2.2.1 h.2.2.2.2.1 h.2.2.2.2.2
theorem body80b (Γ : Env) (h81 : Γ 36 = some S81) (h90 : Γ 45 = some S90) (r : Rd) (name : Bytes) (key : Int) (imps : List Im) (ni : Nat) (code : List Int) (nc : Nat) (hr : r.ok) (e3 : ni = imps.length) (e4 : nc = code.length) :
    BodyOk Tryz.prog Γ Tryz.f35 [.ref 0 0 0, .int .u32 100, .fn (.func 36) [] [.ref 1 0 0, .ref 2 0 0]] [.row r.c 3 0, .row [.ref 0 0 0] 1 0, .row [.str name, .int .u32 key, .sl (imps.flatMap Im.c) ni, .sl (code.map (.int .u32)) nc, .lit (.slice none 0 0), .lit (.slice none 0 0), .lit (.slice none 0 0), .int .i64 0, .lit (.slice none 0 0), .lit (.slice none 0 0), .lit (.slice none 0 0), .lit (.slice none 0 0), .lit (.slice none 0 0)] 13 0]
      (.sl (((rowsR procM 100 r).1.map fun x => x.1).map (.int .i64)) (rowsR procM 100 r).1.length) [.row (rowsR procM 100 r).2.c 3 0, .row [.ref 0 0 0] 1 0, .row [.str name, .int .u32 key, .sl (imps.flatMap Im.c) ni, .sl (code.map (.int .u32)) nc, .lit (.slice none 0 0), .sl (((rowsR procM 100 r).1.map fun x => x.2.1).map .str) (rowsR procM 100 r).1.length, .sl (((rowsR procM 100 r).1.map fun x => x.2.2).map .bool) (rowsR procM 100 r).1.length, .int .i64 0, .lit (.slice none 0 0), .lit (.slice none 0 0), .lit (.slice none 0 0), .lit (.slice none 0 0), .lit (.slice none 0 0)] 13 0] := by
  have h1 := num_ok hr 100
  have b1 := num_b r 100
  have b2 := num_le r 100 (by omega)
  (intro X hP hΓ hL hfin; refine ⟨_, rfl, ?_⟩; rw [show Tryz.f35.ntmps = 29 from rfl]; rw [show Tryz.f35.results.toList = [.tmp 6] from rfl] at hfin; apply holds_of_ex X 400; simp (maxSteps := 1000000) only [push_cast, reduceCtorEq, Nat.reduceAdd, Nat.reduceMul, Nat.reduceSub, Nat.reduceBEq, Nat.reduceGT, Nat.reduceLT, Int.toNat_zero, Nat.reduceLeDiff, Int.reduceEq, Int.reduceLT, Int.reduceLE, hP, hΓ, hL, hfin, ↓tm_get, String.reduceEq, not_false_eq_true, if_true, h90])
  refine ⟨hr, ?_⟩
  refine Holds.nilH 2 5 1 rfl rfl ?_
  refine Holds.nilH 2 6 1 rfl rfl ?_
  simp only [List.set_cons_succ, List.set_cons_zero, List.cons_append, List.nil_append, List.length_cons, List.length_nil, Nat.zero_add, Nat.reduceAdd]
  refine Holds.loopM (ι := RowSt procM (numM r 100).1.toNat (numM r 100).2) [true, false, true, false, false, false, true, false, false, false, false, false, false, false, false, false, false, false, false, false, false, false, false, false, false, false, false, false, false] (fun i => [(7, .msl 5 i.l.length 0 i.l.length), (8, .int .i64 i.c)]) (fun i => [.row i.r.c 3 0, .row [.ref 0 0 0] 1 0, .row [.str name, .int .u32 key, .sl (imps.flatMap Im.c) ni, .sl (code.map (.int .u32)) nc, .lit (.slice none 0 0), .msl 3 i.l.length 0 i.l.length, .msl 4 i.l.length 0 i.l.length, .int .i64 0, .lit (.slice none 0 0), .lit (.slice none 0 0), .lit (.slice none 0 0), .lit (.slice none 0 0), .lit (.slice none 0 0)] 13 0, .row ((i.l.map fun x => x.2.1).map .str) 1 i.l.length, .row ((i.l.map fun x => x.2.2).map .bool) 1 i.l.length, .row ((i.l.map fun x => x.1).map (.int .i64)) 1 i.l.length]) (fun i => i.c) (RowSt.init _ _ _ h1.1) ?_ ?_
  · rw [hL]; simp only [push_cast, Int.natCast_zero]
    (refine IntoF.nil 7  1 rfl ?_; simp only [push_cast, reduceCtorEq, Nat.reduceAdd, Nat.reduceMul, Nat.reduceSub, Nat.reduceBEq, Nat.reduceGT, Nat.reduceLT, Int.toNat_zero, Nat.reduceLeDiff, Int.reduceEq, Int.reduceLT, Int.reduceLE])
    simp only [RowSt.init, List.map_nil, List.flatMap_nil, List.length_nil, Int.toNat_of_nonneg b1.1]
    exact Into.sameA
  intro s
  have hl := s.len
  ((first | with_reducible refine holds_of_ex X 400 _ _ _ ?_ | skip); simp (maxSteps := 1000000) only [push_cast, reduceCtorEq, Nat.reduceAdd, Nat.reduceMul, Nat.reduceSub, Nat.reduceBEq, Nat.reduceGT, Nat.reduceLT, Int.toNat_zero, Nat.reduceLeDiff, Int.reduceEq, Int.reduceLT, Int.reduceLE, hP, hΓ, hL, hfin, ↓tm_get, String.reduceEq, not_false_eq_true, if_true])
  ((with_reducible refine exB_split (fun h => ?_) (fun h => ?_)) <;> (try simp only [decide_eq_true_eq, decide_eq_false_iff_not, Bool.and_eq_true, Bool.or_eq_true, Bool.and_eq_false_iff, Bool.or_eq_false_iff, Bool.not_eq_true', Bool.not_eq_false', Bool.not_eq_true, Bool.not_eq_false, Int.not_lt, Int.not_le, beq_iff_eq, beq_eq_false_iff_ne, ne_eq, win_t, win_f] at h))
  · ((first | with_reducible refine holds_of_ex X 400 _ _ _ ?_ | skip); simp (maxSteps := 1000000) only [push_cast, reduceCtorEq, Nat.reduceAdd, Nat.reduceMul, Nat.reduceSub, Nat.reduceBEq, Nat.reduceGT, Nat.reduceLT, Int.toNat_zero, Nat.reduceLeDiff, Int.reduceEq, Int.reduceLT, Int.reduceLE, hP, hΓ, hL, hfin, ↓tm_get, String.reduceEq, not_false_eq_true, if_true, h81, wr_i64 ((s.c : Int) - 1) (by constructor <;> omega)])
    refine ⟨⟨by omega, s.ok, by omega, e3, e4⟩, by omega, s.next (fun r hr => (proc_ok hr).1) (by omega) h.2, by simp only [RowSt.next]; omega, ?_⟩
    simp only [RowSt.next, List.map_append, List.map_cons, List.map_nil, List.flatMap_append, List.flatMap_cons, List.flatMap_nil, List.append_nil, List.length_append, List.length_cons, List.length_nil, Nat.zero_add, show ((s.c - 1 : Nat) : Int) = (s.c : Int) - 1 by omega]
    exact Into.sameA
  · ((first | with_reducible refine holds_of_ex X 400 _ _ _ ?_ | skip); simp (maxSteps := 1000000) only [push_cast, reduceCtorEq, Nat.reduceAdd, Nat.reduceMul, Nat.reduceSub, Nat.reduceBEq, Nat.reduceGT, Nat.reduceLT, Int.toNat_zero, Nat.reduceLeDiff, Int.reduceEq, Int.reduceLT, Int.reduceLE, hP, hΓ, hL, hfin, ↓tm_get, String.reduceEq, not_false_eq_true, if_true])
    (refine IntoF.frz 3 (by simp only [push_cast, reduceCtorEq, Nat.reduceAdd, Nat.reduceMul, Nat.reduceSub, Nat.reduceBEq, Nat.reduceGT, Nat.reduceLT, Int.toNat_zero, Nat.reduceLeDiff, Int.reduceEq, Int.reduceLT, Int.reduceLE]; first | done | decide | omega) (by simp only [frzOk', frzOk, isMap, or_true, true_or, push_cast, reduceCtorEq, Nat.reduceAdd, Nat.reduceMul, Nat.reduceSub, Nat.reduceBEq, Nat.reduceGT, Nat.reduceLT, Int.toNat_zero, Nat.reduceLeDiff, Int.reduceEq, Int.reduceLT, Int.reduceLE]) ?_; simp only [push_cast, reduceCtorEq, Nat.reduceAdd, Nat.reduceMul, Nat.reduceSub, Nat.reduceBEq, Nat.reduceGT, Nat.reduceLT, Int.toNat_zero, Nat.reduceLeDiff, Int.reduceEq, Int.reduceLT, Int.reduceLE])
    simp only [tk_mm, push_cast]
    (refine IntoF.frz 4 (by simp only [push_cast, reduceCtorEq, Nat.reduceAdd, Nat.reduceMul, Nat.reduceSub, Nat.reduceBEq, Nat.reduceGT, Nat.reduceLT, Int.toNat_zero, Nat.reduceLeDiff, Int.reduceEq, Int.reduceLT, Int.reduceLE]; first | done | decide | omega) (by simp only [frzOk', frzOk, isMap, or_true, true_or, push_cast, reduceCtorEq, Nat.reduceAdd, Nat.reduceMul, Nat.reduceSub, Nat.reduceBEq, Nat.reduceGT, Nat.reduceLT, Int.toNat_zero, Nat.reduceLeDiff, Int.reduceEq, Int.reduceLT, Int.reduceLE]) ?_; simp only [push_cast, reduceCtorEq, Nat.reduceAdd, Nat.reduceMul, Nat.reduceSub, Nat.reduceBEq, Nat.reduceGT, Nat.reduceLT, Int.toNat_zero, Nat.reduceLeDiff, Int.reduceEq, Int.reduceLT, Int.reduceLE])
    simp only [tk_mm, push_cast]
    (refine IntoF.frz 5 (by simp only [push_cast, reduceCtorEq, Nat.reduceAdd, Nat.reduceMul, Nat.reduceSub, Nat.reduceBEq, Nat.reduceGT, Nat.reduceLT, Int.toNat_zero, Nat.reduceLeDiff, Int.reduceEq, Int.reduceLT, Int.reduceLE]; first | done | decide | omega) (by simp only [frzOk', frzOk, isMap, or_true, true_or, push_cast, reduceCtorEq, Nat.reduceAdd, Nat.reduceMul, Nat.reduceSub, Nat.reduceBEq, Nat.reduceGT, Nat.reduceLT, Int.toNat_zero, Nat.reduceLeDiff, Int.reduceEq, Int.reduceLT, Int.reduceLE]) ?_; simp only [push_cast, reduceCtorEq, Nat.reduceAdd, Nat.reduceMul, Nat.reduceSub, Nat.reduceBEq, Nat.reduceGT, Nat.reduceLT, Int.toNat_zero, Nat.reduceLeDiff, Int.reduceEq, Int.reduceLT, Int.reduceLE])
    simp only [tk_mm, push_cast]
    rw [show rowsR procM 100 r = (s.l, s.r) from s.done (by omega)]
    exact Into.keep3A
abbrev T80 := (Rd × Int) ⊕ (Rd × Bytes × Int × List Im × Nat × List Int × Nat)
def e80 : T80 → List AV × Heap
  | .inl (r, m) => ([.ref 0 0 0, .int .u32 m, .fn (.func 37) [.ref 0 0 0] []], [.row r.c 3 0])
  | .inr (r, name, key, imps, ni, code, nc) => ([.ref 0 0 0, .int .u32 100, .fn (.func 36) [] [.ref 1 0 0, .ref 2 0 0]], [.row r.c 3 0, .row [.ref 0 0 0] 1 0, .row [.str name, .int .u32 key, .sl (imps.flatMap Im.c) ni, .sl (code.map (.int .u32)) nc, .lit (.slice none 0 0), .lit (.slice none 0 0), .lit (.slice none 0 0), .int .i64 0, .lit (.slice none 0 0), .lit (.slice none 0 0), .lit (.slice none 0 0), .lit (.slice none 0 0), .lit (.slice none 0 0)] 13 0])
def p80 : T80 → Prop
  | .inl (r, m) => r.ok
  | .inr (r, name, key, imps, ni, code, nc) => r.ok ∧ ni = imps.length ∧ nc = code.length
def r80 : T80 → AV
  | .inl (r, m) => .sl ((rowsR anyM m r).1.map (.int .i64)) (rowsR anyM m r).1.length
  | .inr (r, name, key, imps, ni, code, nc) => .sl (((rowsR procM 100 r).1.map fun x => x.1).map (.int .i64)) (rowsR procM 100 r).1.length
def g80 : T80 → Heap
  | .inl (r, m) => [.row (rowsR anyM m r).2.c 3 0]
  | .inr (r, name, key, imps, ni, code, nc) => [.row (rowsR procM 100 r).2.c 3 0, .row [.ref 0 0 0] 1 0, .row [.str name, .int .u32 key, .sl (imps.flatMap Im.c) ni, .sl (code.map (.int .u32)) nc, .lit (.slice none 0 0), .sl (((rowsR procM 100 r).1.map fun x => x.2.1).map .str) (rowsR procM 100 r).1.length, .sl (((rowsR procM 100 r).1.map fun x => x.2.2).map .bool) (rowsR procM 100 r).1.length, .int .i64 0, .lit (.slice none 0 0), .lit (.slice none 0 0), .lit (.slice none 0 0), .lit (.slice none 0 0), .lit (.slice none 0 0)] 13 0]
theorem inj80 : ∀ a b, e80 a = e80 b → a = b := by
  rintro (⟨r, m⟩ | ⟨r, name, key, imps, ni, code, nc⟩) (⟨r', m'⟩ | ⟨r', name', key', imps', ni', code', nc'⟩) h <;>
    simp only [e80, mi_iff, ms_iff, mb_iff, my_iff, rc_iff, fI_iff, Prod.mk.injEq, List.cons.injEq, AObj.row.injEq, AV.int.injEq, AV.str.injEq, AV.bool.injEq, AV.sl.injEq, AV.agg.injEq, AV.ip.injEq, AV.fn.injEq, AV.mpr.injEq, AV.msl.injEq, AV.ref.injEq, Int.natCast_inj, and_true, true_and, reduceCtorEq, and_false, false_and] at h
  · simp_all only
  · simp_all only
noncomputable def S80 : FSpec := heapE false e80 p80 r80 g80
theorem ps80a (r : Rd) (m : Int) : pselK e80 p80 ([.ref 0 0 0, .int .u32 m, .fn (.func 37) [.ref 0 0 0] []], [.row r.c 3 0]) = r.ok := pselK_at inj80 p80 (.inl (r, m))
theorem rs80a (r : Rd) (m : Int) : rselK e80 r80 .any ([.ref 0 0 0, .int .u32 m, .fn (.func 37) [.ref 0 0 0] []], [.row r.c 3 0]) = .sl ((rowsR anyM m r).1.map (.int .i64)) (rowsR anyM m r).1.length := rselK_at inj80 r80 .any (.inl (r, m))
theorem hs80a (r : Rd) (m : Int) : rselK e80 g80 [] ([.ref 0 0 0, .int .u32 m, .fn (.func 37) [.ref 0 0 0] []], [.row r.c 3 0]) = [.row (rowsR anyM m r).2.c 3 0] := rselK_at inj80 g80 [] (.inl (r, m))
theorem ps80b (r : Rd) (name : Bytes) (key : Int) (imps : List Im) (ni : Nat) (code : List Int) (nc : Nat) : pselK e80 p80 ([.ref 0 0 0, .int .u32 100, .fn (.func 36) [] [.ref 1 0 0, .ref 2 0 0]], [.row r.c 3 0, .row [.ref 0 0 0] 1 0, .row [.str name, .int .u32 key, .sl (imps.flatMap Im.c) ni, .sl (code.map (.int .u32)) nc, .lit (.slice none 0 0), .lit (.slice none 0 0), .lit (.slice none 0 0), .int .i64 0, .lit (.slice none 0 0), .lit (.slice none 0 0), .lit (.slice none 0 0), .lit (.slice none 0 0), .lit (.slice none 0 0)] 13 0]) = (r.ok ∧ ni = imps.length ∧ nc = code.length) := pselK_at inj80 p80 (.inr (r, name, key, imps, ni, code, nc))
theorem rs80b (r : Rd) (name : Bytes) (key : Int) (imps : List Im) (ni : Nat) (code : List Int) (nc : Nat) : rselK e80 r80 .any ([.ref 0 0 0, .int .u32 100, .fn (.func 36) [] [.ref 1 0 0, .ref 2 0 0]], [.row r.c 3 0, .row [.ref 0 0 0] 1 0, .row [.str name, .int .u32 key, .sl (imps.flatMap Im.c) ni, .sl (code.map (.int .u32)) nc, .lit (.slice none 0 0), .lit (.slice none 0 0), .lit (.slice none 0 0), .int .i64 0, .lit (.slice none 0 0), .lit (.slice none 0 0), .lit (.slice none 0 0), .lit (.slice none 0 0), .lit (.slice none 0 0)] 13 0]) = .sl (((rowsR procM 100 r).1.map fun x => x.1).map (.int .i64)) (rowsR procM 100 r).1.length := rselK_at inj80 r80 .any (.inr (r, name, key, imps, ni, code, nc))
theorem hs80b (r : Rd) (name : Bytes) (key : Int) (imps : List Im) (ni : Nat) (code : List Int) (nc : Nat) : rselK e80 g80 [] ([.ref 0 0 0, .int .u32 100, .fn (.func 36) [] [.ref 1 0 0, .ref 2 0 0]], [.row r.c 3 0, .row [.ref 0 0 0] 1 0, .row [.str name, .int .u32 key, .sl (imps.flatMap Im.c) ni, .sl (code.map (.int .u32)) nc, .lit (.slice none 0 0), .lit (.slice none 0 0), .lit (.slice none 0 0), .int .i64 0, .lit (.slice none 0 0), .lit (.slice none 0 0), .lit (.slice none 0 0), .lit (.slice none 0 0), .lit (.slice none 0 0)] 13 0]) = [.row (rowsR procM 100 r).2.c 3 0, .row [.ref 0 0 0] 1 0, .row [.str name, .int .u32 key, .sl (imps.flatMap Im.c) ni, .sl (code.map (.int .u32)) nc, .lit (.slice none 0 0), .sl (((rowsR procM 100 r).1.map fun x => x.2.1).map .str) (rowsR procM 100 r).1.length, .sl (((rowsR procM 100 r).1.map fun x => x.2.2).map .bool) (rowsR procM 100 r).1.length, .int .i64 0, .lit (.slice none 0 0), .lit (.slice none 0 0), .lit (.slice none 0 0), .lit (.slice none 0 0), .lit (.slice none 0 0)] 13 0] := rselK_at inj80 g80 [] (.inr (r, name, key, imps, ni, code, nc))
attribute [push_cast] S80 ps80a rs80a hs80a ps80b rs80b hs80b
theorem con80 {Γ : Env} (h : EnvOk Tryz.prog Γ) (h81 : Γ 36 = some S81) (h82 : Γ 37 = some S82) (h90 : Γ 45 = some S90) : Con Tryz.prog 35 S80 :=
  heapE_con h (fn := Tryz.f35) (by kernel_rfl) rfl (by kernel_rfl) inj80 fun a h => match a, h with
    | .inl (r, m), h => body80a Γ h82 h90 r m h
    | .inr (r, name, key, imps, ni, code, nc), h => body80b Γ h81 h90 r name key imps ni code nc h.1 h.2.1 h.2.2
def descM (r : Rd) : Ds × Rd :=
  let a := anyM r
  let b := anyM a.2
  let t := rowsR anyM 4 b.2
  (⟨a.1, b.1, t.1⟩, t.2)
theorem rows_ok {α : Type} {one : Rd → α × Rd} (h1 : ∀ r : Rd, r.ok → (one r).2.ok ∧ (one r).2.b = r.b) (m : Int) {r : Rd} (hr : r.ok) : (rowsR one m r).2.ok ∧ (rowsR one m r).2.b = r.b := by
  have key : ∀ (n : Nat) (r : Rd), r.ok → (rowsM one n r).2.ok ∧ (rowsM one n r).2.b = r.b := by
    intro n
    induction n with
    | zero => intro r hr; exact ⟨hr, rfl⟩
    | succ n ih =>
      intro r hr
      rw [rowsM]
      split
      · have k1 := h1 r hr
        have k2 := ih _ k1.1
        exact ⟨k2.1, k2.2.trans k1.2⟩
      · exact ⟨hr, rfl⟩
  have k := num_ok hr m
  have k2 := key (numM r m).1.toNat _ k.1
  exact ⟨k2.1, k2.2.trans k.2⟩
theorem any_ok {r : Rd} (hr : r.ok) : (anyM r).2.ok ∧ (anyM r).2.b = r.b := num_ok hr _
theorem desc_ok {r : Rd} (hr : r.ok) : (descM r).2.ok ∧ (descM r).2.b = r.b := by
  have h1 := any_ok hr
  have h2 := any_ok h1.1
  have h3 := rows_ok (one := anyM) (fun r hr => any_ok hr) 4 h2.1
  exact ⟨h3.1, h3.2.trans (h2.2.trans h1.2)⟩
def e87 : (Rd) → List AV × Heap := fun r => ([.ref 0 0 0], [.row [.ref 1 0 0] 1 0, .row r.c 3 0])
def p87 : (Rd) → Prop := fun r => r.ok
def r87 : (Rd) → AV := fun r => .agg (descM r).1.c
def g87 : (Rd) → Heap := fun r => [.row [.ref 1 0 0] 1 0, .row (descM r).2.c 3 0]
theorem inj87 : ∀ a b, e87 a = e87 b → a = b := by
  rintro r r' h
  simp only [e87, mi_iff, ms_iff, mb_iff, my_iff, rc_iff, fI_iff, Prod.mk.injEq, List.cons.injEq, AObj.row.injEq, AV.int.injEq, AV.str.injEq, AV.bool.injEq, AV.sl.injEq, AV.agg.injEq, AV.ip.injEq, AV.fn.injEq, AV.ifc.injEq, AV.mpr.injEq, AV.msl.injEq, AV.ref.injEq, Int.natCast_inj, and_true, true_and] at h
  simp_all only
noncomputable def S87 : FSpec := heapE false e87 p87 r87 g87
theorem ps87 (r : (Rd)) : pselK e87 p87 ([.ref 0 0 0], [.row [.ref 1 0 0] 1 0, .row r.c 3 0]) = (r.ok) := pselK_at inj87 p87 r
theorem rs87 (r : (Rd)) : rselK e87 r87 .any ([.ref 0 0 0], [.row [.ref 1 0 0] 1 0, .row r.c 3 0]) = (.agg (descM r).1.c) := rselK_at inj87 r87 .any r
theorem hs87 (r : (Rd)) : rselK e87 g87 [] ([.ref 0 0 0], [.row [.ref 1 0 0] 1 0, .row r.c 3 0]) = ([.row [.ref 1 0 0] 1 0, .row (descM r).2.c 3 0]) := rselK_at inj87 g87 [] r
attribute [push_cast] S87 ps87 rs87 hs87
theorem body87 (Γ : Env) (h82 : Γ 37 = some S82) (h80 : Γ 35 = some S80) (r : Rd) (hr : r.ok) : BodyOk Tryz.prog Γ Tryz.f42 [.ref 0 0 0] [.row [.ref 1 0 0] 1 0, .row r.c 3 0] (.agg (descM r).1.c) [.row [.ref 1 0 0] 1 0, .row (descM r).2.c 3 0] := by
  have h1 := any_ok hr
  have h2 := any_ok h1.1
  (intro X hP hΓ hL hfin; refine ⟨_, rfl, ?_⟩; rw [show Tryz.f42.ntmps = 14 from rfl]; rw [show Tryz.f42.results.toList = [.cell 1 56] from rfl] at hfin; apply holds_of_ex X 400; simp (maxSteps := 1000000) only [push_cast, reduceCtorEq, Nat.reduceAdd, Nat.reduceMul, Nat.reduceSub, Nat.reduceBEq, Nat.reduceGT, Nat.reduceLT, Int.toNat_zero, Nat.reduceLeDiff, Int.reduceEq, Int.reduceLT, Int.reduceLE, hP, hΓ, hL, hfin, ↓tm_get, String.reduceEq, not_false_eq_true, if_true, h82, h80])
  (refine Holds.drawnE (patH [.fix (.row [.ref 1 0 0] 1 0), .row 3 0]) [1, 3, 6] [5] [1, 3] true (by rw [hP]; kernel_rfl) (by kernel_rfl) (by kernel_rfl) (by kernel_rfl) (by first | exact .inl rfl | exact .inr fun _ _ h => patH_app _ _ h) (by first | (simp only [push_cast]; done) | (simp only [push_cast, and_true]; omega)) ?_; simp (maxSteps := 1000000) only [↓reduceIte, Option.getD_some, push_cast, reduceCtorEq, Nat.reduceAdd, Nat.reduceMul, Nat.reduceSub, Nat.reduceBEq, Nat.reduceGT, Nat.reduceLT, Int.toNat_zero, Nat.reduceLeDiff, Int.reduceEq, Int.reduceLT, Int.reduceLE, hP, hΓ, hL, hfin, ↓tm_get, String.reduceEq, not_false_eq_true, if_true, h82, h80])
  refine ⟨hr, hr, h1.1, h1.1, ?_⟩
  ((first | with_reducible refine holds_of_ex X 400 _ _ _ ?_ | skip); simp (maxSteps := 1000000) only [push_cast, reduceCtorEq, Nat.reduceAdd, Nat.reduceMul, Nat.reduceSub, Nat.reduceBEq, Nat.reduceGT, Nat.reduceLT, Int.toNat_zero, Nat.reduceLeDiff, Int.reduceEq, Int.reduceLT, Int.reduceLE, hP, hΓ, hL, hfin, ↓tm_get, String.reduceEq, not_false_eq_true, if_true, h82, h80])
  refine ⟨h2.1, ?_⟩
  simp only [descM, Ds.c]
  exact Into.keep2A
theorem con87 {Γ : Env} (h : EnvOk Tryz.prog Γ) (h82 : Γ 37 = some S82) (h80 : Γ 35 = some S80) : Con Tryz.prog 42 S87 :=
  heapE_con h (fn := Tryz.f42) (by kernel_rfl) rfl (by kernel_rfl) inj87 fun r h => body87 Γ h82 h80 r h
def e86 : (Rd) → List AV × Heap := fun r => ([.ref 0 0 0, .int .u32 200, .fn (.func 42) [] [.ref 1 0 0]], [.row r.c 3 0, .row [.ref 0 0 0] 1 0])
def p86 : (Rd) → Prop := fun r => r.ok
def r86 : (Rd) → AV := fun r => .sl ((rowsR descM 200 r).1.flatMap Ds.c) (rowsR descM 200 r).1.length
def g86 : (Rd) → Heap := fun r => [.row (rowsR descM 200 r).2.c 3 0, .row [.ref 0 0 0] 1 0]
theorem inj86 : ∀ a b, e86 a = e86 b → a = b := by
  rintro r r' h
  simp only [e86, mi_iff, ms_iff, mb_iff, my_iff, rc_iff, fI_iff, Prod.mk.injEq, List.cons.injEq, AObj.row.injEq, AV.int.injEq, AV.str.injEq, AV.bool.injEq, AV.sl.injEq, AV.agg.injEq, AV.ip.injEq, AV.fn.injEq, AV.ifc.injEq, AV.mpr.injEq, AV.msl.injEq, AV.ref.injEq, Int.natCast_inj, and_true, true_and] at h
  simp_all only
noncomputable def S86 : FSpec := heapE false e86 p86 r86 g86
theorem ps86 (r : (Rd)) : pselK e86 p86 ([.ref 0 0 0, .int .u32 200, .fn (.func 42) [] [.ref 1 0 0]], [.row r.c 3 0, .row [.ref 0 0 0] 1 0]) = (r.ok) := pselK_at inj86 p86 r
theorem rs86 (r : (Rd)) : rselK e86 r86 .any ([.ref 0 0 0, .int .u32 200, .fn (.func 42) [] [.ref 1 0 0]], [.row r.c 3 0, .row [.ref 0 0 0] 1 0]) = (.sl ((rowsR descM 200 r).1.flatMap Ds.c) (rowsR descM 200 r).1.length) := rselK_at inj86 r86 .any r
theorem hs86 (r : (Rd)) : rselK e86 g86 [] ([.ref 0 0 0, .int .u32 200, .fn (.func 42) [] [.ref 1 0 0]], [.row r.c 3 0, .row [.ref 0 0 0] 1 0]) = ([.row (rowsR descM 200 r).2.c 3 0, .row [.ref 0 0 0] 1 0]) := rselK_at inj86 g86 [] r
attribute [push_cast] S86 ps86 rs86 hs86
theorem body86 (Γ : Env) (h87 : Γ 42 = some S87) (h90 : Γ 45 = some S90) (r : Rd) (hr : r.ok) : BodyOk Tryz.prog Γ Tryz.f41 [.ref 0 0 0, .int .u32 200, .fn (.func 42) [] [.ref 1 0 0]] [.row r.c 3 0, .row [.ref 0 0 0] 1 0] (.sl ((rowsR descM 200 r).1.flatMap Ds.c) (rowsR descM 200 r).1.length) [.row (rowsR descM 200 r).2.c 3 0, .row [.ref 0 0 0] 1 0] := by
  have h1 := num_ok hr 200
  have b1 := num_b r 200
  (intro X hP hΓ hL hfin; refine ⟨_, rfl, ?_⟩; rw [show Tryz.f41.ntmps = 29 from rfl]; rw [show Tryz.f41.results.toList = [.tmp 6] from rfl] at hfin; apply holds_of_ex X 400; simp (maxSteps := 1000000) only [push_cast, reduceCtorEq, Nat.reduceAdd, Nat.reduceMul, Nat.reduceSub, Nat.reduceBEq, Nat.reduceGT, Nat.reduceLT, Int.toNat_zero, Nat.reduceLeDiff, Int.reduceEq, Int.reduceLT, Int.reduceLE, hP, hΓ, hL, hfin, ↓tm_get, String.reduceEq, not_false_eq_true, if_true, h90])
  refine ⟨hr, ?_⟩
  refine Holds.loopM (ι := RowSt descM (numM r 200).1.toNat (numM r 200).2) [true, false, true, false, false, false, true, false, false, false, false, false, false, false, false, false, false, false, false, false, false, false, false, false, false, false, false, false, false] (fun i => [(7, .msl 2 i.l.length 0 i.l.length), (8, .int .i64 i.c)]) (fun i => [.row i.r.c 3 0, .row [.ref 0 0 0] 1 0, .row (i.l.flatMap Ds.c) 3 i.l.length]) (fun i => i.c) (RowSt.init _ _ _ h1.1) ?_ ?_
  · rw [hL]; simp only [push_cast, Int.natCast_zero]
    (refine IntoF.nil 7  3 rfl ?_; simp only [push_cast, reduceCtorEq, Nat.reduceAdd, Nat.reduceMul, Nat.reduceSub, Nat.reduceBEq, Nat.reduceGT, Nat.reduceLT, Int.toNat_zero, Nat.reduceLeDiff, Int.reduceEq, Int.reduceLT, Int.reduceLE])
    simp only [RowSt.init, List.map_nil, List.flatMap_nil, List.length_nil, Int.toNat_of_nonneg b1.1]
    exact Into.sameA
  intro s
  have hl := s.len
  ((first | with_reducible refine holds_of_ex X 400 _ _ _ ?_ | skip); simp (maxSteps := 1000000) only [push_cast, reduceCtorEq, Nat.reduceAdd, Nat.reduceMul, Nat.reduceSub, Nat.reduceBEq, Nat.reduceGT, Nat.reduceLT, Int.toNat_zero, Nat.reduceLeDiff, Int.reduceEq, Int.reduceLT, Int.reduceLE, hP, hΓ, hL, hfin, ↓tm_get, String.reduceEq, not_false_eq_true, if_true])
  ((with_reducible refine exB_split (fun h => ?_) (fun h => ?_)) <;> (try simp only [decide_eq_true_eq, decide_eq_false_iff_not, Bool.and_eq_true, Bool.or_eq_true, Bool.and_eq_false_iff, Bool.or_eq_false_iff, Bool.not_eq_true', Bool.not_eq_false', Bool.not_eq_true, Bool.not_eq_false, Int.not_lt, Int.not_le, beq_iff_eq, beq_eq_false_iff_ne, ne_eq, win_t, win_f] at h))
  · ((first | with_reducible refine holds_of_ex X 400 _ _ _ ?_ | skip); simp (maxSteps := 1000000) only [push_cast, reduceCtorEq, Nat.reduceAdd, Nat.reduceMul, Nat.reduceSub, Nat.reduceBEq, Nat.reduceGT, Nat.reduceLT, Int.toNat_zero, Nat.reduceLeDiff, Int.reduceEq, Int.reduceLT, Int.reduceLE, hP, hΓ, hL, hfin, ↓tm_get, String.reduceEq, not_false_eq_true, if_true, h87, wr_i64 ((s.c : Int) - 1) (by constructor <;> omega)])
    refine ⟨s.ok, by omega, s.next (fun r hr => (desc_ok hr).1) (by omega) h.2, by simp only [RowSt.next]; omega, ?_⟩
    simp only [RowSt.next, List.map_append, List.map_cons, List.map_nil, List.flatMap_append, List.flatMap_cons, List.flatMap_nil, List.append_nil, List.length_append, List.length_cons, List.length_nil, Nat.zero_add, show ((s.c - 1 : Nat) : Int) = (s.c : Int) - 1 by omega]
    exact Into.sameA
  · ((first | with_reducible refine holds_of_ex X 400 _ _ _ ?_ | skip); simp (maxSteps := 1000000) only [push_cast, reduceCtorEq, Nat.reduceAdd, Nat.reduceMul, Nat.reduceSub, Nat.reduceBEq, Nat.reduceGT, Nat.reduceLT, Int.toNat_zero, Nat.reduceLeDiff, Int.reduceEq, Int.reduceLT, Int.reduceLE, hP, hΓ, hL, hfin, ↓tm_get, String.reduceEq, not_false_eq_true, if_true])
    (refine IntoF.frz 2 (by simp only [push_cast, reduceCtorEq, Nat.reduceAdd, Nat.reduceMul, Nat.reduceSub, Nat.reduceBEq, Nat.reduceGT, Nat.reduceLT, Int.toNat_zero, Nat.reduceLeDiff, Int.reduceEq, Int.reduceLT, Int.reduceLE]; first | done | decide | omega) (by simp only [frzOk', frzOk, isMap, or_true, true_or, push_cast, reduceCtorEq, Nat.reduceAdd, Nat.reduceMul, Nat.reduceSub, Nat.reduceBEq, Nat.reduceGT, Nat.reduceLT, Int.toNat_zero, Nat.reduceLeDiff, Int.reduceEq, Int.reduceLT, Int.reduceLE]) ?_; simp only [push_cast, reduceCtorEq, Nat.reduceAdd, Nat.reduceMul, Nat.reduceSub, Nat.reduceBEq, Nat.reduceGT, Nat.reduceLT, Int.toNat_zero, Nat.reduceLeDiff, Int.reduceEq, Int.reduceLT, Int.reduceLE])
    simp only [tk_map, tk_fm]
    rw [show rowsR descM 200 r = (s.l, s.r) from s.done (by omega)]
    exact Into.keep2A
theorem con86 {Γ : Env} (h : EnvOk Tryz.prog Γ) (h87 : Γ 42 = some S87) (h90 : Γ 45 = some S90) : Con Tryz.prog 41 S86 :=
  heapE_con h (fn := Tryz.f41) (by kernel_rfl) rfl (by kernel_rfl) inj86 fun r h => body86 Γ h87 h90 r h
/-- an object, as it is read -/
def objM (r : Rd) : Ob × Rd :=
  let a := textM r 20
  let k := wordM a.2
  let i := rowsR importM 16 k.2
  let c := rowsR wordM 65536 i.2
  let p := rowsR procM 100 c.2
  let n := anyM p.2
  let v := rowsR anyM 200 n.2
  let s := rowsR anyM 200 v.2
  let t := rowsR (fun r => textM r 200) 200 s.2
  let d := rowsR descM 200 t.2
  let f := rowsR fixM 65536 d.2
  (⟨a.1, k.1, i.1, c.1, p.1.map fun x => x.1, p.1.map fun x => x.2.1, p.1.map fun x => x.2.2, n.1, v.1, s.1, t.1, d.1, f.1⟩, f.2)
def e48 : (Rd) → List AV × Heap := fun r => ([.ref 0 0 0], [.row r.c 3 0])
def p48 : (Rd) → Prop := fun r => r.ok
def r48 : (Rd) → AV := fun r => .agg (objM r).1.c
def g48 : (Rd) → Heap := fun r => [.row (objM r).2.c 3 0]
theorem inj48 : ∀ a b, e48 a = e48 b → a = b := by
  rintro r r' h
  simp only [e48, mi_iff, ms_iff, mb_iff, my_iff, rc_iff, fI_iff, Prod.mk.injEq, List.cons.injEq, AObj.row.injEq, AV.int.injEq, AV.str.injEq, AV.bool.injEq, AV.sl.injEq, AV.agg.injEq, AV.ip.injEq, AV.fn.injEq, AV.ifc.injEq, AV.mpr.injEq, AV.msl.injEq, AV.ref.injEq, Int.natCast_inj, and_true, true_and] at h
  simp_all only
noncomputable def S48 : FSpec := heapE false e48 p48 r48 g48
theorem ps48 (r : (Rd)) : pselK e48 p48 ([.ref 0 0 0], [.row r.c 3 0]) = (r.ok) := pselK_at inj48 p48 r
theorem rs48 (r : (Rd)) : rselK e48 r48 .any ([.ref 0 0 0], [.row r.c 3 0]) = (.agg (objM r).1.c) := rselK_at inj48 r48 .any r
theorem hs48 (r : (Rd)) : rselK e48 g48 [] ([.ref 0 0 0], [.row r.c 3 0]) = ([.row (objM r).2.c 3 0]) := rselK_at inj48 g48 [] r
attribute [push_cast] S48 ps48 rs48 hs48
theorem body48 (Γ : Env) (h75 : Γ 30 = some S75) (h76 : Γ 31 = some S76) (h77 : Γ 32 = some S77) (h79 : Γ 34 = some S79) (h80 : Γ 35 = some S80) (h82 : Γ 37 = some S82) (h84 : Γ 39 = some S84) (h86 : Γ 41 = some S86) (h88 : Γ 43 = some S88) (r : Rd) (hr : r.ok) :
    BodyOk Tryz.prog Γ Tryz.f14 [.ref 0 0 0] [.row r.c 3 0] (.agg (objM r).1.c) [.row (objM r).2.c 3 0] := by
  have ⟨h1, _⟩ := text_ok hr 20
  have ⟨h2, _⟩ := word_ok h1
  have ⟨h3, _⟩ := rows_ok (one := importM) (fun r hr => import_ok hr) 16 h2
  have ⟨h4, _⟩ := rows_ok (one := wordM) (fun r hr => word_ok hr) 65536 h3
  have ⟨h5, _⟩ := rows_ok (one := procM) (fun r hr => proc_ok hr) 100 h4
  have ⟨h6, _⟩ := any_ok h5
  have ⟨h7, _⟩ := rows_ok (one := anyM) (fun r hr => any_ok hr) 200 h6
  have ⟨h8, _⟩ := rows_ok (one := anyM) (fun r hr => any_ok hr) 200 h7
  have ⟨h9, _⟩ := rows_ok (fun r hr => text_ok hr 200) 200 h8
  have ⟨h10, _⟩ := rows_ok (one := descM) (fun r hr => desc_ok hr) 200 h9
  (intro X hP hΓ hL hfin; refine ⟨_, rfl, ?_⟩; rw [show Tryz.f14.ntmps = 48 from rfl]; rw [show Tryz.f14.results.toList = [.cell 2 33] from rfl] at hfin; apply holds_of_ex X 400; simp (maxSteps := 1000000) only [push_cast, reduceCtorEq, Nat.reduceAdd, Nat.reduceMul, Nat.reduceSub, Nat.reduceBEq, Nat.reduceGT, Nat.reduceLT, Int.toNat_zero, Nat.reduceLeDiff, Int.reduceEq, Int.reduceLT, Int.reduceLE, hP, hΓ, hL, hfin, ↓tm_get, String.reduceEq, not_false_eq_true, if_true, h75, h76])
  (refine Holds.drawnE (patH [.row 3 0, .fix (.row [.ref 0 0 0] 1 0)]) [1, 3, 6] [5] [1, 3] true (by rw [hP]; kernel_rfl) (by kernel_rfl) (by kernel_rfl) (by kernel_rfl) (by first | exact .inl rfl | exact .inr fun _ _ h => patH_app _ _ h) (by first | (simp only [push_cast]; done) | (simp only [push_cast, and_true]; omega)) ?_; simp (maxSteps := 1000000) only [↓reduceIte, Option.getD_some, push_cast, reduceCtorEq, Nat.reduceAdd, Nat.reduceMul, Nat.reduceSub, Nat.reduceBEq, Nat.reduceGT, Nat.reduceLT, Int.toNat_zero, Nat.reduceLeDiff, Int.reduceEq, Int.reduceLT, Int.reduceLE, hP, hΓ, hL, hfin, ↓tm_get, String.reduceEq, not_false_eq_true, if_true, h75, h76])
  (repeat (refine And.intro (by first | exact True.intro | omega | assumption | exact own_row _ | (simp only [List.length_append]; omega) | (intro hg; (try simp only [decide_eq_true_eq, decide_eq_false_iff_not, Bool.and_eq_true, Bool.or_eq_true, Bool.and_eq_false_iff, Bool.or_eq_false_iff, Bool.not_eq_true', Bool.not_eq_false', Bool.not_eq_true, Bool.not_eq_false, Int.not_lt, Int.not_le, beq_iff_eq, beq_eq_false_iff_ne, ne_eq, win_t, win_f] at hg); omega)) ?_))
  simp only [anyM] at *
  ((first | with_reducible refine holds_of_ex X 400 _ _ _ ?_ | skip); simp (maxSteps := 1000000) only [push_cast, reduceCtorEq, Nat.reduceAdd, Nat.reduceMul, Nat.reduceSub, Nat.reduceBEq, Nat.reduceGT, Nat.reduceLT, Int.toNat_zero, Nat.reduceLeDiff, Int.reduceEq, Int.reduceLT, Int.reduceLE, hP, hΓ, hL, hfin, ↓tm_get, String.reduceEq, not_false_eq_true, if_true, h75, h76, h77, h79, h80, h82, h84, h86, h88])
  (repeat' (first | assumption | omega | with_reducible apply And.intro))
  simp only [objM, anyM, Ob.c, List.length_map]
  exact Into.keep1A
theorem con48 {Γ : Env} (h : EnvOk Tryz.prog Γ) (h75 : Γ 30 = some S75) (h76 : Γ 31 = some S76) (h77 : Γ 32 = some S77) (h79 : Γ 34 = some S79) (h80 : Γ 35 = some S80) (h82 : Γ 37 = some S82) (h84 : Γ 39 = some S84) (h86 : Γ 41 = some S86) (h88 : Γ 43 = some S88) : Con Tryz.prog 14 S48 :=
  heapE_con h (fn := Tryz.f14) (by kernel_rfl) rfl (by kernel_rfl) inj48 fun r h => body48 Γ h75 h76 h77 h79 h80 h82 h84 h86 h88 r h
end Go.Proofs.YtmilngcgcolpbaaGreat.objDone
