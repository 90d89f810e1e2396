/- Of objects: the reference's Decode. Conditions stand in each. -/
import Derived.Test.YtmilngcgcolpbaaGreatRDb
import Derived.Test.YtmilngcgcolpbaaGreatQG
namespace Go.Proofs.YtmilngcgcolpbaaGreat.objRef
open Go Go.Eng Go.Proofs
open Go.Proofs.YtmilngcgcolpbaaGreat.objNumbersDone (rawU okR valR uintS uintP uintK okT valT nextT textAtS textAtP textAtK)
open Go.Proofs.YtmilngcgcolpbaaGreat.objDone
set_option linter.unusedVariables false
set_option linter.unusedSimpArgs false
set_option maxRecDepth 100000
set_option maxHeartbeats 8000000
def e23 : (Ob) → List AV := fun o => [.agg o.c]
def p23 : (Ob) → Prop := fun o => o.ok ∧ o.u32s
def r23 : (Ob) → AV := fun o => .bool (okB o)
def g23 : (Ob) → Heap := fun o => []
theorem inj23 : ∀ a b, e23 a = e23 b → a = b := by
  rintro o o' h
  simp only [e23, mi_iff, ms_iff, mb_iff, my_iff, rc_iff, fI_iff, fD_iff, fF_iff, oc_iff, dc_iff, fc_iff, ic_iff, List.cons.injEq, AV.int.injEq, AV.str.injEq, AV.bool.injEq, AV.sl.injEq, AV.agg.injEq, AV.ip.injEq, AV.fn.injEq, AV.ifc.injEq, AV.mpr.injEq, Int.natCast_inj, and_true, true_and] at h
  simp_all only
noncomputable def S23 : FSpec := funS e23 p23 r23 g23 true
theorem ps23 (o : (Ob)) : psel e23 p23 [.agg o.c] = (o.ok ∧ o.u32s) := psel_at inj23 p23 o
theorem rs23 (o : (Ob)) : rsel e23 r23 .any [.agg o.c] = (.bool (okB o)) := rsel_at inj23 r23 .any o
theorem hs23 (o : (Ob)) : rsel e23 g23 [] [.agg o.c] = ([]) := rsel_at inj23 g23 [] o
attribute [push_cast] S23 ps23 rs23 hs23
theorem body23 (Γ : Env) (h50 : Γ 50 = some objDone.S19) (o : Ob) (ho : o.ok) (hu : o.u32s) : BodyOk Tryz.prog Γ Tryz.f23 (e23 o) [] (.bool (okB o)) [] := by
  (intro X hP hΓ hL hfin; refine ⟨_, rfl, ?_⟩; rw [show Tryz.f23.ntmps = 12 from rfl]; rw [show Tryz.f23.results.toList = [.tmp 2] from rfl] at hfin; apply holds_of_ex X 400; simp (maxSteps := 1000000) only [push_cast, reduceCtorEq, Nat.reduceAdd, Nat.reduceMul, Nat.reduceSub, Nat.reduceBEq, Nat.reduceGT, Nat.reduceLT, Int.toNat_zero, Nat.reduceLeDiff, Int.reduceEq, Int.reduceLT, Int.reduceLE, hP, hΓ, hL, hfin, ↓tm_get, String.reduceEq, not_false_eq_true, if_true, Rd.sto, Rd.sill, Rd.to_b, Rd.to_at, e23, h50])
  refine ⟨⟨ho, hu⟩, ?_⟩
  rw [show decide (encE o = 0) = okB o by unfold encE; cases okB o <;> rfl]
  exact Into.keep0A
theorem con23 {Γ : Env} (h : EnvOk Tryz.prog Γ) (h50 : Γ 50 = some objDone.S19) : Con Tryz.prog 23 S23 :=
  funS_con h (fn := Tryz.f23) (by kernel_rfl) rfl (by kernel_rfl) inj23 (by first | (intro h; cases h; done) | exact fun _ _ => rfl) fun o h => body23 Γ h50 o h.1 h.2
theorem objM_first (r : Rd) : objM r = ({ (firstM r).1 with descs := (rowsR descM 200 (firstM r).2).1, fixes := (rowsR fixM 65536 (rowsR descM 200 (firstM r).2).2).1 }, (rowsR fixM 65536 (rowsR descM 200 (firstM r).2).2).2) := by
  simp only [objM, firstM]
theorem first_ok {r : Rd} (hr : r.ok) : (firstM r).2.ok ∧ (firstM r).2.b = r.b := by
  have h1 := text_ok hr 20
  have h2 := word_ok h1.1
  have h3 := rows_ok (one := importM) (fun r hr => import_ok hr) 16 h2.1
  have h4 := rows_ok (one := wordM) (fun r hr => word_ok hr) 65536 h3.1
  have h5 := rows_ok (one := procM) (fun r hr => proc_ok hr) 100 h4.1
  have h6 := any_ok h5.1
  have h7 := rows_ok (one := anyM) (fun r hr => any_ok hr) 200 h6.1
  have h8 := rows_ok (one := anyM) (fun r hr => any_ok hr) 200 h7.1
  have h9 := rows_ok (one := fun r => textM r 200) (fun r hr => text_ok hr 200) 200 h8.1
  exact ⟨h9.1, h9.2.trans (h8.2.trans (h7.2.trans (h6.2.trans (h5.2.trans (h4.2.trans (h3.2.trans (h2.2.trans h1.2)))))))⟩
def e7 : (Bytes) × (Nat) → List AV := fun (b, n) => [.sl (b.map byteAV) n]
def p7 : (Bytes) × (Nat) → Prop := fun (b, n) => n = b.length ∧ b.length ≤ 4194304
def r7 : (Bytes) × (Nat) → AV := fun (b, n) => .tup [.agg (decM b).1.c, .int .i64 (decM b).2.1, .int .i64 (decM b).2.2]
def g7 : (Bytes) × (Nat) → Heap := fun (b, n) => []
theorem inj7 : ∀ a b, e7 a = e7 b → a = b := by
  rintro ⟨b, n⟩ ⟨b', n'⟩ h
  simp only [e7, mi_iff, ms_iff, mb_iff, my_iff, rc_iff, fI_iff, fD_iff, fF_iff, oc_iff, dc_iff, fc_iff, ic_iff, List.cons.injEq, AV.int.injEq, AV.str.injEq, AV.bool.injEq, AV.sl.injEq, AV.agg.injEq, AV.ip.injEq, AV.fn.injEq, AV.ifc.injEq, AV.mpr.injEq, Int.natCast_inj, and_true, true_and] at h
  simp_all only
noncomputable def S7 : FSpec := funS e7 p7 r7 g7 false
theorem ps7 (b : (Bytes)) (n : (Nat)) : psel e7 p7 [.sl (b.map byteAV) n] = (n = b.length ∧ b.length ≤ 4194304) := psel_at inj7 p7 (b, n)
theorem rs7 (b : (Bytes)) (n : (Nat)) : rsel e7 r7 .any [.sl (b.map byteAV) n] = (.tup [.agg (decM b).1.c, .int .i64 (decM b).2.1, .int .i64 (decM b).2.2]) := rsel_at inj7 r7 .any (b, n)
theorem hs7 (b : (Bytes)) (n : (Nat)) : rsel e7 g7 [] [.sl (b.map byteAV) n] = ([]) := rsel_at inj7 g7 [] (b, n)
attribute [push_cast] S7 ps7 rs7 hs7
theorem body7 (Γ : Env) (h17 : Γ 17 = some S17) (h18 : Γ 18 = some objDone.S73) (h19 : Γ 19 = some S19) (h20 : Γ 20 = some S20) (h21 : Γ 21 = some S21) (h22 : Γ 22 = some S22) (h23 : Γ 23 = some S23) (b : Bytes) (hb : b.length ≤ 4194304) :
    BodyOk Tryz.prog Γ Tryz.f7 (e7 (b, b.length)) [] (.tup [.agg (decM b).1.c, .int .i64 (decM b).2.1, .int .i64 (decM b).2.2]) [] := by
  have hE : ∀ h : 8 ≤ b.length, (⟨b.take (b.length - 4), 4, -1⟩ : Rd).ok := fun h => ⟨by simp; omega, by simp, by simp; omega⟩
  (intro X hP hΓ hL hfin; refine ⟨_, rfl, ?_⟩; rw [show Tryz.f7.ntmps = 162 from rfl]; rw [show Tryz.f7.results.toList = [.cell 2 33, .tmp 3, .tmp 4] from rfl] at hfin; apply holds_of_ex X 400; simp (maxSteps := 1000000) only [push_cast, reduceCtorEq, Nat.reduceAdd, Nat.reduceMul, Nat.reduceSub, Nat.reduceBEq, Nat.reduceGT, Nat.reduceLT, Int.toNat_zero, Nat.reduceLeDiff, Int.reduceEq, Int.reduceLT, Int.reduceLE, hP, hΓ, hL, hfin, ↓tm_get, String.reduceEq, not_false_eq_true, if_true, Rd.sto, Rd.sill, Rd.to_b, Rd.to_at, e7])
  refine ⟨fun h => ?_, fun h => ?_, ?_⟩
  · simp only [Bool.not_eq_true', Bool.or_eq_false_iff, decide_eq_false_iff_not] at h; omega
  · simp only [Bool.not_eq_true', Bool.or_eq_false_iff, decide_eq_false_iff_not] at h
    refine ⟨by rw [← List.map_take]; exact allBytes_map _, by simp; omega⟩
  rw [← List.map_take, unbytes_map]
  refine exB_split (fun h => ?_) (fun h => ?_)
  · have hh : hdrB b = false := by
      rw [← Bool.not_eq_true]
      intro hc
      simp only [hdrB, Bool.and_eq_true, decide_eq_true_eq, beq_iff_eq] at hc
      simp only [Bool.or_eq_true, decide_eq_true_eq, Bool.not_eq_true', beq_eq_false_iff_ne] at h
      rcases h with h | h
      · omega
      · exact h (by simpa using hc.2)
    ((first | with_reducible refine holds_of_ex X 400 _ _ _ ?_ | skip); simp (maxSteps := 1000000) only [push_cast, reduceCtorEq, Nat.reduceAdd, Nat.reduceMul, Nat.reduceSub, Nat.reduceBEq, Nat.reduceGT, Nat.reduceLT, Int.toNat_zero, Nat.reduceLeDiff, Int.reduceEq, Int.reduceLT, Int.reduceLE, hP, hΓ, hL, hfin, ↓tm_get, String.reduceEq, not_false_eq_true, if_true, Rd.sto, Rd.sill, Rd.to_b, Rd.to_at])
    rw [show decM b = (.zero, 0, 71) by rw [decM, if_pos hh]]
    refine IntoF.soft ?_
    simp only [push_cast, Ob.zero, Ob.c, List.map_nil, List.flatMap_nil, List.length_nil]
    exact Into.keep0A
  have hh : hdrB b = true := by
    simp only [Bool.or_eq_false_iff, decide_eq_false_iff_not, Bool.not_eq_false', beq_iff_eq] at h
    simp only [hdrB, Bool.and_eq_true, decide_eq_true_eq, beq_iff_eq]
    exact ⟨by omega, by simpa using h.2⟩
  have h8 : 8 ≤ b.length := by
    simp only [hdrB, Bool.and_eq_true, decide_eq_true_eq] at hh; omega
  ((first | with_reducible refine holds_of_ex X 400 _ _ _ ?_ | skip); simp (maxSteps := 1000000) only [push_cast, reduceCtorEq, Nat.reduceAdd, Nat.reduceMul, Nat.reduceSub, Nat.reduceBEq, Nat.reduceGT, Nat.reduceLT, Int.toNat_zero, Nat.reduceLeDiff, Int.reduceEq, Int.reduceLT, Int.reduceLE, hP, hΓ, hL, hfin, ↓tm_get, String.reduceEq, not_false_eq_true, if_true, Rd.sto, Rd.sill, Rd.to_b, Rd.to_at, h17, h18, wr_i64 ((b.length : Int) - 4) (by constructor <;> omega), ← List.map_take])
  have hB : (objNumbersDone.BIG : Nat) = 140737488355328 := rfl
  have hn : ((b.length : Int) - 4).toNat = b.length - 4 := by omega
  rw [hn]
  refine ⟨hb, ⟨by omega, by omega, by omega⟩, ⟨by omega, by omega⟩, ?_⟩
  refine exB_split (fun h2 => ?_) (fun h2 => ?_)
  · ((first | with_reducible refine holds_of_ex X 400 _ _ _ ?_ | skip); simp (maxSteps := 1000000) only [push_cast, reduceCtorEq, Nat.reduceAdd, Nat.reduceMul, Nat.reduceSub, Nat.reduceBEq, Nat.reduceGT, Nat.reduceLT, Int.toNat_zero, Nat.reduceLeDiff, Int.reduceEq, Int.reduceLT, Int.reduceLE, hP, hΓ, hL, hfin, ↓tm_get, String.reduceEq, not_false_eq_true, if_true, Rd.sto, Rd.sill, Rd.to_b, Rd.to_at])
    rw [show decM b = (.zero, (b.length : Int) - 4, 72) by rw [decM, if_neg (by rw [hh]; decide), if_pos (by simpa using h2)]]
    refine IntoF.soft ?_
    simp only [push_cast, Ob.zero, Ob.c, List.map_nil, List.flatMap_nil, List.length_nil]
    exact Into.keep0A
  have h2' : ¬ getV b ((b.length : Int) - 4) ≠ sumI (b.take (b.length - 4)) := by simpa using h2
  have hlt : (b.take (b.length - 4)).length = b.length - 4 := by simp
  obtain ⟨r0, hr0⟩ : ∃ r0 : Rd, r0 = ⟨b.take (b.length - 4), 4, -1⟩ := ⟨_, rfl⟩
  have hc : [AV.sl ((b.take (b.length - 4)).map byteAV) (b.length - 4 - 0), AV.int .i64 4, AV.int .i64 (-1)] = r0.c := by
    rw [hr0, Rd.c, hlt]; rfl
  have hro : r0.ok := by rw [hr0]; exact hE h8
  have hbl : r0.b.length = b.length - 4 := by rw [hr0]; exact hlt
  obtain ⟨o, rf, eF⟩ : ∃ a b, firstM r0 = (a, b) := ⟨_, _, rfl⟩
  have okf : rf.ok ∧ rf.b = r0.b := by have := first_ok hro; rwa [eF] at this
  obtain ⟨n1, q1, en1⟩ : ∃ a b, numM rf 200 = (a, b) := ⟨_, _, rfl⟩
  have okq1 : q1.ok ∧ q1.b = rf.b := by have := num_ok okf.1 200; rwa [en1] at this
  have bn1 : 0 ≤ n1 ∧ n1 < 4294967296 := by have := num_b rf 200; rwa [en1] at this
  have ln1 : n1 ≤ 200 := by have := num_le rf 200 (by omega); rwa [en1] at this
  ((first | with_reducible refine holds_of_ex X 400 _ _ _ ?_ | skip); simp (maxSteps := 1000000) only [push_cast, reduceCtorEq, Nat.reduceAdd, Nat.reduceMul, Nat.reduceSub, Nat.reduceBEq, Nat.reduceGT, Nat.reduceLT, Int.toNat_zero, Nat.reduceLeDiff, Int.reduceEq, Int.reduceLT, Int.reduceLE, hP, hΓ, hL, hfin, ↓tm_get, String.reduceEq, not_false_eq_true, if_true, Rd.sto, Rd.sill, Rd.to_b, Rd.to_at, h19, h20, hn, ← List.map_take, hc, eF, oF, en1])
  refine ⟨⟨by omega, by omega, by omega⟩, fun x hx _ => ?_, hro, okf.1, ?_⟩
  · simp only [Rd.c, List.mem_cons, List.not_mem_nil, or_false] at hx
    rcases hx with rfl | rfl | rfl <;> rfl
  refine Holds.nilH 2 11 3 rfl rfl ?_
  simp only [List.set_cons_succ, List.set_cons_zero, List.cons_append, List.nil_append, List.length_cons, List.length_nil, Nat.zero_add, Nat.reduceAdd]
  refine Holds.loopM (ι := RowSt descM n1.toNat q1) [false, false, true, true, true, true, false, false, true, true, true, false, false, false, false, true, true, true, false, false, false, false, false, false, false, false, false, false, false, false, false, false, false, false, false, false, false, false, false, false, false, false, false, false, false, false, false, false, false, false, false, false, false, false, false, false, false, false, false, false, false, false, false, false, false, false, false, false, false, false, false, false, false, false, false, false, false, false, false, false, false, false, false, false, false, false, false, false, false, false, false, false, false, false, false, false, false, false, false, false, false, false, false, false, false, false, false, false, false, false, false, false, false, false, false, false, false, false, false, false, false, false, false, false, false, false, false, false, false, false, false, false, false, false, false, false, false, false, false, false, false, false, false, false, false, false, false, false, false, false, false, false, false, false, false, false, false, false, false, false, false, false] (fun i => [(11, .int .i64 i.l.length)]) (fun i => [.row [.str [], .int .u32 0, .lit (.slice none 0 0), .lit (.slice none 0 0), .lit (.slice none 0 0), .lit (.slice none 0 0), .lit (.slice none 0 0), .int .i64 0, .lit (.slice none 0 0), .lit (.slice none 0 0), .lit (.slice none 0 0), .lit (.slice none 0 0), .lit (.slice none 0 0)] 13 0, .row i.r.c 3 0, .row [.str o.name, .int .u32 o.key, .sl (o.imps.flatMap Im.c) o.imps.length, .sl (o.code.map (.int .u32)) o.code.length, .sl (o.procs.map (.int .i64)) o.procs.length, .sl (o.names.map .str) o.names.length, .sl (o.exps.map .bool) o.exps.length, .int .i64 o.init, .sl (o.vars.map (.int .i64)) o.vars.length, .sl (o.shown.map (.int .i64)) o.shown.length, .sl (o.strs.map .str) o.strs.length, .msl 3 i.l.length 0 i.l.length, .lit (.slice none 0 0)] 13 0, .row (i.l.flatMap Ds.c) 3 i.l.length]) (fun i => i.c) (RowSt.init _ _ _ okq1.1) ?_ ?_
  · rw [hL]; simp only [push_cast, Int.natCast_zero, RowSt.init, List.map_nil, List.flatMap_nil, List.length_nil]
    exact Into.sameA
  intro s1
  have hl1 := s1.len
  ((first | with_reducible refine holds_of_ex X 4 _ _ _ ?_ | skip); simp (maxSteps := 1000000) only [push_cast, reduceCtorEq, Nat.reduceAdd, Nat.reduceMul, Nat.reduceSub, Nat.reduceBEq, Nat.reduceGT, Nat.reduceLT, Int.toNat_zero, Nat.reduceLeDiff, Int.reduceEq, Int.reduceLT, Int.reduceLE, hP, hΓ, hL, hfin, ↓tm_get, String.reduceEq, not_false_eq_true, if_true, Rd.sto, Rd.sill, Rd.to_b, Rd.to_at])
  ((with_reducible refine exB_split (fun h => ?_) (fun h => ?_)) <;> (try simp only [decide_eq_true_eq, decide_eq_false_iff_not, Bool.and_eq_true, Bool.or_eq_true, Bool.and_eq_false_iff, Bool.or_eq_false_iff, Bool.not_eq_true', Bool.not_eq_false', Bool.not_eq_true, Bool.not_eq_false, Int.not_lt, Int.not_le, beq_iff_eq, beq_eq_false_iff_ne, ne_eq, win_t, win_f] at h))
  · obtain ⟨ta, ra, ea⟩ : ∃ a b, numM s1.r 4294967295 = (a, b) := ⟨_, _, rfl⟩
    have oka : ra.ok := by have := (num_ok s1.ok 4294967295).1; rwa [ea] at this
    obtain ⟨tb, rb, eb⟩ : ∃ a b, numM ra 4294967295 = (a, b) := ⟨_, _, rfl⟩
    have okb : rb.ok := by have := (num_ok oka 4294967295).1; rwa [eb] at this
    obtain ⟨m1, p1, em⟩ : ∃ a b, numM rb 4 = (a, b) := ⟨_, _, rfl⟩
    have okp : p1.ok := by have := (num_ok okb 4).1; rwa [em] at this
    have bm : 0 ≤ m1 ∧ m1 < 4294967296 := by have := num_b rb 4; rwa [em] at this
    have lm : m1 ≤ 4 := by have := num_le rb 4 (by omega); rwa [em] at this
    ((first | with_reducible refine holds_of_ex X 400 _ _ _ ?_ | skip); simp (maxSteps := 1000000) only [push_cast, reduceCtorEq, Nat.reduceAdd, Nat.reduceMul, Nat.reduceSub, Nat.reduceBEq, Nat.reduceGT, Nat.reduceLT, Int.toNat_zero, Nat.reduceLeDiff, Int.reduceEq, Int.reduceLT, Int.reduceLE, hP, hΓ, hL, hfin, ↓tm_get, String.reduceEq, not_false_eq_true, if_true, Rd.sto, Rd.sill, Rd.to_b, Rd.to_at, h20, ea, eb, em])
    refine ⟨s1.ok, oka, okb, ?_⟩
    refine Holds.nilH 4 2 1 rfl rfl ?_
    simp only [List.set_cons_succ, List.set_cons_zero, List.cons_append, List.nil_append, List.length_cons, List.length_nil, Nat.zero_add, Nat.reduceAdd]
    refine Holds.loopM (ι := RowSt anyM m1.toNat p1) [false, false, true, true, true, true, false, false, true, true, true, true, true, true, false, true, true, true, false, false, false, false, false, false, false, false, false, false, false, false, false, false, false, false, false, false, false, false, false, false, false, false, false, false, false, false, false, false, false, false, false, false, false, false, false, false, false, false, false, false, false, false, false, false, false, false, false, false, false, false, false, false, false, false, false, false, false, false, false, false, false, false, false, false, false, false, false, false, false, false, false, false, false, false, false, false, false, false, false, false, false, false, false, false, false, false, false, false, false, false, false, false, false, false, false, false, false, false, false, false, false, false, false, false, false, false, false, false, false, false, false, false, false, false, false, false, false, false, false, false, false, false, false, false, false, false, false, false, false, false, false, false, false, false, false, false, false, false, false, false, false, false] (fun i => [(14, .int .i64 i.l.length), (11, .int .i64 s1.l.length), (12, .ref 4 0 0)]) (fun i => [.row [.str [], .int .u32 0, .lit (.slice none 0 0), .lit (.slice none 0 0), .lit (.slice none 0 0), .lit (.slice none 0 0), .lit (.slice none 0 0), .int .i64 0, .lit (.slice none 0 0), .lit (.slice none 0 0), .lit (.slice none 0 0), .lit (.slice none 0 0), .lit (.slice none 0 0)] 13 0, .row i.r.c 3 0, .row [.str o.name, .int .u32 o.key, .sl (o.imps.flatMap Im.c) o.imps.length, .sl (o.code.map (.int .u32)) o.code.length, .sl (o.procs.map (.int .i64)) o.procs.length, .sl (o.names.map .str) o.names.length, .sl (o.exps.map .bool) o.exps.length, .int .i64 o.init, .sl (o.vars.map (.int .i64)) o.vars.length, .sl (o.shown.map (.int .i64)) o.shown.length, .sl (o.strs.map .str) o.strs.length, .msl 3 s1.l.length 0 s1.l.length, .lit (.slice none 0 0)] 13 0, .row (s1.l.flatMap Ds.c) 3 s1.l.length, .row [.int .i64 ta, .int .i64 tb, .msl 5 i.l.length 0 i.l.length] 3 0, .row (i.l.map (.int .i64)) 1 i.l.length]) (fun i => i.c) (RowSt.init _ _ _ okp) ?_ ?_
    · rw [hL]; simp only [push_cast, Int.natCast_zero, RowSt.init, List.map_nil, List.flatMap_nil, List.length_nil]
      exact Into.sameA
    intro t1
    have hlt1 := t1.len
    ((first | with_reducible refine holds_of_ex X 4 _ _ _ ?_ | skip); simp (maxSteps := 1000000) only [push_cast, reduceCtorEq, Nat.reduceAdd, Nat.reduceMul, Nat.reduceSub, Nat.reduceBEq, Nat.reduceGT, Nat.reduceLT, Int.toNat_zero, Nat.reduceLeDiff, Int.reduceEq, Int.reduceLT, Int.reduceLE, hP, hΓ, hL, hfin, ↓tm_get, String.reduceEq, not_false_eq_true, if_true, Rd.sto, Rd.sill, Rd.to_b, Rd.to_at])
    ((with_reducible refine exB_split (fun h => ?_) (fun h => ?_)) <;> (try simp only [decide_eq_true_eq, decide_eq_false_iff_not, Bool.and_eq_true, Bool.or_eq_true, Bool.and_eq_false_iff, Bool.or_eq_false_iff, Bool.not_eq_true', Bool.not_eq_false', Bool.not_eq_true, Bool.not_eq_false, Int.not_lt, Int.not_le, beq_iff_eq, beq_eq_false_iff_ne, ne_eq, win_t, win_f] at h))
    · ((first | with_reducible refine holds_of_ex X 400 _ _ _ ?_ | skip); simp (maxSteps := 1000000) only [push_cast, reduceCtorEq, Nat.reduceAdd, Nat.reduceMul, Nat.reduceSub, Nat.reduceBEq, Nat.reduceGT, Nat.reduceLT, Int.toNat_zero, Nat.reduceLeDiff, Int.reduceEq, Int.reduceLT, Int.reduceLE, hP, hΓ, hL, hfin, ↓tm_get, String.reduceEq, not_false_eq_true, if_true, Rd.sto, Rd.sill, Rd.to_b, Rd.to_at])
      (refine Holds.drawnE (patH [.fix (.row [.str [], .int .u32 0, .lit (.slice none 0 0), .lit (.slice none 0 0), .lit (.slice none 0 0), .lit (.slice none 0 0), .lit (.slice none 0 0), .int .i64 0, .lit (.slice none 0 0), .lit (.slice none 0 0), .lit (.slice none 0 0), .lit (.slice none 0 0), .lit (.slice none 0 0)] 13 0), .row 3 0, .fix (.row [.str o.name, .int .u32 o.key, .sl (o.imps.flatMap Im.c) o.imps.length, .sl (o.code.map (.int .u32)) o.code.length, .sl (o.procs.map (.int .i64)) o.procs.length, .sl (o.names.map .str) o.names.length, .sl (o.exps.map .bool) o.exps.length, .int .i64 o.init, .sl (o.vars.map (.int .i64)) o.vars.length, .sl (o.shown.map (.int .i64)) o.shown.length, .sl (o.strs.map .str) o.strs.length, .msl 3 s1.l.length 0 s1.l.length, .lit (.slice none 0 0)] 13 0), .fix (.row (s1.l.flatMap Ds.c) 3 s1.l.length), .fix (.row [.int .i64 ta, .int .i64 tb, .msl 5 t1.l.length 0 t1.l.length] 3 0)]) [2, 3, 5, 7] [] [] true (by rw [hP]; kernel_rfl) (by kernel_rfl) (by kernel_rfl) (by kernel_rfl) (by first | exact .inl rfl | exact .inr fun _ _ h => patH_app _ _ h) (by first | (simp only [push_cast]; done) | (simp only [push_cast, and_true]; omega)) ?_; simp (maxSteps := 1000000) only [↓reduceIte, Option.getD_some, push_cast, reduceCtorEq, Nat.reduceAdd, Nat.reduceMul, Nat.reduceSub, Nat.reduceBEq, Nat.reduceGT, Nat.reduceLT, Int.toNat_zero, Nat.reduceLeDiff, Int.reduceEq, Int.reduceLT, Int.reduceLE, hP, hΓ, hL, hfin, ↓tm_get, String.reduceEq, not_false_eq_true, if_true, Rd.sto, Rd.sill, Rd.to_b, Rd.to_at, h20])
      refine ⟨t1.ok, by omega, ?_⟩
      ((first | with_reducible refine holds_of_ex X 400 _ _ _ ?_ | skip); simp (maxSteps := 1000000) only [push_cast, reduceCtorEq, Nat.reduceAdd, Nat.reduceMul, Nat.reduceSub, Nat.reduceBEq, Nat.reduceGT, Nat.reduceLT, Int.toNat_zero, Nat.reduceLeDiff, Int.reduceEq, Int.reduceLT, Int.reduceLE, hP, hΓ, hL, hfin, ↓tm_get, String.reduceEq, not_false_eq_true, if_true, Rd.sto, Rd.sill, Rd.to_b, Rd.to_at, wr_i64 ((t1.l.length : Int) + 1) (by constructor <;> omega)])
      refine ⟨t1.next (fun r hr => (num_ok hr _).1) (by omega) h.2, by simp only [RowSt.next]; omega, ?_⟩
      simp only [RowSt.next, List.map_append, List.map_cons, List.map_nil, List.flatMap_append, List.flatMap_cons, List.flatMap_nil, List.append_nil, List.length_append, List.length_cons, List.length_nil, Nat.zero_add, Int.natCast_add, Int.natCast_one]
      exact Into.sameA
    (refine Holds.frz 5 (by rw [hL]; simp) (by simp only [frzOk', frzOk, isMap, or_true, true_or, push_cast, reduceCtorEq, Nat.reduceAdd, Nat.reduceMul, Nat.reduceSub, Nat.reduceBEq, Nat.reduceGT, Nat.reduceLT, Int.toNat_zero, Nat.reduceLeDiff, Int.reduceEq, Int.reduceLT, Int.reduceLE]) ?_; simp only [push_cast, reduceCtorEq, Nat.reduceAdd, Nat.reduceMul, Nat.reduceSub, Nat.reduceBEq, Nat.reduceGT, Nat.reduceLT, Int.toNat_zero, Nat.reduceLeDiff, Int.reduceEq, Int.reduceLT, Int.reduceLE])
    simp only [tk_map, tk_fm, tk_mm]
    have eT := rowsR_done em t1 (by omega)
    obtain ⟨tl, rt, ht⟩ : ∃ a b, (t1.l = a ∧ t1.r = b) := ⟨_, _, rfl, rfl⟩
    have okt : rt.ok := by have := t1.ok; rwa [ht.2] at this
    rw [ht.1, ht.2] at eT
    simp only [ht.1, ht.2]
    have eD : descM s1.r = (⟨ta, tb, tl⟩, rt) := by simp only [descM, anyM, ea, eb, eT]
    have hcell : ∀ l : List Ds, l.flatMap Ds.c ++ [AV.int .i64 ta, AV.int .i64 tb, AV.sl (tl.map (.int .i64)) tl.length] = (l ++ [(⟨ta, tb, tl⟩ : Ds)]).flatMap Ds.c := fun l => by simp [Ds.c]
    ((first | with_reducible refine holds_of_ex X 400 _ _ _ ?_ | skip); simp (maxSteps := 1000000) only [push_cast, reduceCtorEq, Nat.reduceAdd, Nat.reduceMul, Nat.reduceSub, Nat.reduceBEq, Nat.reduceGT, Nat.reduceLT, Int.toNat_zero, Nat.reduceLeDiff, Int.reduceEq, Int.reduceLT, Int.reduceLE, hP, hΓ, hL, hfin, ↓tm_get, String.reduceEq, not_false_eq_true, if_true, Rd.sto, Rd.sill, Rd.to_b, Rd.to_at, hcell, wr_i64 ((s1.l.length : Int) + 1) (by constructor <;> omega)])
    refine ⟨by omega, s1.next (fun r hr => (desc_ok hr).1) (by omega) (by omega), by simp only [RowSt.next]; omega, ?_⟩
    simp only [RowSt.next, eD, List.length_append, List.length_cons, List.length_nil, Nat.zero_add, Int.natCast_add, Int.natCast_one]
    exact Into.keep4A
  (refine Holds.frz 3 (by rw [hL]; simp) (by simp only [frzOk', frzOk, isMap, or_true, true_or, push_cast, reduceCtorEq, Nat.reduceAdd, Nat.reduceMul, Nat.reduceSub, Nat.reduceBEq, Nat.reduceGT, Nat.reduceLT, Int.toNat_zero, Nat.reduceLeDiff, Int.reduceEq, Int.reduceLT, Int.reduceLE]) ?_; simp only [push_cast, reduceCtorEq, Nat.reduceAdd, Nat.reduceMul, Nat.reduceSub, Nat.reduceBEq, Nat.reduceGT, Nat.reduceLT, Int.toNat_zero, Nat.reduceLeDiff, Int.reduceEq, Int.reduceLT, Int.reduceLE])
  simp only [tk_map, tk_fm, tk_mm]
  have eR1 := rowsR_done en1 s1 (by omega)
  obtain ⟨l1, r1, hs1⟩ : ∃ a b, (s1.l = a ∧ s1.r = b) := ⟨_, _, rfl, rfl⟩
  have ok1 : r1.ok := by have := s1.ok; rwa [hs1.2] at this
  have k1 : r1.b = rf.b := by have := (rows_ok (one := descM) (fun r hr => desc_ok hr) 200 okf.1).2; rw [eR1, hs1.2] at this; exact this
  rw [hs1.1, hs1.2] at eR1
  simp only [hs1.1, hs1.2]
  obtain ⟨n2, q2, en2⟩ : ∃ a b, numM r1 65536 = (a, b) := ⟨_, _, rfl⟩
  have okq2 : q2.ok := by have := (num_ok ok1 65536).1; rwa [en2] at this
  have bn2 : 0 ≤ n2 ∧ n2 < 4294967296 := by have := num_b r1 65536; rwa [en2] at this
  have ln2 : n2 ≤ 65536 := by have := num_le r1 65536 (by omega); rwa [en2] at this
  ((first | with_reducible refine holds_of_ex X 400 _ _ _ ?_ | skip); simp (maxSteps := 1000000) only [push_cast, reduceCtorEq, Nat.reduceAdd, Nat.reduceMul, Nat.reduceSub, Nat.reduceBEq, Nat.reduceGT, Nat.reduceLT, Int.toNat_zero, Nat.reduceLeDiff, Int.reduceEq, Int.reduceLT, Int.reduceLE, hP, hΓ, hL, hfin, ↓tm_get, String.reduceEq, not_false_eq_true, if_true, Rd.sto, Rd.sill, Rd.to_b, Rd.to_at, h20, en2])
  refine ⟨ok1, ?_⟩
  refine Holds.nilH 2 12 4 rfl rfl ?_
  simp only [List.set_cons_succ, List.set_cons_zero, List.cons_append, List.nil_append, List.length_cons, List.length_nil, Nat.zero_add, Nat.reduceAdd]
  refine Holds.loopM (ι := RowSt fixM n2.toNat q2) [false, false, true, true, true, true, false, false, true, true, true, false, false, false, false, false, false, true, false, false, false, false, false, false, false, false, false, false, false, false, false, false, false, false, false, false, false, false, false, false, false, false, false, false, false, false, false, false, false, false, false, false, false, false, false, false, false, false, false, false, false, false, false, false, false, false, false, false, false, false, false, false, false, false, false, false, false, false, false, false, false, false, false, false, false, false, false, false, false, false, false, false, false, false, false, false, false, false, false, false, false, false, false, false, false, false, false, false, false, false, false, false, false, false, false, false, false, false, false, false, false, false, false, false, false, false, false, false, false, false, false, false, false, false, false, false, false, false, false, false, false, false, false, false, false, false, false, false, false, false, false, false, false, false, false, false, false, false, false, false, false, false] (fun i => [(15, .int .i64 i.l.length)]) (fun i => [.row [.str [], .int .u32 0, .lit (.slice none 0 0), .lit (.slice none 0 0), .lit (.slice none 0 0), .lit (.slice none 0 0), .lit (.slice none 0 0), .int .i64 0, .lit (.slice none 0 0), .lit (.slice none 0 0), .lit (.slice none 0 0), .lit (.slice none 0 0), .lit (.slice none 0 0)] 13 0, .row i.r.c 3 0, .row [.str o.name, .int .u32 o.key, .sl (o.imps.flatMap Im.c) o.imps.length, .sl (o.code.map (.int .u32)) o.code.length, .sl (o.procs.map (.int .i64)) o.procs.length, .sl (o.names.map .str) o.names.length, .sl (o.exps.map .bool) o.exps.length, .int .i64 o.init, .sl (o.vars.map (.int .i64)) o.vars.length, .sl (o.shown.map (.int .i64)) o.shown.length, .sl (o.strs.map .str) o.strs.length, .sl (l1.flatMap Ds.c) l1.length, .msl 4 i.l.length 0 i.l.length] 13 0, .dead, .row (i.l.flatMap Fx.c) 4 i.l.length]) (fun i => i.c) (RowSt.init _ _ _ okq2) ?_ ?_
  · rw [hL]; simp only [push_cast, Int.natCast_zero, RowSt.init, List.map_nil, List.flatMap_nil, List.length_nil]
    exact Into.sameA
  intro s2
  have hl2 := s2.len
  ((first | with_reducible refine holds_of_ex X 4 _ _ _ ?_ | skip); simp (maxSteps := 1000000) only [push_cast, reduceCtorEq, Nat.reduceAdd, Nat.reduceMul, Nat.reduceSub, Nat.reduceBEq, Nat.reduceGT, Nat.reduceLT, Int.toNat_zero, Nat.reduceLeDiff, Int.reduceEq, Int.reduceLT, Int.reduceLE, hP, hΓ, hL, hfin, ↓tm_get, String.reduceEq, not_false_eq_true, if_true, Rd.sto, Rd.sill, Rd.to_b, Rd.to_at])
  ((with_reducible refine exB_split (fun h => ?_) (fun h => ?_)) <;> (try simp only [decide_eq_true_eq, decide_eq_false_iff_not, Bool.and_eq_true, Bool.or_eq_true, Bool.and_eq_false_iff, Bool.or_eq_false_iff, Bool.not_eq_true', Bool.not_eq_false', Bool.not_eq_true, Bool.not_eq_false, Int.not_lt, Int.not_le, beq_iff_eq, beq_eq_false_iff_ne, ne_eq, win_t, win_f] at h))
  · obtain ⟨ta, ra, ea⟩ : ∃ a b, numM s2.r 4294967295 = (a, b) := ⟨_, _, rfl⟩
    have oka : ra.ok := by have := (num_ok s2.ok 4294967295).1; rwa [ea] at this
    obtain ⟨tb, rb, eb⟩ : ∃ a b, byteM ra 255 = (a, b) := ⟨_, _, rfl⟩
    have okb : rb.ok := by have := (byte_ok oka 255).1; rwa [eb] at this
    have bb : 0 ≤ tb ∧ tb < 256 := by have := byte_b ra 255; rwa [eb] at this
    obtain ⟨tc, rc, ec⟩ : ∃ a b, numM rb 16 = (a, b) := ⟨_, _, rfl⟩
    have okc : rc.ok := by have := (num_ok okb 16).1; rwa [ec] at this
    have bc : 0 ≤ tc ∧ tc < 4294967296 := by have := num_b rb 16; rwa [ec] at this
    obtain ⟨td, rd, ed⟩ : ∃ a b, numM rc 4294967295 = (a, b) := ⟨_, _, rfl⟩
    have okd : rd.ok := by have := (num_ok okc 4294967295).1; rwa [ed] at this
    have eX : fixM s2.r = (⟨ta, tb, tc - 1, td⟩, rd) := by simp only [fixM, anyM, ea, eb, ec, ed]
    have hcell : ∀ l : List Fx, l.flatMap Fx.c ++ [AV.int .i64 ta, AV.int .i64 tb, AV.int .i64 (tc - 1), AV.int .i64 td] = (l ++ [(⟨ta, tb, tc - 1, td⟩ : Fx)]).flatMap Fx.c := fun l => by simp [Fx.c]
    ((first | with_reducible refine holds_of_ex X 400 _ _ _ ?_ | skip); simp (maxSteps := 1000000) only [push_cast, reduceCtorEq, Nat.reduceAdd, Nat.reduceMul, Nat.reduceSub, Nat.reduceBEq, Nat.reduceGT, Nat.reduceLT, Int.toNat_zero, Nat.reduceLeDiff, Int.reduceEq, Int.reduceLT, Int.reduceLE, hP, hΓ, hL, hfin, ↓tm_get, String.reduceEq, not_false_eq_true, if_true, Rd.sto, Rd.sill, Rd.to_b, Rd.to_at, h20, h21, ea, eb, ec, ed, hcell, wr_i64 (tb) (by constructor <;> omega), wr_i64 (tc - 1) (by constructor <;> omega), wr_i64 ((s2.l.length : Int) + 1) (by constructor <;> omega)])
    refine ⟨s2.ok, oka, okb, okc, by omega, s2.next (fun r hr => (fix_ok hr).1) (by omega) h.2, by simp only [RowSt.next]; omega, ?_⟩
    simp only [RowSt.next, eX, List.length_append, List.length_cons, List.length_nil, Nat.zero_add, Int.natCast_add, Int.natCast_one]
    exact Into.keep5A
  (refine Holds.frz 4 (by rw [hL]; simp) (by simp only [frzOk', frzOk, isMap, or_true, true_or, push_cast, reduceCtorEq, Nat.reduceAdd, Nat.reduceMul, Nat.reduceSub, Nat.reduceBEq, Nat.reduceGT, Nat.reduceLT, Int.toNat_zero, Nat.reduceLeDiff, Int.reduceEq, Int.reduceLT, Int.reduceLE]) ?_; simp only [push_cast, reduceCtorEq, Nat.reduceAdd, Nat.reduceMul, Nat.reduceSub, Nat.reduceBEq, Nat.reduceGT, Nat.reduceLT, Int.toNat_zero, Nat.reduceLeDiff, Int.reduceEq, Int.reduceLT, Int.reduceLE])
  simp only [tk_map, tk_fm, tk_mm]
  have eR2 := rowsR_done en2 s2 (by omega)
  obtain ⟨l2, r2, hs2⟩ : ∃ a b, (s2.l = a ∧ s2.r = b) := ⟨_, _, rfl, rfl⟩
  have k2 : r2.ok ∧ r2.b = r1.b := by have := rows_ok (one := fixM) (fun r hr => fix_ok hr) 65536 ok1; rw [eR2, hs2.2] at this; exact this
  rw [hs2.1, hs2.2] at eR2
  simp only [hs2.1, hs2.2]
  obtain ⟨x, hx⟩ : ∃ x : Ob, x = { o with descs := l1, fixes := l2 } := ⟨_, rfl⟩
  have hO : [.str o.name, .int .u32 o.key, .sl (o.imps.flatMap Im.c) o.imps.length, .sl (o.code.map (.int .u32)) o.code.length, .sl (o.procs.map (.int .i64)) o.procs.length, .sl (o.names.map .str) o.names.length, .sl (o.exps.map .bool) o.exps.length, .int .i64 o.init, .sl (o.vars.map (.int .i64)) o.vars.length, .sl (o.shown.map (.int .i64)) o.shown.length, .sl (o.strs.map .str) o.strs.length, .sl (l1.flatMap Ds.c) l1.length, .sl (l2.flatMap Fx.c) l2.length] = x.c := by rw [hx]; rfl
  have eO : objM r0 = (x, r2) := by rw [objM_first, eF, eR1, hx]; simp only [eR2]
  have hex : endM b = (x, (tookM r2 r2.at_ (decide (r2.at_ = (b.length : Int) - 4))).2) := by rw [endM, ← hr0, eO]
  have hxo : x.ok ∧ x.u32s := by have := obj_ok hro; rwa [eO] at this
  have hat := k2.1.hi
  have hat0 := k2.1.lo
  rw [k2.2, k1, okf.2, hbl] at hat
  have fin : ∀ r3 : Rd, endM b = (x, r3) → 0 ≤ r3.bad → decM b = (.zero, r3.bad, 71) := fun r3 hex h3 => by rw [decM, if_neg (by rw [hh]; decide), if_neg h2', hex, if_pos h3]
  simp only [hO]
  ((first | with_reducible refine holds_of_ex X 400 _ _ _ ?_ | skip); simp (maxSteps := 1000000) only [push_cast, reduceCtorEq, Nat.reduceAdd, Nat.reduceMul, Nat.reduceSub, Nat.reduceBEq, Nat.reduceGT, Nat.reduceLT, Int.toNat_zero, Nat.reduceLeDiff, Int.reduceEq, Int.reduceLT, Int.reduceLE, hP, hΓ, hL, hfin, ↓tm_get, String.reduceEq, not_false_eq_true, if_true, Rd.sto, Rd.sill, Rd.to_b, Rd.to_at])
  refine exB_split (fun h3 => ?_) (fun h3 => ?_)
  · have h3 : r2.at_ < (b.length : Int) - 4 := by simpa using h3
    have hw : (tookM r2 r2.at_ (decide (r2.at_ = (b.length : Int) - 4))).2 = wrong r2 := by
      rw [decide_eq_false (by omega)]
      by_cases hb0 : 0 ≤ r2.bad
      · simp [tookM, wrong, hb0, show ¬ r2.bad < 0 by omega]
      · simp [tookM, wrong, hb0, show r2.bad < 0 by omega]
    rw [hw] at hex
    have hbd : 0 ≤ (wrong r2).bad := by
      unfold wrong
      split
      · exact hat0
      · omega
    have hd := fin _ hex hbd
    ((first | with_reducible refine holds_of_ex X 400 _ _ _ ?_ | skip); simp (maxSteps := 1000000) only [push_cast, reduceCtorEq, Nat.reduceAdd, Nat.reduceMul, Nat.reduceSub, Nat.reduceBEq, Nat.reduceGT, Nat.reduceLT, Int.toNat_zero, Nat.reduceLeDiff, Int.reduceEq, Int.reduceLT, Int.reduceLE, hP, hΓ, hL, hfin, ↓tm_get, String.reduceEq, not_false_eq_true, if_true, Rd.sto, Rd.sill, Rd.to_b, Rd.to_at, h22])
    generalize wrong r2 = r3 at *
    refine exB_split (fun h4 => ?_) (fun h4 => ?_)
    rotate_left
    · exact absurd hbd (by simpa using h4)
    (refine Holds.drawnE (patH [.row 13 0, .fix (.row r3.c 3 0)]) [5] [] [] false (by rw [hP]; kernel_rfl) (by kernel_rfl) (by kernel_rfl) (by kernel_rfl) (by first | exact .inl rfl | exact .inr fun _ _ h => patH_app _ _ h) (by first | (simp only [push_cast]; done) | (simp only [push_cast, and_true]; omega)) ?_; simp (maxSteps := 1000000) only [↓reduceIte, Option.getD_some, push_cast, reduceCtorEq, Nat.reduceAdd, Nat.reduceMul, Nat.reduceSub, Nat.reduceBEq, Nat.reduceGT, Nat.reduceLT, Int.toNat_zero, Nat.reduceLeDiff, Int.reduceEq, Int.reduceLT, Int.reduceLE, hP, hΓ, hL, hfin, ↓tm_get, String.reduceEq, not_false_eq_true, if_true, Rd.sto, Rd.sill, Rd.to_b, Rd.to_at, h22])
    ((first | with_reducible refine holds_of_ex X 400 _ _ _ ?_ | skip); simp (maxSteps := 1000000) only [push_cast, reduceCtorEq, Nat.reduceAdd, Nat.reduceMul, Nat.reduceSub, Nat.reduceBEq, Nat.reduceGT, Nat.reduceLT, Int.toNat_zero, Nat.reduceLeDiff, Int.reduceEq, Int.reduceLT, Int.reduceLE, hP, hΓ, hL, hfin, ↓tm_get, String.reduceEq, not_false_eq_true, if_true, Rd.sto, Rd.sill, Rd.to_b, Rd.to_at])
    rw [hd]
    refine IntoF.soft ?_
    simp only [push_cast, Ob.zero, Ob.c, List.map_nil, List.flatMap_nil, List.length_nil]
    exact Into.keep0A
  · have h3 : ¬ r2.at_ < (b.length : Int) - 4 := by simpa using h3
    have hw : (tookM r2 r2.at_ (decide (r2.at_ = (b.length : Int) - 4))).2 = r2 := by
      rw [decide_eq_true (by omega), tookM]
      by_cases hb0 : 0 ≤ r2.bad
      · rw [if_pos hb0]
      · rw [if_neg hb0]; rfl
    rw [hw] at hex
    ((first | with_reducible refine holds_of_ex X 400 _ _ _ ?_ | skip); simp (maxSteps := 1000000) only [push_cast, reduceCtorEq, Nat.reduceAdd, Nat.reduceMul, Nat.reduceSub, Nat.reduceBEq, Nat.reduceGT, Nat.reduceLT, Int.toNat_zero, Nat.reduceLeDiff, Int.reduceEq, Int.reduceLT, Int.reduceLE, hP, hΓ, hL, hfin, ↓tm_get, String.reduceEq, not_false_eq_true, if_true, Rd.sto, Rd.sill, Rd.to_b, Rd.to_at])
    refine exB_split (fun h4 => ?_) (fun h4 => ?_)
    · have hd := fin _ hex (by simpa using h4)
      (refine Holds.drawnE (patH [.row 13 0, .fix (.row r2.c 3 0)]) [5] [] [] false (by rw [hP]; kernel_rfl) (by kernel_rfl) (by kernel_rfl) (by kernel_rfl) (by first | exact .inl rfl | exact .inr fun _ _ h => patH_app _ _ h) (by first | (simp only [push_cast]; done) | (simp only [push_cast, and_true]; omega)) ?_; simp (maxSteps := 1000000) only [↓reduceIte, Option.getD_some, push_cast, reduceCtorEq, Nat.reduceAdd, Nat.reduceMul, Nat.reduceSub, Nat.reduceBEq, Nat.reduceGT, Nat.reduceLT, Int.toNat_zero, Nat.reduceLeDiff, Int.reduceEq, Int.reduceLT, Int.reduceLE, hP, hΓ, hL, hfin, ↓tm_get, String.reduceEq, not_false_eq_true, if_true, Rd.sto, Rd.sill, Rd.to_b, Rd.to_at, h22])
      ((first | with_reducible refine holds_of_ex X 400 _ _ _ ?_ | skip); simp (maxSteps := 1000000) only [push_cast, reduceCtorEq, Nat.reduceAdd, Nat.reduceMul, Nat.reduceSub, Nat.reduceBEq, Nat.reduceGT, Nat.reduceLT, Int.toNat_zero, Nat.reduceLeDiff, Int.reduceEq, Int.reduceLT, Int.reduceLE, hP, hΓ, hL, hfin, ↓tm_get, String.reduceEq, not_false_eq_true, if_true, Rd.sto, Rd.sill, Rd.to_b, Rd.to_at])
      rw [hd]
      refine IntoF.soft ?_
      simp only [push_cast, Ob.zero, Ob.c, List.map_nil, List.flatMap_nil, List.length_nil]
      exact Into.keep0A
    have h4' : ¬ 0 ≤ r2.bad := by simpa using h4
    ((first | with_reducible refine holds_of_ex X 400 _ _ _ ?_ | skip); simp (maxSteps := 1000000) only [push_cast, reduceCtorEq, Nat.reduceAdd, Nat.reduceMul, Nat.reduceSub, Nat.reduceBEq, Nat.reduceGT, Nat.reduceLT, Int.toNat_zero, Nat.reduceLeDiff, Int.reduceEq, Int.reduceLT, Int.reduceLE, hP, hΓ, hL, hfin, ↓tm_get, String.reduceEq, not_false_eq_true, if_true, Rd.sto, Rd.sill, Rd.to_b, Rd.to_at, h23])
    refine ⟨hxo, ?_⟩
    refine exB_split (fun h5 => ?_) (fun h5 => ?_)
    · have hd : decM b = (.zero, 0, 70) := by rw [decM, if_neg (by rw [hh]; decide), if_neg h2', hex, if_neg h4', if_pos (by simpa using h5)]
      ((first | with_reducible refine holds_of_ex X 400 _ _ _ ?_ | skip); simp (maxSteps := 1000000) only [push_cast, reduceCtorEq, Nat.reduceAdd, Nat.reduceMul, Nat.reduceSub, Nat.reduceBEq, Nat.reduceGT, Nat.reduceLT, Int.toNat_zero, Nat.reduceLeDiff, Int.reduceEq, Int.reduceLT, Int.reduceLE, hP, hΓ, hL, hfin, ↓tm_get, String.reduceEq, not_false_eq_true, if_true, Rd.sto, Rd.sill, Rd.to_b, Rd.to_at])
      rw [hd]
      refine IntoF.soft ?_
      simp only [push_cast, Ob.zero, Ob.c, List.map_nil, List.flatMap_nil, List.length_nil]
      exact Into.keep0A
    have hd : decM b = (x, 0, 0) := by rw [decM, if_neg (by rw [hh]; decide), if_neg h2', hex, if_neg h4', if_neg (by simpa using h5)]
    ((first | with_reducible refine holds_of_ex X 400 _ _ _ ?_ | skip); simp (maxSteps := 1000000) only [push_cast, reduceCtorEq, Nat.reduceAdd, Nat.reduceMul, Nat.reduceSub, Nat.reduceBEq, Nat.reduceGT, Nat.reduceLT, Int.toNat_zero, Nat.reduceLeDiff, Int.reduceEq, Int.reduceLT, Int.reduceLE, hP, hΓ, hL, hfin, ↓tm_get, String.reduceEq, not_false_eq_true, if_true, Rd.sto, Rd.sill, Rd.to_b, Rd.to_at])
    rw [hd]
    exact Into.keep0A
theorem con7 {Γ : Env} (h : EnvOk Tryz.prog Γ) (h17 : Γ 17 = some S17) (h18 : Γ 18 = some objDone.S73) (h19 : Γ 19 = some S19) (h20 : Γ 20 = some S20) (h21 : Γ 21 = some S21) (h22 : Γ 22 = some S22) (h23 : Γ 23 = some S23) : Con Tryz.prog 7 S7 :=
  funS_con h (fn := Tryz.f7) (by kernel_rfl) rfl (by kernel_rfl) inj7 (by first | (intro h; cases h; done) | exact fun _ _ => rfl) fun ⟨b, n⟩ h => by obtain ⟨rfl, h⟩ := h; exact body7 Γ h17 h18 h19 h20 h21 h22 h23 b h
end Go.Proofs.YtmilngcgcolpbaaGreat.objRef
