/- Of objects: Decode. Conditions stand in each. -/
import Derived.Test.YtmilngcgcolpbaaGreatQE
import Derived.Test.YtmilngcgcolpbaaGreatPE
import Derived.Test.YtmilngcgcolpbaaGreatOW
namespace Go.Proofs.YtmilngcgcolpbaaGreat.objDone
open Go Go.Eng Go.Proofs
open Go.Proofs.YtmilngcgcolpbaaGreat.objNumbersDone (rawU okR valR okT valT nextT)
set_option linter.unusedVariables false
set_option linter.unusedSimpArgs false
set_option maxRecDepth 100000
set_option maxHeartbeats 4000000
def Ob.zero : Ob := ⟨[], 0, [], [], [], [], [], 0, [], [], [], [], []⟩
def hdrB (b : Bytes) : Bool := decide (b.length ≤ 1048576) && decide (8 ≤ b.length) && (b.take 4 == [67, 82, 79, 49])
def endM (b : Bytes) : Ob × Rd := 
  let x := objM ⟨b.take (b.length - 4), 4, -1⟩
  (x.1, (tookM x.2 x.2.at_ (decide (x.2.at_ = (b.length : Int) - 4))).2)
def decM (b : Bytes) : Ob × Int × Int :=
  if hdrB b = false then (.zero, 0, 71)
  else if getV b ((b.length : Int) - 4) ≠ sumI (b.take (b.length - 4)) then (.zero, (b.length : Int) - 4, 72)
  else if 0 ≤ (endM b).2.bad then (.zero, (endM b).2.bad, 71)
  else if okB (endM b).1 = false then (.zero, 0, 70) else ((endM b).1, 0, 0)
theorem objM_ok {r : Rd} (hr : r.ok) : (objM r).2.ok ∧ (objM r).2.b = r.b := by
  have h1 := text_ok hr 20
  have h2 := word_ok h1.1
  have h3 := rows_ok (one := importM) (fun r hr => import_ok hr) 16 h2.1
  have h4 := rows_ok (one := wordM) (fun r hr => word_ok hr) 65536 h3.1
  have h5 := rows_ok (one := procM) (fun r hr => proc_ok hr) 100 h4.1
  have h6 := any_ok h5.1
  have h7 := rows_ok (one := anyM) (fun r hr => any_ok hr) 200 h6.1
  have h8 := rows_ok (one := anyM) (fun r hr => any_ok hr) 200 h7.1
  have h9 := rows_ok (one := fun r => textM r 200) (fun r hr => text_ok hr 200) 200 h8.1
  have h10 := rows_ok (one := descM) (fun r hr => desc_ok hr) 200 h9.1
  have h11 := rows_ok (one := fixM) (fun r hr => fix_ok hr) 65536 h10.1
  refine ⟨h11.1, ?_⟩
  exact h11.2.trans (h10.2.trans (h9.2.trans (h8.2.trans (h7.2.trans (h6.2.trans (h5.2.trans (h4.2.trans (h3.2.trans (h2.2.trans h1.2)))))))))
/-! how much is read -/
theorem rowsM_len {α : Type} (one : Rd → α × Rd) : ∀ (n : Nat) (r : Rd), (rowsM one n r).1.length ≤ n
  | 0, r => by simp [rowsM]
  | n + 1, r => by
    rw [rowsM]
    split
    · simp only [List.length_cons]; have := rowsM_len one n (one r).2; omega
    · simp
theorem rowsR_len {α : Type} (one : Rd → α × Rd) (m : Int) (hm : 0 ≤ m) (r : Rd) : ((rowsR one m r).1.length : Int) ≤ m := by
  have h1 := rowsM_len one (numM r m).1.toNat (numM r m).2
  have h2 := num_le r m hm
  have h3 := (num_b r m).1
  rw [rowsR]; omega
theorem rowsM_all {α : Type} (one : Rd → α × Rd) {p : α → Prop} (hp : ∀ r : Rd, r.ok → p (one r).1) (ho : ∀ r : Rd, r.ok → (one r).2.ok) : ∀ (n : Nat) (r : Rd), r.ok → ∀ x ∈ (rowsM one n r).1, p x
  | 0, r, _ => by simp [rowsM]
  | n + 1, r, hr => by
    rw [rowsM]
    split
    · intro x hx
      rcases List.mem_cons.1 hx with rfl | hx
      · exact hp r hr
      · exact rowsM_all one hp ho n _ (ho r hr) x hx
    · simp
theorem rowsR_all {α : Type} (one : Rd → α × Rd) {p : α → Prop} (hp : ∀ r : Rd, r.ok → p (one r).1) (ho : ∀ r : Rd, r.ok → (one r).2.ok) {m : Int} {r : Rd} (hr : r.ok) : ∀ x ∈ (rowsR one m r).1, p x :=
  rowsM_all one hp ho _ _ (num_ok hr m).1
theorem text_len (r : Rd) (m : Int) (hm : 0 ≤ m) : ((textM r m).1.length : Int) ≤ m := by
  unfold textM
  simp only
  split
  · rename_i h
    obtain ⟨_, hk, _⟩ := tookM_t h
    simp only [okT, Bool.and_eq_true, decide_eq_true_eq] at hk
    obtain ⟨_, hk, _⟩ := hk
    have hv := valR_b (rawU r.b r.at_)
    unfold valT
    split
    · rw [List.length_drop, List.length_take]; omega
    · simp; omega
  · simp; omega
theorem word_b {r : Rd} (hr : r.ok) : 0 ≤ (wordM r).1 ∧ (wordM r).1 < 4294967296 := by
  unfold wordM
  simp only
  split
  · unfold getV
    split
    · rename_i hk
      simp only [getK, decide_eq_true_eq] at hk
      have := leN_lt ((r.b.take (r.at_ + 4).toNat).drop r.at_.toNat)
      rw [List.length_drop, List.length_take, show min (r.at_ + 4).toNat r.b.length - r.at_.toNat = 4 by omega] at this
      omega
    · omega
  · omega
theorem obj_ok {r : Rd} (hr : r.ok) : (objM r).1.ok ∧ (objM r).1.u32s := by
  have hSM : SM = 1048576 := rfl
  have h1 := text_ok hr 20
  have h2 := word_ok h1.1
  have h3 := rows_ok (one := importM) (fun r hr => import_ok hr) 16 h2.1
  have h4 := rows_ok (one := wordM) (fun r hr => word_ok hr) 65536 h3.1
  have h5 := rows_ok (one := procM) (fun r hr => proc_ok hr) 100 h4.1
  have h6 := any_ok h5.1
  have h7 := rows_ok (one := anyM) (fun r hr => any_ok hr) 200 h6.1
  have h8 := rows_ok (one := anyM) (fun r hr => any_ok hr) 200 h7.1
  have h9 := rows_ok (one := fun r => textM r 200) (fun r hr => text_ok hr 200) 200 h8.1
  have h10 := rows_ok (one := descM) (fun r hr => desc_ok hr) 200 h9.1
  have l3 := rowsR_len importM 16 (by omega) (wordM (textM r 20).2).2
  have l4 := rowsR_len wordM 65536 (by omega) (rowsR importM 16 (wordM (textM r 20).2).2).2
  have l1 := text_len r 20 (by omega)
  have key : ∀ {α : Type} (one : Rd → α × Rd) (m : Int) (r : Rd), 0 ≤ m → m ≤ 65536 → (rowsR one m r).1.length ≤ 1048576 := fun one m r h1 h2 => by
    have := rowsR_len one m h1 r; omega
  constructor
  · constructor <;> simp only [objM, hSM, List.length_map]
    · omega
    all_goals first | exact key _ _ _ (by omega) (by omega) | skip
    · exact rowsR_all importM (p := fun x => x.name.length ≤ 1048576) (fun r hr => by have := text_len r 20 (by omega); simp only [importM]; omega) (fun r hr => (import_ok hr).1) h2.1
    · intro x hx
      obtain ⟨y, hy, rfl⟩ := List.mem_map.1 hx
      exact rowsR_all procM (p := fun x => x.2.1.length ≤ 1048576) (fun r hr => by have := text_len (anyM r).2 20 (by omega); simp only [procM]; omega) (fun r hr => (proc_ok hr).1) h4.1 y hy
    · exact rowsR_all (fun r => textM r 200) (p := fun x => x.length ≤ 1048576) (fun r hr => by have := text_len r 200 (by omega); omega) (fun r hr => (text_ok hr 200).1) h8.1
    · exact rowsR_all descM (p := fun x => x.tags.length ≤ 1048576) (fun r hr => key _ _ _ (by omega) (by omega)) (fun r hr => (desc_ok hr).1) h9.1
  · refine ⟨word_b h1.1, ?_, ?_⟩
    · exact rowsR_all wordM (fun r hr => word_b hr) (fun r hr => (word_ok hr).1) h3.1
    · exact rowsR_all importM (fun r hr => word_b (text_ok hr 20).1) (fun r hr => (import_ok hr).1) h2.1
def e21 : (Bytes) × (Nat) → List AV := fun (b, n) => [.sl (b.map byteAV) n]
def p21 : (Bytes) × (Nat) → Prop := fun (b, n) => n = b.length ∧ b.length ≤ 4194304
def r21 : (Bytes) × (Nat) → AV := fun (b, n) => .tup [.agg (decM b).1.c, .int .i64 (decM b).2.1, .int .i64 (decM b).2.2]
def g21 : (Bytes) × (Nat) → Heap := fun (b, n) => []
theorem inj21 : ∀ a b, e21 a = e21 b → a = b := by
  rintro ⟨b, n⟩ ⟨b', n'⟩ h
  simp only [e21, mi_iff, ms_iff, mb_iff, my_iff, rc_iff, fI_iff, List.cons.injEq, AV.int.injEq, AV.str.injEq, AV.bool.injEq, AV.sl.injEq, AV.agg.injEq, AV.ip.injEq, AV.fn.injEq, AV.ifc.injEq, AV.mpr.injEq, Int.natCast_inj, and_true, true_and] at h
  simp_all only
noncomputable def S21 : FSpec := funS e21 p21 r21 g21 false
theorem ps21 (b : (Bytes)) (n : (Nat)) : psel e21 p21 [.sl (b.map byteAV) n] = (n = b.length ∧ b.length ≤ 4194304) := psel_at inj21 p21 (b, n)
theorem rs21 (b : (Bytes)) (n : (Nat)) : rsel e21 r21 .any [.sl (b.map byteAV) n] = (.tup [.agg (decM b).1.c, .int .i64 (decM b).2.1, .int .i64 (decM b).2.2]) := rsel_at inj21 r21 .any (b, n)
theorem hs21 (b : (Bytes)) (n : (Nat)) : rsel e21 g21 [] [.sl (b.map byteAV) n] = ([]) := rsel_at inj21 g21 [] (b, n)
attribute [push_cast] S21 ps21 rs21 hs21
theorem body21 (Γ : Env) (h47 : Γ 12 = some S47) (h42 : Γ 13 = some S42) (h48 : Γ 14 = some S48) (h49 : Γ 15 = some S49) (h17 : Γ 16 = some S17) (b : Bytes) (hb : b.length ≤ 4194304) :
    BodyOk Tryz.prog Γ Tryz.f6 (e21 (b, b.length)) [] (.tup [.agg (decM b).1.c, .int .i64 (decM b).2.1, .int .i64 (decM b).2.2]) [] := by
  have hE : ∀ h : 8 ≤ b.length, (⟨b.take (b.length - 4), 4, -1⟩ : Rd).ok := fun h => ⟨by simp; omega, by simp, by simp; omega⟩
  (intro X hP hΓ hL hfin; refine ⟨_, rfl, ?_⟩; rw [show Tryz.f6.ntmps = 78 from rfl]; rw [show Tryz.f6.results.toList = [.cell 2 33, .tmp 3, .tmp 4] from rfl] at hfin; apply holds_of_ex X 400; simp (maxSteps := 1000000) only [push_cast, reduceCtorEq, Nat.reduceAdd, Nat.reduceMul, Nat.reduceSub, Nat.reduceBEq, Nat.reduceGT, Nat.reduceLT, Int.toNat_zero, Nat.reduceLeDiff, Int.reduceEq, Int.reduceLT, Int.reduceLE, hP, hΓ, hL, hfin, ↓tm_get, String.reduceEq, not_false_eq_true, if_true, e21])
  refine ⟨fun h => ?_, fun h => ?_, ?_⟩
  · simp only [Bool.not_eq_true', Bool.or_eq_false_iff, decide_eq_false_iff_not] at h; omega
  · simp only [Bool.not_eq_true', Bool.or_eq_false_iff, decide_eq_false_iff_not] at h
    refine ⟨by rw [← List.map_take]; exact allBytes_map _, by simp; omega⟩
  rw [← List.map_take, unbytes_map]
  refine exB_split (fun h => ?_) (fun h => ?_)
  · have hh : hdrB b = false := by
      rw [← Bool.not_eq_true]
      intro hc
      simp only [hdrB, Bool.and_eq_true, decide_eq_true_eq, beq_iff_eq] at hc
      simp only [Bool.or_eq_true, decide_eq_true_eq, Bool.not_eq_true', beq_eq_false_iff_ne] at h
      rcases h with h | h
      · omega
      · exact h (by simpa using hc.2)
    ((first | with_reducible refine holds_of_ex X 400 _ _ _ ?_ | skip); simp (maxSteps := 1000000) only [push_cast, reduceCtorEq, Nat.reduceAdd, Nat.reduceMul, Nat.reduceSub, Nat.reduceBEq, Nat.reduceGT, Nat.reduceLT, Int.toNat_zero, Nat.reduceLeDiff, Int.reduceEq, Int.reduceLT, Int.reduceLE, hP, hΓ, hL, hfin, ↓tm_get, String.reduceEq, not_false_eq_true, if_true])
    rw [show decM b = (.zero, 0, 71) by rw [decM, if_pos hh]]
    refine IntoF.soft ?_
    simp only [push_cast, Ob.zero, Ob.c, List.map_nil, List.flatMap_nil, List.length_nil]
    exact Into.keep0A
  have hh : hdrB b = true := by
    simp only [Bool.or_eq_false_iff, decide_eq_false_iff_not, Bool.not_eq_false', beq_iff_eq] at h
    simp only [hdrB, Bool.and_eq_true, decide_eq_true_eq, beq_iff_eq]
    exact ⟨by omega, by simpa using h.2⟩
  have h8 : 8 ≤ b.length := by
    simp only [hdrB, Bool.and_eq_true, decide_eq_true_eq] at hh; omega
  ((first | with_reducible refine holds_of_ex X 400 _ _ _ ?_ | skip); simp (maxSteps := 1000000) only [push_cast, reduceCtorEq, Nat.reduceAdd, Nat.reduceMul, Nat.reduceSub, Nat.reduceBEq, Nat.reduceGT, Nat.reduceLT, Int.toNat_zero, Nat.reduceLeDiff, Int.reduceEq, Int.reduceLT, Int.reduceLE, hP, hΓ, hL, hfin, ↓tm_get, String.reduceEq, not_false_eq_true, if_true, h47, h42, wr_i64 ((b.length : Int) - 4) (by constructor <;> omega), ← List.map_take])
  have hB : (objNumbersDone.BIG : Nat) = 140737488355328 := rfl
  have hn : ((b.length : Int) - 4).toNat = b.length - 4 := by omega
  rw [hn]
  refine ⟨hb, ⟨by omega, by omega, by omega⟩, ⟨by omega, by omega⟩, ?_⟩
  refine exB_split (fun h2 => ?_) (fun h2 => ?_)
  · ((first | with_reducible refine holds_of_ex X 400 _ _ _ ?_ | skip); simp (maxSteps := 1000000) only [push_cast, reduceCtorEq, Nat.reduceAdd, Nat.reduceMul, Nat.reduceSub, Nat.reduceBEq, Nat.reduceGT, Nat.reduceLT, Int.toNat_zero, Nat.reduceLeDiff, Int.reduceEq, Int.reduceLT, Int.reduceLE, hP, hΓ, hL, hfin, ↓tm_get, String.reduceEq, not_false_eq_true, if_true])
    rw [show decM b = (.zero, (b.length : Int) - 4, 72) by rw [decM, if_neg (by rw [hh]; decide), if_pos (by simpa using h2)]]
    refine IntoF.soft ?_
    simp only [push_cast, Ob.zero, Ob.c, List.map_nil, List.flatMap_nil, List.length_nil]
    exact Into.keep0A
  have h2' : ¬ getV b ((b.length : Int) - 4) ≠ sumI (b.take (b.length - 4)) := by simpa using h2
  have hlt : (b.take (b.length - 4)).length = b.length - 4 := by simp
  obtain ⟨r0, hr0⟩ : ∃ r0 : Rd, r0 = ⟨b.take (b.length - 4), 4, -1⟩ := ⟨_, rfl⟩
  have hc : [AV.sl ((b.take (b.length - 4)).map byteAV) (b.length - 4 - 0), AV.int .i64 4, AV.int .i64 (-1)] = r0.c := by
    rw [hr0, Rd.c, hlt]; rfl
  have hro : r0.ok := by rw [hr0]; exact hE h8
  have hex : endM b = ((objM r0).1, (tookM (objM r0).2 (objM r0).2.at_ (decide ((objM r0).2.at_ = (b.length : Int) - 4))).2) := by rw [endM, hr0]
  ((first | with_reducible refine holds_of_ex X 400 _ _ _ ?_ | skip); simp (maxSteps := 1000000) only [push_cast, reduceCtorEq, Nat.reduceAdd, Nat.reduceMul, Nat.reduceSub, Nat.reduceBEq, Nat.reduceGT, Nat.reduceLT, Int.toNat_zero, Nat.reduceLeDiff, Int.reduceEq, Int.reduceLT, Int.reduceLE, hP, hΓ, hL, hfin, ↓tm_get, String.reduceEq, not_false_eq_true, if_true, h48, hn, ← List.map_take, hc])
  refine ⟨by omega, fun x hx _ => ?_, hro, ?_⟩
  · simp only [Rd.c, List.mem_cons, List.not_mem_nil, or_false] at hx
    rcases hx with rfl | rfl | rfl <;> rfl
  have hk := obj_ok hro
  have hbb := (objM_ok hro).1
  generalize objM r0 = x at hex hk hbb ⊢
  obtain ⟨o, r⟩ := x
  simp only at hex hk hbb ⊢
  (refine Holds.drawnE (patH [.row 13 0, .fix (.row r.c 3 0)]) [0, 1, 2, 3, 4, 5, 6, 7, 8, 9, 10, 11] [] [] true (by rw [hP]; kernel_rfl) (by kernel_rfl) (by kernel_rfl) (by kernel_rfl) (by first | exact .inl rfl | exact .inr fun _ _ h => patH_app _ _ h) (by first | (simp only [push_cast]; done) | (simp only [push_cast, and_true]; omega)) ?_; simp (maxSteps := 1000000) only [↓reduceIte, Option.getD_some, push_cast, reduceCtorEq, Nat.reduceAdd, Nat.reduceMul, Nat.reduceSub, Nat.reduceBEq, Nat.reduceGT, Nat.reduceLT, Int.toNat_zero, Nat.reduceLeDiff, Int.reduceEq, Int.reduceLT, Int.reduceLE, hP, hΓ, hL, hfin, ↓tm_get, String.reduceEq, not_false_eq_true, if_true, h49])
  generalize (tookM r r.at_ (decide (r.at_ = (b.length : Int) - 4))).2 = r2 at hex ⊢
  ((first | with_reducible refine holds_of_ex X 400 _ _ _ ?_ | skip); simp (maxSteps := 1000000) only [push_cast, reduceCtorEq, Nat.reduceAdd, Nat.reduceMul, Nat.reduceSub, Nat.reduceBEq, Nat.reduceGT, Nat.reduceLT, Int.toNat_zero, Nat.reduceLeDiff, Int.reduceEq, Int.reduceLT, Int.reduceLE, hP, hΓ, hL, hfin, ↓tm_get, String.reduceEq, not_false_eq_true, if_true])
  refine exB_split (fun h3 => ?_) (fun h3 => ?_)
  · have hd : decM b = (.zero, r2.bad, 71) := by rw [decM, if_neg (by rw [hh]; decide), if_neg h2', hex, if_pos (by simpa using h3)]
    (refine Holds.drawnE (patH [.row 13 0, .fix (.row r2.c 3 0)]) [5] [] [] false (by rw [hP]; kernel_rfl) (by kernel_rfl) (by kernel_rfl) (by kernel_rfl) (by first | exact .inl rfl | exact .inr fun _ _ h => patH_app _ _ h) (by first | (simp only [push_cast]; done) | (simp only [push_cast, and_true]; omega)) ?_; simp (maxSteps := 1000000) only [↓reduceIte, Option.getD_some, push_cast, reduceCtorEq, Nat.reduceAdd, Nat.reduceMul, Nat.reduceSub, Nat.reduceBEq, Nat.reduceGT, Nat.reduceLT, Int.toNat_zero, Nat.reduceLeDiff, Int.reduceEq, Int.reduceLT, Int.reduceLE, hP, hΓ, hL, hfin, ↓tm_get, String.reduceEq, not_false_eq_true, if_true, h49])
    ((first | with_reducible refine holds_of_ex X 400 _ _ _ ?_ | skip); simp (maxSteps := 1000000) only [push_cast, reduceCtorEq, Nat.reduceAdd, Nat.reduceMul, Nat.reduceSub, Nat.reduceBEq, Nat.reduceGT, Nat.reduceLT, Int.toNat_zero, Nat.reduceLeDiff, Int.reduceEq, Int.reduceLT, Int.reduceLE, hP, hΓ, hL, hfin, ↓tm_get, String.reduceEq, not_false_eq_true, if_true])
    rw [hd]
    refine IntoF.soft ?_
    simp only [push_cast, Ob.zero, Ob.c, List.map_nil, List.flatMap_nil, List.length_nil]
    exact Into.keep0A
  have h3' : ¬ 0 ≤ r2.bad := by simpa using h3
  ((first | with_reducible refine holds_of_ex X 400 _ _ _ ?_ | skip); simp (maxSteps := 1000000) only [push_cast, reduceCtorEq, Nat.reduceAdd, Nat.reduceMul, Nat.reduceSub, Nat.reduceBEq, Nat.reduceGT, Nat.reduceLT, Int.toNat_zero, Nat.reduceLeDiff, Int.reduceEq, Int.reduceLT, Int.reduceLE, hP, hΓ, hL, hfin, ↓tm_get, String.reduceEq, not_false_eq_true, if_true, h17])
  refine ⟨hk.1, ?_⟩
  refine exB_split (fun h4 => ?_) (fun h4 => ?_)
  · have hd : decM b = (.zero, 0, 70) := by rw [decM, if_neg (by rw [hh]; decide), if_neg h2', hex, if_neg h3', if_pos (by simpa using h4)]
    ((first | with_reducible refine holds_of_ex X 400 _ _ _ ?_ | skip); simp (maxSteps := 1000000) only [push_cast, reduceCtorEq, Nat.reduceAdd, Nat.reduceMul, Nat.reduceSub, Nat.reduceBEq, Nat.reduceGT, Nat.reduceLT, Int.toNat_zero, Nat.reduceLeDiff, Int.reduceEq, Int.reduceLT, Int.reduceLE, hP, hΓ, hL, hfin, ↓tm_get, String.reduceEq, not_false_eq_true, if_true])
    rw [hd]
    refine IntoF.soft ?_
    simp only [push_cast, Ob.zero, Ob.c, List.map_nil, List.flatMap_nil, List.length_nil]
    exact Into.keep0A
  have hd : decM b = (o, 0, 0) := by rw [decM, if_neg (by rw [hh]; decide), if_neg h2', hex, if_neg h3', if_neg (by simpa using h4)]
  ((first | with_reducible refine holds_of_ex X 400 _ _ _ ?_ | skip); simp (maxSteps := 1000000) only [push_cast, reduceCtorEq, Nat.reduceAdd, Nat.reduceMul, Nat.reduceSub, Nat.reduceBEq, Nat.reduceGT, Nat.reduceLT, Int.toNat_zero, Nat.reduceLeDiff, Int.reduceEq, Int.reduceLT, Int.reduceLE, hP, hΓ, hL, hfin, ↓tm_get, String.reduceEq, not_false_eq_true, if_true])
  rw [hd]
  exact Into.keep0A
theorem con21 {Γ : Env} (h : EnvOk Tryz.prog Γ) (h47 : Γ 12 = some S47) (h42 : Γ 13 = some S42) (h48 : Γ 14 = some S48) (h49 : Γ 15 = some S49) (h17 : Γ 16 = some S17) : Con Tryz.prog 6 S21 :=
  funS_con h (fn := Tryz.f6) (by kernel_rfl) rfl (by kernel_rfl) inj21 (by first | (intro h; cases h; done) | exact fun _ _ => rfl) fun ⟨b, n⟩ h => by obtain ⟨rfl, h⟩ := h; exact body21 Γ h47 h42 h48 h49 h17 b h
end Go.Proofs.YtmilngcgcolpbaaGreat.objDone
