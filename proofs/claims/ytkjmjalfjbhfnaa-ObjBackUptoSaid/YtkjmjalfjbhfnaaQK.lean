/- ObjBack: a right object is read from its bytes, from none with more behind. The condition: what comes in holds at most 1048576 values and letters. -/
import Derived.Test.YtkjmjalfjbhfnaaQJ
namespace Go.Proofs.Ytkjmjalfjbhfnaa.objDone
open Go Go.Eng Go.Proofs
open Go.Proofs.Ytkjmjalfjbhfnaa.objNumbersDone (newS putUintP putUintK cloneS numS hi7 lo7 q7 enc uintS textAtS)
set_option linter.unusedVariables false
set_option linter.unusedSimpArgs false
set_option maxRecDepth 100000
set_option maxHeartbeats 4000000
theorem law6_body (Γ : Env) (h7 : Γ 7 = some shS) (h17 : Γ 17 = some S17) (h18 : Γ 18 = some S18) (h20 : Γ 20 = some S20) (h21 : Γ 21 = some S21) (h22 : Γ 22 = some S22) (o : Ob) (ho : o.ok) (hu : o.u32s) (more : Bytes) (hm : more.length ≤ 1048576) :
    BodyOk Try.prog Γ Try.f6 [.agg o.c, .sl (more.map byteAV) more.length] [] (.bool true) [] := by
  (intro X hP hΓ hL hfin; refine ⟨_, rfl, ?_⟩; rw [show Try.f6.ntmps = 89 from rfl]; rw [show Try.f6.results.toList = [.tmp 4] from rfl] at hfin; apply holds_of_ex X 12; simp (maxSteps := 1000000) only [push_cast, reduceCtorEq, Nat.reduceAdd, Nat.reduceMul, Nat.reduceSub, Nat.reduceBEq, Nat.reduceGT, Nat.reduceLT, Int.toNat_zero, Nat.reduceLeDiff, Int.reduceEq, Int.reduceLT, Int.reduceLE, hP, hΓ, hL, hfin, ↓tm_get, String.reduceEq, not_false_eq_true, if_true, h7, h17, h18, h20, h21, h22])
  refine ⟨ho, ho, ?_⟩
  refine exB_split (fun h => ?_) (fun h => ?_)
  · have hk : okB o = false := by
      cases hk : okB o with
      | false => rfl
      | true => rw [encE, hk] at h; simp at h
    ((first | with_reducible refine holds_of_ex X 400 _ _ _ ?_ | skip); simp (maxSteps := 1000000) only [push_cast, reduceCtorEq, Nat.reduceAdd, Nat.reduceMul, Nat.reduceSub, Nat.reduceBEq, Nat.reduceGT, Nat.reduceLT, Int.toNat_zero, Nat.reduceLeDiff, Int.reduceEq, Int.reduceLT, Int.reduceLE, hP, hΓ, hL, hfin, ↓tm_get, String.reduceEq, not_false_eq_true, if_true])
    rw [show encV o = [] by rw [encV, hk]; rfl, show encE o = 70 by rw [encE, hk]; rfl, hk]
    simp only [List.length_nil, Bool.not_false, decide_true, Bool.and_true, show (((0 : Nat) : Int) = 0) from rfl]
    exact Into.keep0A
  have hk : okB o = true := by
    cases hk : okB o with
    | true => rfl
    | false => rw [encE, hk] at h; simp at h
  have e1 : encV o = bytesO o := by rw [encV, hk]; rfl
  have e2 : encE o = 0 := by rw [encE, hk]; rfl
  have hlen : (bytesO o).length = (bodyO o).length + 4 := by simp only [bytesO, List.length_append]; rfl
  have hle : (bytesO o).length ≤ 1048576 := by
    have : formedB o = true ∧ (bytesO o).length ≤ 1048576 := by simpa [okB] using hk
    exact this.2
  have hb : (bodyO o).length = 4 + (encO o).length := by rw [body_enc, List.length_append]; rfl
  have hlo : 4 ≤ (encO o).length := by simp only [encO, List.length_append, le4, List.length_cons, List.length_nil]; omega
  have hbk := back hu hk
  have hwr := write_read hu hk more
  rw [e1, e2]
  ((first | with_reducible refine holds_of_ex X 6 _ _ _ ?_ | skip); simp (maxSteps := 1000000) only [push_cast, reduceCtorEq, Nat.reduceAdd, Nat.reduceMul, Nat.reduceSub, Nat.reduceBEq, Nat.reduceGT, Nat.reduceLT, Int.toNat_zero, Nat.reduceLeDiff, Int.reduceEq, Int.reduceLT, Int.reduceLE, hP, hΓ, hL, hfin, ↓tm_get, String.reduceEq, not_false_eq_true, if_true])
  refine exB_split (fun h => ?_) (fun h => ?_)
  · simp only [decide_eq_true_eq] at h; omega
  ((first | with_reducible refine holds_of_ex X 400 _ _ _ ?_ | skip); simp (maxSteps := 1000000) only [push_cast, reduceCtorEq, Nat.reduceAdd, Nat.reduceMul, Nat.reduceSub, Nat.reduceBEq, Nat.reduceGT, Nat.reduceLT, Int.toNat_zero, Nat.reduceLeDiff, Int.reduceEq, Int.reduceLT, Int.reduceLE, hP, hΓ, hL, hfin, ↓tm_get, String.reduceEq, not_false_eq_true, if_true])
  (refine Holds.frz 1 (by rw [hL]; simp) (by simp only [frzOk', frzOk, isMap, or_true, true_or, push_cast, reduceCtorEq, Nat.reduceAdd, Nat.reduceMul, Nat.reduceSub, Nat.reduceBEq, Nat.reduceGT, Nat.reduceLT, Int.toNat_zero, Nat.reduceLeDiff, Int.reduceEq, Int.reduceLT, Int.reduceLE]) ?_; simp only [push_cast, reduceCtorEq, Nat.reduceAdd, Nat.reduceMul, Nat.reduceSub, Nat.reduceBEq, Nat.reduceGT, Nat.reduceLT, Int.toNat_zero, Nat.reduceLeDiff, Int.reduceEq, Int.reduceLT, Int.reduceLE])
  ((first | with_reducible refine holds_of_ex X 400 _ _ _ ?_ | skip); simp (maxSteps := 1000000) only [push_cast, reduceCtorEq, Nat.reduceAdd, Nat.reduceMul, Nat.reduceSub, Nat.reduceBEq, Nat.reduceGT, Nat.reduceLT, Int.toNat_zero, Nat.reduceLeDiff, Int.reduceEq, Int.reduceLT, Int.reduceLE, hP, hΓ, hL, hfin, ↓tm_get, String.reduceEq, not_false_eq_true, if_true, h21, tk_map, hbk])
  refine ⟨by omega, ?_⟩
  (refine Holds.drawnE (patH []) [0, 1, 2, 8, 9] [] [] false (by rw [hP]; kernel_rfl) (by kernel_rfl) (by kernel_rfl) (by kernel_rfl) (by first | exact .inl rfl | exact .inr fun _ _ h => patH_app _ _ h) (by first | (simp only [push_cast]; done) | (simp only [push_cast, and_true]; omega)) ?_; simp (maxSteps := 1000000) only [↓reduceIte, Option.getD_some, push_cast, reduceCtorEq, Nat.reduceAdd, Nat.reduceMul, Nat.reduceSub, Nat.reduceBEq, Nat.reduceGT, Nat.reduceLT, Int.toNat_zero, Nat.reduceLeDiff, Int.reduceEq, Int.reduceLT, Int.reduceLE, hP, hΓ, hL, hfin, ↓tm_get, String.reduceEq, not_false_eq_true, if_true, wr_i64 (((bytesO o).length : Int) - 4) (by constructor <;> omega)])
  have hq : (((bytesO o).length : Int) - 4).toNat = (bodyO o).length := by omega
  have hq2 : List.take (bodyO o).length ((bytesO o).map byteAV) = (bodyO o).map byteAV := by rw [← List.map_take, bytesO, List.take_left]
  rw [hq, hq2]
  refine ⟨by omega, by omega, ⟨by omega, by simp only [push_cast, reduceCtorEq, Nat.reduceAdd, Nat.reduceMul, Nat.reduceSub, Nat.reduceBEq, Nat.reduceGT, Nat.reduceLT, Int.toNat_zero, Nat.reduceLeDiff, Int.reduceEq, Int.reduceLT, Int.reduceLE], by omega⟩, ?_⟩
  simp only [Nat.sub_zero]
  ((first | with_reducible refine holds_of_ex X 2 _ _ _ ?_ | skip); simp (maxSteps := 1000000) only [push_cast, reduceCtorEq, Nat.reduceAdd, Nat.reduceMul, Nat.reduceSub, Nat.reduceBEq, Nat.reduceGT, Nat.reduceLT, Int.toNat_zero, Nat.reduceLeDiff, Int.reduceEq, Int.reduceLT, Int.reduceLE, hP, hΓ, hL, hfin, ↓tm_get, String.reduceEq, not_false_eq_true, if_true])
  refine ⟨by omega, ?_⟩
  rw [← List.map_append, ← List.length_append]
  obtain ⟨x, hx⟩ : ∃ x, x = bodyO o ++ more := ⟨_, rfl⟩
  have hxl : x.length ≤ 2097152 := by rw [hx, List.length_append]; omega
  have hsl : (sumB x).length = x.length + 4 := by simp only [sumB, List.length_append]; rfl
  rw [← hx] at hwr ⊢
  (refine Holds.frz 3 (by rw [hL]; simp) (by simp only [frzOk', frzOk, isMap, or_true, true_or, push_cast, reduceCtorEq, Nat.reduceAdd, Nat.reduceMul, Nat.reduceSub, Nat.reduceBEq, Nat.reduceGT, Nat.reduceLT, Int.toNat_zero, Nat.reduceLeDiff, Int.reduceEq, Int.reduceLT, Int.reduceLE]) ?_; simp only [push_cast, reduceCtorEq, Nat.reduceAdd, Nat.reduceMul, Nat.reduceSub, Nat.reduceBEq, Nat.reduceGT, Nat.reduceLT, Int.toNat_zero, Nat.reduceLeDiff, Int.reduceEq, Int.reduceLT, Int.reduceLE])
  ((first | with_reducible refine holds_of_ex X 400 _ _ _ ?_ | skip); simp (maxSteps := 1000000) only [push_cast, reduceCtorEq, Nat.reduceAdd, Nat.reduceMul, Nat.reduceSub, Nat.reduceBEq, Nat.reduceGT, Nat.reduceLT, Int.toNat_zero, Nat.reduceLeDiff, Int.reduceEq, Int.reduceLT, Int.reduceLE, hP, hΓ, hL, hfin, ↓tm_get, String.reduceEq, not_false_eq_true, if_true, h20, h22, h21, tk_map])
  refine ⟨by omega, ⟨by omega, by omega⟩, fun _ => ho, ?_⟩
  have e3 : (okB o && (decide ((decM (sumB x)).2.2 = 0) == decide ((more.length : Int) = 0))) = true := by
    rw [hk, Bool.true_and, beq_iff_eq, decide_eq_decide]
    rcases hwr with ⟨h1, h2⟩ | ⟨h1, h2⟩
    · rw [h1, h2]; simp
    · have : more.length ≠ 0 := fun h => h2 (List.eq_nil_of_length_eq_zero h)
      constructor
      · intro h; exact absurd h h1
      · intro h; omega
  rw [e3]
  exact Into.keep0A
theorem body6 (xs : List Dv) (h : Dv.hasL [shO, .sl (.int .u8)] xs) (hb : Dv.vbL xs ≤ 1048576) : ∃ L', BodyOk Try.prog ecE Try.f6 (xs.map Dv.av) [] (.bool true) L' := by
  obtain ⟨x0, xs, rfl, h0, h⟩ := hasL_cons h
  obtain ⟨x1, xs, rfl, h1, h⟩ := hasL_cons h
  obtain rfl := hasL_nil h
  simp only [Dv.vbL] at hb
  obtain ⟨o, e, ho, hu⟩ := open_O h0 (by omega)
  obtain ⟨l, e0, _, hl⟩ := has_bytes h1
  refine ⟨[], ?_⟩
  simp only [List.map_cons, List.map_nil, e, e0]
  exact law6_body ecE rfl rfl rfl rfl rfl rfl o ho hu l (by omega)
theorem lifted6 (os : Os) (started : os.Started) (H : Type) (enc : TypeId × Value → H) (F : Stop.Interp) :
    ReturnsInHanded {} Try.checked os 6 .any ((Rows.OpenSpec.upto Rows.objBackSpec).pre6 enc Try.prog Try.f6 Rows.objBackUptoRow.domain false) (((Rows.OpenSpec.upto Rows.objBackSpec).at F).post enc Try.prog Try.f6 false true false false) := by
  refine returnsInHanded_of_cond (C := Try.checked) (s := Rows.OpenSpec.upto Rows.objBackSpec) (k := Rows.uptoSmall) rfl own started (by kernel_rfl) Try.func6
    (OpenSpec.witness (enc := enc) (C := Try.checked) (s := Rows.OpenSpec.upto Rows.objBackSpec) (k := Rows.uptoSmall) rfl false ⟨#[], #[.agg #[.string .empty, .int .u32 0, .slice none 0 0, .slice none 0 0, .slice none 0 0, .slice none 0 0, .slice none 0 0, .int .i64 0, .slice none 0 0, .slice none 0 0, .slice none 0 0, .slice none 0 0, .slice none 0 0], .slice none 0 0], []⟩ 8 (by kernel_rfl) (by kernel_rfl) (by kernel_rfl)
      (x := ([.agg [.lit (.string []), .lit (.int .u32 0), .nil, .nil, .nil, .nil, .nil, .lit (.int .i64 0), .nil, .nil, .nil, .nil, .nil], .nil], [], [])) (by kernel_rfl) rfl (by kernel_rfl)) ?_
  intro W base args ds gs before hval hW _ hk _
  have hds : gs = [] ∧ ∃ d1 d2, ds = [d1, d2] := by
    obtain ⟨p, q, hA, hV, _⟩ := hW
    obtain ⟨rfl, _⟩ := ChangeShapes.trodVars_none hV
    rw [Try.params6] at hA
    obtain ⟨_, _, d1, _, _, _, _, rfl, _, _, hA⟩ := ChangeShapes.trodAll_cons hA
    obtain ⟨_, _, d2, _, _, _, _, rfl, _, _, hA⟩ := ChangeShapes.trodAll_cons hA
    obtain ⟨_, rfl, _⟩ := ChangeShapes.trodAll_nil hA
    exact ⟨rfl, d1, d2, rfl⟩
  obtain ⟨rfl, d1, d2, rfl⟩ := hds
  exact law_contract ecE_ok (f := 6) (fn := Try.f6) (by kernel_rfl) laidOut (s := Rows.objBackSpec) rfl (ss := [shO, .sl (.int .u8)]) (by kernel_rfl) (tb := 4) rfl Try.underlying4 (· ≤ 1048576) (fun a b h1 h2 => Nat.le_trans h1 h2) body6 rfl hval hW (Up.small (by simpa using hk))
theorem provedObjBack : Rows.ObjBackUptoSaid :=
  OpenClaim.holds_of_cond 6 Try.f6 rfl rfl rfl rfl rfl rfl rfl ⟨rfl, rfl, rfl, rfl, rfl⟩ rfl rfl rfl rfl rfl (by kernel_rfl) Try.func6 (by kernel_rfl)
    (of_decide_eq_true (by kernel_rfl)) (by unfold Func.isWrapper; first | (rw [if_pos (by decide +kernel)]; kernel_rfl) | (rw [if_neg (by decide +kernel)]; exact ⟨rfl, rfl⟩))
    (fun os started H enc _ F => lifted6 os started H enc F)
end Go.Proofs.Ytkjmjalfjbhfnaa.objDone
