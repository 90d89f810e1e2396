/- ObjSummed: every Decode of bytes that have their sum is the document's. The condition: what comes in holds at most 1048576 values and letters. -/
import Derived.Test.YtmilngcgcolpbaaGreatRDc
import Derived.Test.YtmilngcgcolpbaaGreatRDm
import Derived.Test.YtmilngcgcolpbaaGreatUp
import Derived.ProofKit
import Derived.JoinedCond
namespace Go.Proofs.YtmilngcgcolpbaaGreat.objRef
open Go Go.Eng Go.Proofs
open Go.Proofs.YtmilngcgcolpbaaGreat.objNumbersDone (newS putUintP putUintK cloneS numS hi7 lo7 q7 enc uintS uintS' textAtS)
open Go.Proofs.YtmilngcgcolpbaaGreat.objDone
set_option linter.unusedVariables false
set_option linter.unusedSimpArgs false
set_option maxRecDepth 100000
set_option maxHeartbeats 4000000
theorem shown_body (Γ : Env) (h11 : Γ 11 = some (newS putUintP putUintK)) : BodyOk Tryz.prog Γ Tryz.f5 [] [] (.bool true) [] := by
  (intro X hP hΓ hL hfin; refine ⟨_, rfl, ?_⟩; rw [show Tryz.f5.ntmps = 7 from rfl]; rw [show Tryz.f5.results.toList = [.tmp 0] from rfl] at hfin; apply holds_of_ex X 400; simp only [push_cast, reduceCtorEq, Nat.reduceAdd, Nat.reduceMul, Nat.reduceSub, Nat.reduceBEq, Nat.reduceGT, Nat.reduceLT, Int.toNat_zero, Nat.reduceLeDiff, Int.reduceEq, Int.reduceLT, Int.reduceLE, hP, hΓ, hL, hfin, h11])
  refine ⟨⟨⟨[7], rfl, rfl⟩, by decide, 300, rfl, by decide⟩, ?_, ?_⟩
  · rw [← List.map_take]; exact allBytes_map _
  · rw [← List.map_take, unbytes_map]
    have e : (List.take ((unbytes [AV.int IntKind.u8 7]).length + (enc (Int.toNat 300)).length) (unbytes [AV.int IntKind.u8 7] ++ enc (Int.toNat 300)) == [7, 172, 2]) = true := by
      simp [enc, hi7, lo7, q7, unbytes, toByte]
    rw [e]
    exact Into.keep0 (leF_refl _) rfl rfl (Nat.le_refl _)
def shS : FSpec := lift0 (fun xs => xs = []) (fun _ => .bool true) (fun _ => []) true
attribute [push_cast] shS
theorem con5 {Γ : Env} (h : EnvOk Tryz.prog Γ) (h11 : Γ 11 = some (newS putUintP putUintK)) : Con Tryz.prog 5 shS := by
  refine Con.of_body h (fn := Tryz.f5) (by kernel_rfl) rfl (by kernel_rfl) (fun _ _ => rfl) fun xs hx => ?_
  obtain rfl := hx
  exact shown_body Γ h11
noncomputable def rd0 : Env := objDone.ecE
theorem rd0_ok : EnvOk Tryz.prog rd0 := objDone.ecE_ok
noncomputable def rd1 : Env := addE rd0 17 S17
theorem rd1_ok : EnvOk Tryz.prog rd1 := rd0_ok.add (con17 rd0_ok)
noncomputable def rd2 : Env := addE rd1 22 S22
theorem rd2_ok : EnvOk Tryz.prog rd2 := rd1_ok.add (con22 rd1_ok)
noncomputable def rd3 : Env := addE rd2 20 S20
theorem rd3_ok : EnvOk Tryz.prog rd3 := rd2_ok.add (con20 rd2_ok rfl rfl)
noncomputable def rd4 : Env := addE rd3 47 S47
theorem rd4_ok : EnvOk Tryz.prog rd4 := rd3_ok.add (con47 rd3_ok rfl rfl)
noncomputable def rd5 : Env := addE rd4 48 S48
theorem rd5_ok : EnvOk Tryz.prog rd5 := rd4_ok.add (con48 rd4_ok rfl rfl)
noncomputable def rd6 : Env := addE rd5 21 S21
theorem rd6_ok : EnvOk Tryz.prog rd6 := rd5_ok.add (con21 rd5_ok rfl)
noncomputable def rd7 : Env := addE rd6 19 S19
theorem rd7_ok : EnvOk Tryz.prog rd7 := rd6_ok.add (con19 rd6_ok rfl rfl rfl rfl)
noncomputable def rd8 : Env := addE rd7 23 S23
theorem rd8_ok : EnvOk Tryz.prog rd8 := rd7_ok.add (con23 rd7_ok rfl)
noncomputable def rd9 : Env := addE rd8 7 S7
theorem rd9_ok : EnvOk Tryz.prog rd9 := rd8_ok.add (con7 rd8_ok rfl rfl rfl rfl rfl rfl rfl)
noncomputable def rd10 : Env := addE rd9 5 shS
theorem rd10_ok : EnvOk Tryz.prog rd10 := rd9_ok.add (con5 rd9_ok rfl)
noncomputable abbrev rdE : Env := rd10
theorem rdE_ok : EnvOk Tryz.prog rdE := rd10_ok
theorem dec_ok' (b : Bytes) (hb : b.length ≤ 4194304) : (decM b).1.ok := by
  have hz : Ob.zero.ok := by constructor <;> simp [Ob.zero]
  unfold decM
  split
  · exact hz
  rename_i h1
  split
  · exact hz
  split
  · exact hz
  split
  · exact hz
  simp only [Bool.not_eq_false, hdrB, Bool.and_eq_true, decide_eq_true_eq] at h1
  exact (obj_ok (r := ⟨b.take (b.length - 4), 4, -1⟩) ⟨by simp; omega, by simp, by simp; omega⟩).1
theorem law4_body (Γ : Env) (h5 : Γ 5 = some shS) (h6 : Γ 6 = some objDone.S21) (h7 : Γ 7 = some S7) (h8 : Γ 8 = some objDone.S20) (h10 : Γ 10 = some objDone.S22) (b : Bytes) (hb : b.length ≤ 1048576) :
    BodyOk Tryz.prog Γ Tryz.f4 [.sl (b.map byteAV) b.length] [] (.bool true) [] := by
  obtain ⟨x, hx⟩ : ∃ x : Bytes, x = [67, 82, 79, 49] ++ b := ⟨_, rfl⟩
  have hxl : 4 + b.length = x.length := by rw [hx]; simp; omega
  have hxm : AV.int .u8 67 :: AV.int .u8 82 :: AV.int .u8 79 :: AV.int .u8 49 :: b.map byteAV = x.map byteAV := by rw [hx]; rfl
  have hsl : (sumB x).length = x.length + 4 := by simp only [sumB, List.length_append]; rfl
  (intro X hP hΓ hL hfin; refine ⟨_, rfl, ?_⟩; rw [show Tryz.f4.ntmps = 47 from rfl]; rw [show Tryz.f4.results.toList = [.tmp 2] from rfl] at hfin; apply holds_of_ex X 6; simp (maxSteps := 1000000) only [push_cast, reduceCtorEq, Nat.reduceAdd, Nat.reduceMul, Nat.reduceSub, Nat.reduceBEq, Nat.reduceGT, Nat.reduceLT, Int.toNat_zero, Nat.reduceLeDiff, Int.reduceEq, Int.reduceLT, Int.reduceLE, hP, hΓ, hL, hfin, ↓tm_get, String.reduceEq, not_false_eq_true, if_true, h5, h6, h7, h8, h10, hxm, hxl])
  refine ⟨by omega, ?_⟩
  (refine Holds.frz 0 (by rw [hL]; simp) (by simp only [frzOk', frzOk, isMap, or_true, true_or, push_cast, reduceCtorEq, Nat.reduceAdd, Nat.reduceMul, Nat.reduceSub, Nat.reduceBEq, Nat.reduceGT, Nat.reduceLT, Int.toNat_zero, Nat.reduceLeDiff, Int.reduceEq, Int.reduceLT, Int.reduceLE]) ?_; simp only [push_cast, reduceCtorEq, Nat.reduceAdd, Nat.reduceMul, Nat.reduceSub, Nat.reduceBEq, Nat.reduceGT, Nat.reduceLT, Int.toNat_zero, Nat.reduceLeDiff, Int.reduceEq, Int.reduceLT, Int.reduceLE])
  simp only [tk_map]
  obtain ⟨y, hy⟩ : ∃ y, y = sumB x := ⟨_, rfl⟩
  rw [← hy] at hsl
  ((first | with_reducible refine holds_of_ex X 400 _ _ _ ?_ | skip); simp (maxSteps := 1000000) only [push_cast, reduceCtorEq, Nat.reduceAdd, Nat.reduceMul, Nat.reduceSub, Nat.reduceBEq, Nat.reduceGT, Nat.reduceLT, Int.toNat_zero, Nat.reduceLeDiff, Int.reduceEq, Int.reduceLT, Int.reduceLE, hP, hΓ, hL, hfin, ↓tm_get, String.reduceEq, not_false_eq_true, if_true, h6, h7, h8, h10, ← hy, ← hsl])
  refine ⟨by omega, by omega, by omega, dec_ok' y (by omega), ?_⟩
  exact Into.keep0A
theorem own : ownKnob Tryz.prog.godebug = none := by kernel_rfl
theorem laidOut : laidOutB Tryz.prog = true := by kernel_rfl
theorem body4 (xs : List Dv) (h : Dv.hasL [.sl (.int .u8)] xs) (hb : Dv.vbL xs ≤ 1048576) : ∃ L', BodyOk Tryz.prog rdE Tryz.f4 (xs.map Dv.av) [] (.bool true) L' := by
  obtain ⟨x0, xs, rfl, h0, h⟩ := hasL_cons h
  obtain rfl := hasL_nil h
  simp only [Dv.vbL] at hb
  obtain ⟨l, e0, _, hl⟩ := has_bytes h0
  refine ⟨[], ?_⟩
  simp only [List.map_cons, List.map_nil, e0]
  exact law4_body rdE rfl rfl rfl rfl rfl l (by omega)
theorem lifted4 (os : Os) (started : os.Started) (H : Type) (enc : TypeId × Value → H) (F : Stop.Interp) :
    ReturnsInHanded {} Tryz.checked os 4 .any ((Rows.OpenSpec.upto Rows.objSummedSpec).pre6 enc Tryz.prog Tryz.f4 Rows.objSummedUptoRow.domain false) (((Rows.OpenSpec.upto Rows.objSummedSpec).at F).post enc Tryz.prog Tryz.f4 false true false false) := by
  refine returnsInHanded_of_cond (C := Tryz.checked) (s := Rows.OpenSpec.upto Rows.objSummedSpec) (k := Rows.uptoSmall) rfl own started (by kernel_rfl) Tryz.func4
    (OpenSpec.witness (enc := enc) (C := Tryz.checked) (s := Rows.OpenSpec.upto Rows.objSummedSpec) (k := Rows.uptoSmall) rfl false ⟨#[], #[.slice none 0 0], []⟩ 8 (by kernel_rfl) (by kernel_rfl) (by kernel_rfl)
      (x := ([.nil], [], [])) (by kernel_rfl) rfl (by kernel_rfl)) ?_
  intro W base args ds gs before hval hW _ hk _
  have hds : gs = [] ∧ ∃ d1, ds = [d1] := by
    obtain ⟨p, q, hA, hV, _⟩ := hW
    obtain ⟨rfl, _⟩ := ChangeShapes.trodVars_none hV
    rw [Tryz.params4] at hA
    obtain ⟨_, _, d1, _, _, _, _, rfl, _, _, hA⟩ := ChangeShapes.trodAll_cons hA
    obtain ⟨_, rfl, _⟩ := ChangeShapes.trodAll_nil hA
    exact ⟨rfl, d1, rfl⟩
  obtain ⟨rfl, d1, rfl⟩ := hds
  exact law_contract rdE_ok (f := 4) (fn := Tryz.f4) (by kernel_rfl) laidOut (s := Rows.objSummedSpec) rfl (ss := [.sl (.int .u8)]) (by kernel_rfl) (tb := 4) rfl Tryz.underlying4 (· ≤ 1048576) (fun a b h1 h2 => Nat.le_trans h1 h2) body4 rfl hval hW (Up.small (by simpa using hk))
theorem provedObjSummed : Rows.ObjSummedUptoSaid :=
  OpenClaim.holds_of_cond 4 Tryz.f4 rfl rfl rfl rfl rfl rfl rfl ⟨rfl, rfl, rfl, rfl, rfl⟩ rfl rfl rfl rfl rfl (by kernel_rfl) Tryz.func4 (by kernel_rfl)
    (of_decide_eq_true (by kernel_rfl)) (by unfold Func.isWrapper; first | (rw [if_pos (by decide +kernel)]; kernel_rfl) | (rw [if_neg (by decide +kernel)]; exact ⟨rfl, rfl⟩))
    (fun os started H enc _ F => lifted4 os started H enc F)
end Go.Proofs.YtmilngcgcolpbaaGreat.objRef
