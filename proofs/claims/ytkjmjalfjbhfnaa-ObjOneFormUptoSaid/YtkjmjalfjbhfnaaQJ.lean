/- ObjOneForm: what is read is written as the same bytes. The condition: what comes in holds at most 1048576 values and letters. -/
import Derived.Test.YtkjmjalfjbhfnaaQI
import Derived.Test.YtkjmjalfjbhfnaaQG
import Derived.Test.YtkjmjalfjbhfnaaQB
namespace Go.Proofs.Ytkjmjalfjbhfnaa.objDone
open Go Go.Eng Go.Proofs
open Go.Proofs.Ytkjmjalfjbhfnaa.objNumbersDone (newS putUintP putUintK cloneS numS hi7 lo7 q7 enc uintS textAtS)
set_option linter.unusedVariables false
set_option linter.unusedSimpArgs false
set_option maxRecDepth 100000
set_option maxHeartbeats 4000000
def zeroL : List AV := [.str [], .int .u32 0, .lit (.slice none 0 0), .lit (.slice none 0 0), .lit (.slice none 0 0), .lit (.slice none 0 0), .lit (.slice none 0 0), .int .i64 0, .lit (.slice none 0 0), .lit (.slice none 0 0), .lit (.slice none 0 0), .lit (.slice none 0 0), .lit (.slice none 0 0)]
/-- two empty objects are the same -/
def e20z : Unit → List AV := fun _ => [.agg Ob.zero.c, .agg [.str [], .int .u32 0, .lit (.slice none 0 0), .lit (.slice none 0 0), .lit (.slice none 0 0), .lit (.slice none 0 0), .lit (.slice none 0 0), .int .i64 0, .lit (.slice none 0 0), .lit (.slice none 0 0), .lit (.slice none 0 0), .lit (.slice none 0 0), .lit (.slice none 0 0)]]
theorem dec_zero {b : Bytes} (h : (decM b).2.2 ≠ 0) : (decM b).1 = .zero := by
  unfold decM at h ⊢
  split
  · rfl
  split
  · rfl
  split
  · rfl
  split
  · rfl
  · rename_i h1 h2 h3 h4
    rw [if_neg h1, if_neg h2, if_neg h3, if_neg h4] at h
    exact absurd rfl h
theorem dec_ok {b : Bytes} (hb : b.length ≤ 4194304) : (decM b).1.ok := by
  have hz : Ob.zero.ok := by constructor <;> simp [Ob.zero]
  unfold decM
  split
  · exact hz
  rename_i h1
  split
  · exact hz
  split
  · exact hz
  split
  · exact hz
  simp only [Bool.not_eq_false, hdrB, Bool.and_eq_true, decide_eq_true_eq] at h1
  exact (obj_ok (r := ⟨b.take (b.length - 4), 4, -1⟩) ⟨by simp; omega, by simp, by simp; omega⟩).1
theorem body20z (Γ : Env) (h45 : Γ 45 = some S45) (h46 : Γ 46 = some S46) : BodyOk Try.prog Γ Try.f20 (e20z ()) [] (.bool true) [] := by
  refine BodyOk.soft ?_
  have e : softL (e20z ()) = e20 Ob.zero := by simp only [e20z, e20, softL_nil, softL_cons, softV_agg, softV_nil, softV_int, softV_str, softV_sl, Ob.zero, Ob.c, List.map_nil, List.flatMap_nil, List.length_nil]
  rw [e]
  exact body20 Γ h45 h46 Ob.zero (by constructor <;> simp [Ob.zero])
def p20z : Unit → Prop := fun _ => True
def r20z : Unit → AV := fun _ => .bool true
def g20z : Unit → Heap := fun _ => []
theorem inj20z : ∀ a b, e20z a = e20z b → a = b := fun _ _ _ => rfl
noncomputable def S20z : FSpec := funS e20z p20z r20z g20z true
theorem ps20z : psel e20z p20z [.agg Ob.zero.c, .agg [.str [], .int .u32 0, .lit (.slice none 0 0), .lit (.slice none 0 0), .lit (.slice none 0 0), .lit (.slice none 0 0), .lit (.slice none 0 0), .int .i64 0, .lit (.slice none 0 0), .lit (.slice none 0 0), .lit (.slice none 0 0), .lit (.slice none 0 0), .lit (.slice none 0 0)]] = True := psel_at inj20z p20z ()
theorem rs20z : rsel e20z r20z .any [.agg Ob.zero.c, .agg [.str [], .int .u32 0, .lit (.slice none 0 0), .lit (.slice none 0 0), .lit (.slice none 0 0), .lit (.slice none 0 0), .lit (.slice none 0 0), .int .i64 0, .lit (.slice none 0 0), .lit (.slice none 0 0), .lit (.slice none 0 0), .lit (.slice none 0 0), .lit (.slice none 0 0)]] = .bool true := rsel_at inj20z r20z .any ()
theorem hs20z : rsel e20z g20z [] [.agg Ob.zero.c, .agg [.str [], .int .u32 0, .lit (.slice none 0 0), .lit (.slice none 0 0), .lit (.slice none 0 0), .lit (.slice none 0 0), .lit (.slice none 0 0), .int .i64 0, .lit (.slice none 0 0), .lit (.slice none 0 0), .lit (.slice none 0 0), .lit (.slice none 0 0), .lit (.slice none 0 0)]] = [] := rsel_at inj20z g20z [] ()
attribute [push_cast] S20z ps20z rs20z hs20z
theorem con20z {Γ : Env} (h : EnvOk Try.prog Γ) (h45 : Γ 45 = some S45) (h46 : Γ 46 = some S46) : Con Try.prog 20 S20z :=
  funS_con h (fn := Try.f20) (by kernel_rfl) rfl (by kernel_rfl) inj20z (fun _ _ => rfl) fun _ _ => body20z Γ h45 h46
theorem law5_body (Γ : Env) (h7 : Γ 7 = some shS) (h17 : Γ 17 = some S17) (h18 : Γ 18 = some S18) (h20 : Γ 20 = some S20z) (h21 : Γ 21 = some S21) (b : Bytes) (hb : b.length ≤ 1048576) :
    BodyOk Try.prog Γ Try.f5 [.sl (b.map byteAV) b.length] [] (.bool true) [] := by
  (intro X hP hΓ hL hfin; refine ⟨_, rfl, ?_⟩; rw [show Try.f5.ntmps = 51 from rfl]; rw [show Try.f5.results.toList = [.tmp 2] from rfl] at hfin; apply holds_of_ex X 400; simp (maxSteps := 1000000) only [push_cast, reduceCtorEq, Nat.reduceAdd, Nat.reduceMul, Nat.reduceSub, Nat.reduceBEq, Nat.reduceGT, Nat.reduceLT, Int.toNat_zero, Nat.reduceLeDiff, Int.reduceEq, Int.reduceLT, Int.reduceLE, hP, hΓ, hL, hfin, ↓tm_get, String.reduceEq, not_false_eq_true, if_true, h7, h17, h18, h20, h21])
  refine ⟨by omega, ?_⟩
  refine exB_split (fun h => ?_) (fun h => ?_)
  · have hz := dec_zero (b := b) (by simpa using h)
    rw [hz]
    ((first | with_reducible refine holds_of_ex X 400 _ _ _ ?_ | skip); simp (maxSteps := 1000000) only [push_cast, reduceCtorEq, Nat.reduceAdd, Nat.reduceMul, Nat.reduceSub, Nat.reduceBEq, Nat.reduceGT, Nat.reduceLT, Int.toNat_zero, Nat.reduceLeDiff, Int.reduceEq, Int.reduceLT, Int.reduceLE, hP, hΓ, hL, hfin, ↓tm_get, String.reduceEq, not_false_eq_true, if_true, h20])
    exact Into.keep0A
  have h0 : (decM b).2.2 = 0 := by simpa using h
  obtain ⟨a1, a2, a3⟩ := read_write b (by omega) h0
  have ho := dec_ok (b := b) (by omega)
  have e1 : encV (decM b).1 = b := by rw [encV, a1, if_pos rfl, a3]
  have e2 : encE (decM b).1 = 0 := by rw [encE, a1]; rfl
  ((first | with_reducible refine holds_of_ex X 400 _ _ _ ?_ | skip); simp (maxSteps := 1000000) only [push_cast, reduceCtorEq, Nat.reduceAdd, Nat.reduceMul, Nat.reduceSub, Nat.reduceBEq, Nat.reduceGT, Nat.reduceLT, Int.toNat_zero, Nat.reduceLeDiff, Int.reduceEq, Int.reduceLT, Int.reduceLE, hP, hΓ, hL, hfin, ↓tm_get, String.reduceEq, not_false_eq_true, if_true, h17, h18])
  rw [e1, e2, a1, a2]
  refine ⟨ho, ho, ?_⟩
  simp only [decide_true, Bool.and_true, beq_self_eq_true]
  exact Into.keep0A
noncomputable def ec0 : Env := ebE
theorem ec0_ok : EnvOk Try.prog ec0 := ebE_ok
noncomputable def ec1 : Env := addE ec0 10 uintS
theorem ec1_ok : EnvOk Try.prog ec1 := ec0_ok.add (objNumbersDone.con10 ec0_ok)
noncomputable def ec2 : Env := addE ec1 12 textAtS
theorem ec2_ok : EnvOk Try.prog ec2 := ec1_ok.add (objNumbersDone.con12 ec1_ok rfl)
noncomputable def ec3 : Env := addE ec2 74 S74
theorem ec3_ok : EnvOk Try.prog ec3 := ec2_ok.add (con74 ec2_ok)
noncomputable def ec4 : Env := addE ec3 47 S47
theorem ec4_ok : EnvOk Try.prog ec4 := ec3_ok.add (con47 ec3_ok rfl)
noncomputable def ec5 : Env := addE ec4 49 S49
theorem ec5_ok : EnvOk Try.prog ec5 := ec4_ok.add (con49 ec4_ok)
noncomputable def ec6 : Env := addE ec5 90 S90
theorem ec6_ok : EnvOk Try.prog ec6 := ec5_ok.add (con90 ec5_ok rfl rfl)
noncomputable def ec7 : Env := addE ec6 82 S82
theorem ec7_ok : EnvOk Try.prog ec7 := ec6_ok.add (con82 ec6_ok rfl)
noncomputable def ec8 : Env := addE ec7 75 S75
theorem ec8_ok : EnvOk Try.prog ec8 := ec7_ok.add (con75 ec7_ok rfl rfl)
noncomputable def ec9 : Env := addE ec8 76 S76
theorem ec9_ok : EnvOk Try.prog ec9 := ec8_ok.add (con76 ec8_ok rfl rfl)
noncomputable def ec10 : Env := addE ec9 83 S83
theorem ec10_ok : EnvOk Try.prog ec10 := ec9_ok.add (con83 ec9_ok rfl)
noncomputable def ec11 : Env := addE ec10 78 S78
theorem ec11_ok : EnvOk Try.prog ec11 := ec10_ok.add (con78 ec10_ok rfl rfl)
noncomputable def ec12 : Env := addE ec11 85 S85
theorem ec12_ok : EnvOk Try.prog ec12 := ec11_ok.add (con85 ec11_ok rfl)
noncomputable def ec13 : Env := addE ec12 89 S89
theorem ec13_ok : EnvOk Try.prog ec13 := ec12_ok.add (con89 ec12_ok rfl rfl rfl)
noncomputable def ec14 : Env := addE ec13 77 S77
theorem ec14_ok : EnvOk Try.prog ec14 := ec13_ok.add (con77 ec13_ok rfl rfl)
noncomputable def ec15 : Env := addE ec14 79 S79
theorem ec15_ok : EnvOk Try.prog ec15 := ec14_ok.add (con79 ec14_ok rfl rfl)
noncomputable def ec16 : Env := addE ec15 84 S84
theorem ec16_ok : EnvOk Try.prog ec16 := ec15_ok.add (con84 ec15_ok rfl rfl)
noncomputable def ec17 : Env := addE ec16 88 S88
theorem ec17_ok : EnvOk Try.prog ec17 := ec16_ok.add (con88 ec16_ok rfl rfl)
noncomputable def ec18 : Env := addE ec17 81 S81
theorem ec18_ok : EnvOk Try.prog ec18 := ec17_ok.add (con81 ec17_ok rfl rfl rfl)
noncomputable def ec19 : Env := addE ec18 80 S80
theorem ec19_ok : EnvOk Try.prog ec19 := ec18_ok.add (con80 ec18_ok rfl rfl rfl)
noncomputable def ec20 : Env := addE ec19 87 S87
theorem ec20_ok : EnvOk Try.prog ec20 := ec19_ok.add (con87 ec19_ok rfl rfl)
noncomputable def ec21 : Env := addE ec20 86 S86
theorem ec21_ok : EnvOk Try.prog ec21 := ec20_ok.add (con86 ec20_ok rfl rfl)
noncomputable def ec22 : Env := addE ec21 48 S48
theorem ec22_ok : EnvOk Try.prog ec22 := ec21_ok.add (con48 ec21_ok rfl rfl rfl rfl rfl rfl rfl rfl rfl)
noncomputable def ec23 : Env := addE ec22 21 S21
theorem ec23_ok : EnvOk Try.prog ec23 := ec22_ok.add (con21 ec22_ok rfl rfl rfl rfl rfl)
noncomputable def ec24 : Env := addE ec23 50 S50
theorem ec24_ok : EnvOk Try.prog ec24 := ec23_ok.add (con50 ec23_ok)
noncomputable def ec25 : Env := addE ec24 22 S22
theorem ec25_ok : EnvOk Try.prog ec25 := ec24_ok.add (con22 ec24_ok rfl rfl)
noncomputable abbrev ecE : Env := ec25
theorem ecE_ok : EnvOk Try.prog ecE := ec25_ok
noncomputable abbrev edE : Env := addE ecE 20 S20z
theorem edE_ok : EnvOk Try.prog edE := ecE_ok.add (con20z ecE_ok rfl rfl)
theorem body5 (xs : List Dv) (h : Dv.hasL [.sl (.int .u8)] xs) (hb : Dv.vbL xs ≤ 1048576) : ∃ L', BodyOk Try.prog edE Try.f5 (xs.map Dv.av) [] (.bool true) L' := by
  obtain ⟨x0, xs, rfl, h0, h⟩ := hasL_cons h
  obtain rfl := hasL_nil h
  simp only [Dv.vbL] at hb
  obtain ⟨l, e0, _, hl⟩ := has_bytes h0
  refine ⟨[], ?_⟩
  simp only [List.map_cons, List.map_nil, e0]
  exact law5_body edE rfl rfl rfl rfl rfl l (by omega)
theorem lifted5 (os : Os) (started : os.Started) (H : Type) (enc : TypeId × Value → H) (F : Stop.Interp) :
    ReturnsInHanded {} Try.checked os 5 .any ((Rows.OpenSpec.upto Rows.objOneFormSpec).pre6 enc Try.prog Try.f5 Rows.objOneFormUptoRow.domain false) (((Rows.OpenSpec.upto Rows.objOneFormSpec).at F).post enc Try.prog Try.f5 false true false false) := by
  refine returnsInHanded_of_cond (C := Try.checked) (s := Rows.OpenSpec.upto Rows.objOneFormSpec) (k := Rows.uptoSmall) rfl own started (by kernel_rfl) Try.func5
    (OpenSpec.witness (enc := enc) (C := Try.checked) (s := Rows.OpenSpec.upto Rows.objOneFormSpec) (k := Rows.uptoSmall) rfl false ⟨#[], #[.slice none 0 0], []⟩ 8 (by kernel_rfl) (by kernel_rfl) (by kernel_rfl)
      (x := ([.nil], [], [])) (by kernel_rfl) rfl (by kernel_rfl)) ?_
  intro W base args ds gs before hval hW _ hk _
  have hds : gs = [] ∧ ∃ d1, ds = [d1] := by
    obtain ⟨p, q, hA, hV, _⟩ := hW
    obtain ⟨rfl, _⟩ := ChangeShapes.trodVars_none hV
    rw [Try.params5] at hA
    obtain ⟨_, _, d1, _, _, _, _, rfl, _, _, hA⟩ := ChangeShapes.trodAll_cons hA
    obtain ⟨_, rfl, _⟩ := ChangeShapes.trodAll_nil hA
    exact ⟨rfl, d1, rfl⟩
  obtain ⟨rfl, d1, rfl⟩ := hds
  exact law_contract edE_ok (f := 5) (fn := Try.f5) (by kernel_rfl) laidOut (s := Rows.objOneFormSpec) rfl (ss := [.sl (.int .u8)]) (by kernel_rfl) (tb := 4) rfl Try.underlying4 (· ≤ 1048576) (fun a b h1 h2 => Nat.le_trans h1 h2) body5 rfl hval hW (Up.small (by simpa using hk))
theorem provedObjOneForm : Rows.ObjOneFormUptoSaid :=
  OpenClaim.holds_of_cond 5 Try.f5 rfl rfl rfl rfl rfl rfl rfl ⟨rfl, rfl, rfl, rfl, rfl⟩ rfl rfl rfl rfl rfl (by kernel_rfl) Try.func5 (by kernel_rfl)
    (of_decide_eq_true (by kernel_rfl)) (by unfold Func.isWrapper; first | (rw [if_pos (by decide +kernel)]; kernel_rfl) | (rw [if_neg (by decide +kernel)]; exact ⟨rfl, rfl⟩))
    (fun os started H enc _ F => lifted5 os started H enc F)
end Go.Proofs.Ytkjmjalfjbhfnaa.objDone
