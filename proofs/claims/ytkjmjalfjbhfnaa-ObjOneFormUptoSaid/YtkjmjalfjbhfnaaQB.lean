/- ObjBytes: every Right and Encode is the document's, and what is handed in stays: the law's walk. The condition: what comes in holds at most 1048576 values and letters. -/
import Derived.Test.YtkjmjalfjbhfnaaQA
namespace Go.Proofs.Ytkjmjalfjbhfnaa.objDone
open Go Go.Eng Go.Proofs
open Go.Proofs.Ytkjmjalfjbhfnaa.objNumbersDone (newS putUintP putUintK cloneS numS hi7 lo7 q7 enc)
set_option linter.unusedVariables false
set_option linter.unusedSimpArgs false
set_option maxRecDepth 100000
set_option maxHeartbeats 4000000
theorem shown_body (Γ : Env) (h8 : Γ 8 = some (newS putUintP putUintK)) : BodyOk Try.prog Γ Try.f7 [] [] (.bool true) [] := by
  (intro X hP hΓ hL hfin; refine ⟨_, rfl, ?_⟩; rw [show Try.f7.ntmps = 7 from rfl]; rw [show Try.f7.results.toList = [.tmp 0] from rfl] at hfin; apply holds_of_ex X 400; simp only [push_cast, reduceCtorEq, Nat.reduceAdd, Nat.reduceMul, Nat.reduceSub, Nat.reduceBEq, Nat.reduceGT, Nat.reduceLT, Int.toNat_zero, Nat.reduceLeDiff, Int.reduceEq, Int.reduceLT, Int.reduceLE, hP, hΓ, hL, hfin, h8])
  refine ⟨⟨⟨[7], rfl, rfl⟩, by decide, 300, rfl, by decide⟩, ?_, ?_⟩
  · rw [← List.map_take]; exact allBytes_map _
  · rw [← List.map_take, unbytes_map]
    have e : (List.take ((unbytes [AV.int IntKind.u8 7]).length + (enc (Int.toNat 300)).length) (unbytes [AV.int IntKind.u8 7] ++ enc (Int.toNat 300)) == [7, 172, 2]) = true := by
      simp [enc, hi7, lo7, q7, unbytes, toByte]
    rw [e]
    exact Into.keep0 (leF_refl _) rfl rfl (Nat.le_refl _)
def shS : FSpec := lift0 (fun xs => xs = []) (fun _ => .bool true) (fun _ => []) true
attribute [push_cast] shS
theorem con7 {Γ : Env} (h : EnvOk Try.prog Γ) (h8 : Γ 8 = some (newS putUintP putUintK)) : Con Try.prog 7 shS := by
  refine Con.of_body h (fn := Try.f7) (by kernel_rfl) rfl (by kernel_rfl) (fun _ _ => rfl) fun xs hx => ?_
  obtain rfl := hx
  exact shown_body Γ h8
noncomputable def en0 : Env := noE
theorem en0_ok : EnvOk Try.prog en0 := noE_ok _
noncomputable def en1 : Env := addE en0 23 numS
theorem en1_ok : EnvOk Try.prog en1 := en0_ok.add (objNumbersDone.con23 (noE_ok _))
noncomputable def en2 : Env := addE en1 24 cloneS
theorem en2_ok : EnvOk Try.prog en2 := en1_ok.add (objNumbersDone.con24 (noE_ok _))
noncomputable def en3 : Env := addE en2 8 (newS putUintP putUintK)
theorem en3_ok : EnvOk Try.prog en3 := en2_ok.add (objNumbersDone.con8 en2_ok rfl rfl)
noncomputable abbrev enE : Env := en3
theorem enE_ok : EnvOk Try.prog enE := en3_ok
theorem k7 : Con Try.prog 7 shS := con7 enE_ok rfl
noncomputable def eb0 : Env := noE
theorem eb0_ok : EnvOk Try.prog eb0 := noE_ok _
noncomputable def eb1 : Env := addE eb0 52 S52
theorem eb1_ok : EnvOk Try.prog eb1 := eb0_ok.add (con52 eb0_ok)
noncomputable def eb2 : Env := addE eb1 95 S95
theorem eb2_ok : EnvOk Try.prog eb2 := eb1_ok.add (con95 eb1_ok)
noncomputable def eb3 : Env := addE eb2 94 S94
theorem eb3_ok : EnvOk Try.prog eb3 := eb2_ok.add (con94 eb2_ok rfl)
noncomputable def eb4 : Env := addE eb3 55 S55
theorem eb4_ok : EnvOk Try.prog eb4 := eb3_ok.add (con55 eb3_ok rfl)
noncomputable def eb5 : Env := addE eb4 56 S56
theorem eb5_ok : EnvOk Try.prog eb5 := eb4_ok.add (con56 eb4_ok rfl)
noncomputable def eb6 : Env := addE eb5 57 S57
theorem eb6_ok : EnvOk Try.prog eb6 := eb5_ok.add (con57 eb5_ok rfl)
noncomputable def eb7 : Env := addE eb6 59 S59
theorem eb7_ok : EnvOk Try.prog eb7 := eb6_ok.add (con59 eb6_ok)
noncomputable def eb8 : Env := addE eb7 62 S62
theorem eb8_ok : EnvOk Try.prog eb8 := eb7_ok.add (con62 eb7_ok)
noncomputable def eb9 : Env := addE eb8 54 S54
theorem eb9_ok : EnvOk Try.prog eb9 := eb8_ok.add (con54 eb8_ok rfl rfl rfl rfl)
noncomputable def eb10 : Env := addE eb9 65 S65
theorem eb10_ok : EnvOk Try.prog eb10 := eb9_ok.add (con65 eb9_ok rfl)
noncomputable def eb11 : Env := addE eb10 61 S61
theorem eb11_ok : EnvOk Try.prog eb11 := eb10_ok.add (con61 eb10_ok rfl rfl)
noncomputable def eb12 : Env := addE eb11 64 S64
theorem eb12_ok : EnvOk Try.prog eb12 := eb11_ok.add (con64 eb11_ok rfl)
noncomputable def eb13 : Env := addE eb12 58 S58
theorem eb13_ok : EnvOk Try.prog eb13 := eb12_ok.add (con58 eb12_ok rfl)
noncomputable def eb14 : Env := addE eb13 60 S60
theorem eb14_ok : EnvOk Try.prog eb14 := eb13_ok.add (con60 eb13_ok rfl)
noncomputable def eb15 : Env := addE eb14 63 S63
theorem eb15_ok : EnvOk Try.prog eb15 := eb14_ok.add (con63 eb14_ok rfl)
noncomputable def eb16 : Env := addE eb15 92 sortS
theorem eb16_ok : EnvOk Try.prog eb16 := eb15_ok.add (con92)
noncomputable def eb17 : Env := addE eb16 96 compS
theorem eb17_ok : EnvOk Try.prog eb17 := eb16_ok.add (con96)
noncomputable def eb18 : Env := addE eb17 91 S91
theorem eb18_ok : EnvOk Try.prog eb18 := eb17_ok.add (con91 eb17_ok)
noncomputable def eb19 : Env := addE eb18 102 S102
theorem eb19_ok : EnvOk Try.prog eb19 := eb18_ok.add (con102 eb18_ok rfl)
noncomputable def eb20 : Env := addE eb19 93 S93
theorem eb20_ok : EnvOk Try.prog eb20 := eb19_ok.add (con93 eb19_ok rfl)
noncomputable def eb21 : Env := addE eb20 53 S53
theorem eb21_ok : EnvOk Try.prog eb21 := eb20_ok.add (con53 eb20_ok rfl rfl rfl rfl)
noncomputable def eb22 : Env := addE eb21 27 S27
theorem eb22_ok : EnvOk Try.prog eb22 := eb21_ok.add (con27 eb21_ok rfl rfl rfl rfl rfl rfl)
noncomputable def eb23 : Env := addE eb22 28 S28
theorem eb23_ok : EnvOk Try.prog eb23 := eb22_ok.add (con28 eb22_ok)
noncomputable def eb24 : Env := addE eb23 23 S23
theorem eb24_ok : EnvOk Try.prog eb24 := eb23_ok.add (con23 eb23_ok)
noncomputable def eb25 : Env := addE eb24 25 S25
theorem eb25_ok : EnvOk Try.prog eb25 := eb24_ok.add (con25 enE_ok rfl)
noncomputable def eb26 : Env := addE eb25 32 S32
theorem eb26_ok : EnvOk Try.prog eb26 := eb25_ok.add (con32 eb25_ok rfl)
noncomputable def eb27 : Env := addE eb26 35 S35
theorem eb27_ok : EnvOk Try.prog eb27 := eb26_ok.add (con35 eb26_ok rfl)
noncomputable def eb28 : Env := addE eb27 37 S37
theorem eb28_ok : EnvOk Try.prog eb28 := eb27_ok.add (con37 eb27_ok rfl)
noncomputable def eb29 : Env := addE eb28 30 S30
theorem eb29_ok : EnvOk Try.prog eb29 := eb28_ok.add (con30 eb28_ok rfl rfl)
noncomputable def eb30 : Env := addE eb29 34 S34
theorem eb30_ok : EnvOk Try.prog eb30 := eb29_ok.add (con34 eb29_ok rfl rfl)
noncomputable def eb31 : Env := addE eb30 33 S33
theorem eb31_ok : EnvOk Try.prog eb31 := eb30_ok.add (con33 eb30_ok rfl rfl rfl)
noncomputable def eb32 : Env := addE eb31 39 S39
theorem eb32_ok : EnvOk Try.prog eb32 := eb31_ok.add (con39 eb31_ok rfl rfl)
noncomputable def eb33 : Env := addE eb32 41 S41
theorem eb33_ok : EnvOk Try.prog eb33 := eb32_ok.add (con41 eb32_ok rfl)
noncomputable def eb34 : Env := addE eb33 29 S29
theorem eb34_ok : EnvOk Try.prog eb34 := eb33_ok.add (con29 eb33_ok rfl rfl)
noncomputable def eb35 : Env := addE eb34 31 S31
theorem eb35_ok : EnvOk Try.prog eb35 := eb34_ok.add (con31 eb34_ok rfl rfl)
noncomputable def eb36 : Env := addE eb35 36 S36
theorem eb36_ok : EnvOk Try.prog eb36 := eb35_ok.add (con36 eb35_ok rfl rfl)
noncomputable def eb37 : Env := addE eb36 38 S38
theorem eb37_ok : EnvOk Try.prog eb37 := eb36_ok.add (con38 eb36_ok rfl rfl)
noncomputable def eb38 : Env := addE eb37 40 S40
theorem eb38_ok : EnvOk Try.prog eb38 := eb37_ok.add (con40 eb37_ok rfl rfl)
noncomputable def eb39 : Env := addE eb38 42 S42
theorem eb39_ok : EnvOk Try.prog eb39 := eb38_ok.add (con42 eb38_ok)
noncomputable def eb40 : Env := addE eb39 18 S18
theorem eb40_ok : EnvOk Try.prog eb40 := eb39_ok.add (con18 eb39_ok rfl rfl rfl rfl rfl rfl rfl rfl rfl rfl rfl)
noncomputable def eb41 : Env := addE eb40 17 S17
theorem eb41_ok : EnvOk Try.prog eb41 := eb40_ok.add (con17 eb40_ok rfl)
noncomputable def eb42 : Env := addE eb41 103 S103
theorem eb42_ok : EnvOk Try.prog eb42 := eb41_ok.add (con103 eb41_ok)
noncomputable def eb43 : Env := addE eb42 98 S98
theorem eb43_ok : EnvOk Try.prog eb43 := eb42_ok.add (con98 eb42_ok)
noncomputable def eb44 : Env := addE eb43 97 S97
theorem eb44_ok : EnvOk Try.prog eb44 := eb43_ok.add (con97 eb43_ok rfl)
noncomputable def eb45 : Env := addE eb44 69 S69
theorem eb45_ok : EnvOk Try.prog eb45 := eb44_ok.add (con69 eb44_ok rfl)
noncomputable def eb46 : Env := addE eb45 66 S66
theorem eb46_ok : EnvOk Try.prog eb46 := eb45_ok.add (con66 eb45_ok)
noncomputable def eb47 : Env := addE eb46 67 S67
theorem eb47_ok : EnvOk Try.prog eb47 := eb46_ok.add (con67 eb46_ok rfl)
noncomputable def eb48 : Env := addE eb47 68 S68
theorem eb48_ok : EnvOk Try.prog eb48 := eb47_ok.add (con68 eb47_ok rfl)
noncomputable def eb49 : Env := addE eb48 43 S43
theorem eb49_ok : EnvOk Try.prog eb49 := eb48_ok.add (con43 eb48_ok rfl rfl rfl rfl)
noncomputable def eb50 : Env := addE eb49 72 S72
theorem eb50_ok : EnvOk Try.prog eb50 := eb49_ok.add (con72 eb49_ok)
noncomputable def eb51 : Env := addE eb50 99 S99
theorem eb51_ok : EnvOk Try.prog eb51 := eb50_ok.add (con99 eb50_ok)
noncomputable def eb52 : Env := addE eb51 73 S73
theorem eb52_ok : EnvOk Try.prog eb52 := eb51_ok.add (con73 eb51_ok)
noncomputable def eb53 : Env := addE eb52 70 S70
theorem eb53_ok : EnvOk Try.prog eb53 := eb52_ok.add (con70 eb52_ok rfl)
noncomputable def eb54 : Env := addE eb53 71 S71
theorem eb54_ok : EnvOk Try.prog eb54 := eb53_ok.add (con71 eb53_ok rfl)
noncomputable def eb55 : Env := addE eb54 44 S44
theorem eb55_ok : EnvOk Try.prog eb55 := eb54_ok.add (con44 eb54_ok rfl rfl rfl rfl)
noncomputable def eb56 : Env := addE eb55 19 S19
theorem eb56_ok : EnvOk Try.prog eb56 := eb55_ok.add (con19 eb55_ok rfl rfl)
noncomputable def eb57 : Env := addE eb56 45 S45
theorem eb57_ok : EnvOk Try.prog eb57 := eb56_ok.add (con45 eb56_ok)
noncomputable def eb58 : Env := addE eb57 46 S46
theorem eb58_ok : EnvOk Try.prog eb58 := eb57_ok.add (con46 eb57_ok rfl)
noncomputable def eb59 : Env := addE eb58 20 S20
theorem eb59_ok : EnvOk Try.prog eb59 := eb58_ok.add (con20 eb58_ok rfl rfl)
noncomputable def eb60 : Env := addE eb59 16 S16
theorem eb60_ok : EnvOk Try.prog eb60 := eb59_ok.add (con16 eb59_ok)
noncomputable def eb61 : Env := addE eb60 7 shS
theorem eb61_ok : EnvOk Try.prog eb61 := eb60_ok.add (k7)
noncomputable abbrev ebE : Env := eb61
theorem ebE_ok : EnvOk Try.prog ebE := eb61_ok
theorem law4_body (Γ : Env) (h7 : Γ 7 = some shS) (h16 : Γ 16 = some S16) (h17 : Γ 17 = some S17) (h18 : Γ 18 = some S18) (h19 : Γ 19 = some S19) (h20 : Γ 20 = some S20) (o : Ob) (ho : o.ok) (hu : o.u32s) :
    ∃ L', BodyOk Try.prog Γ Try.f4 [.agg o.c] [] (.bool true) L' := by
  refine ⟨[], ?_⟩
  (intro X hP hΓ hL hfin; refine ⟨_, rfl, ?_⟩; rw [show Try.f4.ntmps = 49 from rfl]; rw [show Try.f4.results.toList = [.tmp 2] from rfl] at hfin; apply holds_of_ex X 400; simp (maxSteps := 1000000) only [push_cast, reduceCtorEq, Nat.reduceAdd, Nat.reduceMul, Nat.reduceSub, Nat.reduceBEq, Nat.reduceGT, Nat.reduceLT, Int.toNat_zero, Nat.reduceLeDiff, Int.reduceEq, Int.reduceLT, Int.reduceLE, hP, hΓ, hL, hfin, h7, h16, h17, h18, h19, h20])
  refine ⟨ho, ho, ho, ⟨ho, hu⟩, ho, ?_⟩
  rw [show (okB o == decide (encE o = 0)) = true by unfold encE; cases okB o <;> rfl]
  exact Into.keep0A
theorem law_ok : EnvOk Try.prog ebE := ebE_ok
theorem own : ownKnob Try.prog.godebug = none := by kernel_rfl
theorem laidOut : laidOutB Try.prog = true := by kernel_rfl
theorem body (xs : List Dv) (h : Dv.hasL [shO] xs) (hb : Dv.vbL xs ≤ 1048576) : ∃ L', BodyOk Try.prog ebE Try.f4 (xs.map Dv.av) [] (.bool true) L' := by
  obtain ⟨x0, xs, rfl, h0, h⟩ := hasL_cons h
  obtain rfl := hasL_nil h
  simp only [Dv.vbL] at hb
  obtain ⟨o, e, ho, hu⟩ := open_O h0 (by omega)
  simp only [List.map_cons, List.map_nil, e]
  exact law4_body ebE rfl rfl rfl rfl rfl rfl o ho hu
theorem lifted (os : Os) (started : os.Started) (H : Type) (enc : TypeId × Value → H) (F : Stop.Interp) :
    ReturnsInHanded {} Try.checked os 4 .any ((Rows.OpenSpec.upto Rows.objBytesSpec).pre6 enc Try.prog Try.f4 Rows.objBytesUptoRow.domain false) (((Rows.OpenSpec.upto Rows.objBytesSpec).at F).post enc Try.prog Try.f4 false true false false) := by
  refine returnsInHanded_of_cond (C := Try.checked) (s := Rows.OpenSpec.upto Rows.objBytesSpec) (k := Rows.uptoSmall) rfl own started (by kernel_rfl) Try.func4
    (OpenSpec.witness (enc := enc) (C := Try.checked) (s := Rows.OpenSpec.upto Rows.objBytesSpec) (k := Rows.uptoSmall) rfl false ⟨#[], #[.agg #[.string .empty, .int .u32 0, .slice none 0 0, .slice none 0 0, .slice none 0 0, .slice none 0 0, .slice none 0 0, .int .i64 0, .slice none 0 0, .slice none 0 0, .slice none 0 0, .slice none 0 0, .slice none 0 0]], []⟩ 8 (by kernel_rfl) (by kernel_rfl) (by kernel_rfl)
      (x := ([.agg [.lit (.string []), .lit (.int .u32 0), .nil, .nil, .nil, .nil, .nil, .lit (.int .i64 0), .nil, .nil, .nil, .nil, .nil]], [], [])) (by kernel_rfl) rfl (by kernel_rfl)) ?_
  intro W base args ds gs before hval hW _ hk _
  have hds : gs = [] ∧ ∃ d1, ds = [d1] := by
    obtain ⟨p, q, hA, hV, _⟩ := hW
    obtain ⟨rfl, _⟩ := ChangeShapes.trodVars_none hV
    rw [Try.params4] at hA
    obtain ⟨_, _, d1, _, _, _, _, rfl, _, _, hA⟩ := ChangeShapes.trodAll_cons hA
    obtain ⟨_, rfl, _⟩ := ChangeShapes.trodAll_nil hA
    exact ⟨rfl, d1, rfl⟩
  obtain ⟨rfl, d1, rfl⟩ := hds
  exact law_contract law_ok (f := 4) (fn := Try.f4) (by kernel_rfl) laidOut (s := Rows.objBytesSpec) rfl (ss := [shO]) (by kernel_rfl) (tb := 4) rfl Try.underlying4 (· ≤ 1048576) (fun a b h1 h2 => Nat.le_trans h1 h2) body rfl hval hW (Up.small (by simpa using hk))
theorem proved : Rows.ObjBytesUptoSaid :=
  OpenClaim.holds_of_cond 4 Try.f4 rfl rfl rfl rfl rfl rfl rfl ⟨rfl, rfl, rfl, rfl, rfl⟩ rfl rfl rfl rfl rfl (by kernel_rfl) Try.func4 (by kernel_rfl)
    (of_decide_eq_true (by kernel_rfl)) (by unfold Func.isWrapper; first | (rw [if_pos (by decide +kernel)]; kernel_rfl) | (rw [if_neg (by decide +kernel)]; exact ⟨rfl, rfl⟩))
    (fun os started H enc _ F => lifted os started H enc F)
end Go.Proofs.Ytkjmjalfjbhfnaa.objDone
