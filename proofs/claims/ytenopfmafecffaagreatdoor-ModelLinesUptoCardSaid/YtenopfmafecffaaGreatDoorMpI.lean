/- Of the model of a workstation: what the program's commands do with a file's text. Conditions stand in each. -/
import Derived.Test.YtenopfmafecffaaGreatDoorPA
namespace Go.Proofs.YtenopfmafecffaaGreatDoor.modelDone
open Go Go.Eng Go.Proofs Go.Mdl Go.RowKit
set_option linter.unusedVariables false
set_option linter.unusedSimpArgs false
set_option maxRecDepth 100000
set_option maxHeartbeats 4000000
def e85 : (Bytes) → List AV := fun d => [.str d]
def p85 : (Bytes) → Prop := fun d => d.length ≤ 1000000
def r85 : (Bytes) → AV := fun d => .str d
def g85 : (Bytes) → Heap := fun d => []
theorem inj85 : ∀ a b, e85 a = e85 b → a = b := by
  rintro d d' h
  simp only [e85, mi_iff, ms_iff, mb_iff, my_iff, UInt8.toNat_inj, List.cons.injEq, AV.int.injEq, AV.str.injEq, AV.bool.injEq, AV.sl.injEq, AV.agg.injEq, AV.ip.injEq, AV.fn.injEq, AV.ifc.injEq, AV.mpr.injEq, Int.natCast_inj, and_true, true_and] at h
  simp_all only
noncomputable def S85 : FSpec := funS e85 p85 r85 g85 true
theorem ps85 (d : (Bytes)) : psel e85 p85 [.str d] = (d.length ≤ 1000000) := psel_at inj85 p85 d
theorem rs85 (d : (Bytes)) : rsel e85 r85 .any [.str d] = (.str d) := rsel_at inj85 r85 .any d
theorem hs85 (d : (Bytes)) : rsel e85 g85 [] [.str d] = ([]) := rsel_at inj85 g85 [] d
attribute [push_cast] S85 ps85 rs85 hs85
theorem body85 (Γ : Env) (d : Bytes) : BodyOk Tryz.prog Γ Tryz.f85 [.str d] [] (.str d) [] := by
  (intro X hP hΓ hL hfin; refine ⟨_, rfl, ?_⟩; rw [show Tryz.f85.ntmps = 4 from rfl]; rw [show Tryz.f85.results.toList = [.tmp 2] from rfl] at hfin; apply holds_of_ex X 400; simp (maxSteps := 1000000) only [push_cast, reduceCtorEq, Nat.reduceAdd, Nat.reduceMul, Nat.reduceSub, Nat.reduceBEq, Nat.reduceGT, Nat.reduceLT, Int.toNat_zero, Nat.reduceLeDiff, Int.reduceEq, Int.reduceLT, Int.reduceLE, hP, hΓ, hL, hfin, String.reduceEq, not_false_eq_true, if_true])
  exact Into.sameA
theorem con85 {Γ : Env} (h : EnvOk Tryz.prog Γ)  : Con Tryz.prog 85 S85 :=
  funS_con h (fn := Tryz.f85) (by kernel_rfl) rfl (by kernel_rfl) inj85 (by first | (intro h; cases h; done) | exact fun _ _ => rfl) fun d h => body85 Γ d
def e86 : (Bytes) → List AV := fun d => [.str d]
def p86 : (Bytes) → Prop := fun d => d.length ≤ 1000000
def r86 : (Bytes) → AV := fun d => .str (numT d.length)
def g86 : (Bytes) → Heap := fun d => []
theorem inj86 : ∀ a b, e86 a = e86 b → a = b := by
  rintro d d' h
  simp only [e86, mi_iff, ms_iff, mb_iff, my_iff, UInt8.toNat_inj, List.cons.injEq, AV.int.injEq, AV.str.injEq, AV.bool.injEq, AV.sl.injEq, AV.agg.injEq, AV.ip.injEq, AV.fn.injEq, AV.ifc.injEq, AV.mpr.injEq, Int.natCast_inj, and_true, true_and] at h
  simp_all only
noncomputable def S86 : FSpec := funS e86 p86 r86 g86 true
theorem ps86 (d : (Bytes)) : psel e86 p86 [.str d] = (d.length ≤ 1000000) := psel_at inj86 p86 d
theorem rs86 (d : (Bytes)) : rsel e86 r86 .any [.str d] = (.str (numT d.length)) := rsel_at inj86 r86 .any d
theorem hs86 (d : (Bytes)) : rsel e86 g86 [] [.str d] = ([]) := rsel_at inj86 g86 [] d
attribute [push_cast] S86 ps86 rs86 hs86
theorem body86 (Γ : Env) (h84 : Γ 84 = some S84) (d : Bytes) (hd : d.length ≤ 1000000) : BodyOk Tryz.prog Γ Tryz.f86 [.str d] [] (.str (numT d.length)) [] := by
  (intro X hP hΓ hL hfin; refine ⟨_, rfl, ?_⟩; rw [show Tryz.f86.ntmps = 6 from rfl]; rw [show Tryz.f86.results.toList = [.tmp 2] from rfl] at hfin; apply holds_of_ex X 400; simp (maxSteps := 1000000) only [push_cast, reduceCtorEq, Nat.reduceAdd, Nat.reduceMul, Nat.reduceSub, Nat.reduceBEq, Nat.reduceGT, Nat.reduceLT, Int.toNat_zero, Nat.reduceLeDiff, Int.reduceEq, Int.reduceLT, Int.reduceLE, hP, hΓ, hL, hfin, String.reduceEq, not_false_eq_true, if_true, h84])
  refine ⟨by omega, ?_⟩
  exact Into.sameA
theorem con86 {Γ : Env} (h : EnvOk Tryz.prog Γ) (h84 : Γ 84 = some S84) : Con Tryz.prog 86 S86 :=
  funS_con h (fn := Tryz.f86) (by kernel_rfl) rfl (by kernel_rfl) inj86 (by first | (intro h; cases h; done) | exact fun _ _ => rfl) fun d h => body86 Γ h84 d h
def e88 : (Int) × (Bytes) → List AV := fun (i, s) => [.int .i64 i, .ip [.str s]]
def p88 : (Int) × (Bytes) → Prop := fun (i, s) => s.length ≤ 1000000 ∧ 0 ≤ i ∧ 4 * i + 3 < s.length
def r88 : (Int) × (Bytes) → AV := fun (i, s) => .int .u32 (wordF s i.toNat)
def g88 : (Int) × (Bytes) → Heap := fun (i, s) => []
theorem inj88 : ∀ a b, e88 a = e88 b → a = b := by
  rintro ⟨i, s⟩ ⟨i', s'⟩ h
  simp only [e88, mi_iff, ms_iff, mb_iff, my_iff, UInt8.toNat_inj, List.cons.injEq, AV.int.injEq, AV.str.injEq, AV.bool.injEq, AV.sl.injEq, AV.agg.injEq, AV.ip.injEq, AV.fn.injEq, AV.ifc.injEq, AV.mpr.injEq, Int.natCast_inj, and_true, true_and] at h
  simp_all only
noncomputable def S88 : FSpec := funS e88 p88 r88 g88 true
theorem ps88 (i : (Int)) (s : (Bytes)) : psel e88 p88 [.int .i64 i, .ip [.str s]] = (s.length ≤ 1000000 ∧ 0 ≤ i ∧ 4 * i + 3 < s.length) := psel_at inj88 p88 (i, s)
theorem rs88 (i : (Int)) (s : (Bytes)) : rsel e88 r88 .any [.int .i64 i, .ip [.str s]] = (.int .u32 (wordF s i.toNat)) := rsel_at inj88 r88 .any (i, s)
theorem hs88 (i : (Int)) (s : (Bytes)) : rsel e88 g88 [] [.int .i64 i, .ip [.str s]] = ([]) := rsel_at inj88 g88 [] (i, s)
attribute [push_cast] S88 ps88 rs88 hs88
theorem body88 (Γ : Env) (s : Bytes) (i : Nat) (hs : s.length ≤ 1000000) (hi : 4 * i + 3 < s.length) : BodyOk Tryz.prog Γ Tryz.f88 [.int .i64 i, .ip [.str s]] [] (.int .u32 (wordF s i)) [] := by
  have w0 : IntKind.i64.wrap (4 * (i : Int)) = ((4 * i : Nat) : Int) := by rw [wr_i64 _ (by constructor <;> omega)]; omega
  have w1 : IntKind.i64.wrap (((4 * i : Nat) : Int) + 1) = ((4 * i + 1 : Nat) : Int) := by rw [wr_i64 _ (by constructor <;> omega)]; omega
  have w2 : IntKind.i64.wrap (((4 * i : Nat) : Int) + 2) = ((4 * i + 2 : Nat) : Int) := by rw [wr_i64 _ (by constructor <;> omega)]; omega
  have w3 : IntKind.i64.wrap (((4 * i : Nat) : Int) + 3) = ((4 * i + 3 : Nat) : Int) := by rw [wr_i64 _ (by constructor <;> omega)]; omega
  generalize h0 : 4 * i = a0 at *
  (intro X hP hΓ hL hfin; refine ⟨_, rfl, ?_⟩; rw [show Tryz.f88.ntmps = 33 from rfl]; rw [show Tryz.f88.results.toList = [.tmp 3] from rfl] at hfin; apply holds_of_ex X 400; simp (maxSteps := 1000000) only [push_cast, reduceCtorEq, Nat.reduceAdd, Nat.reduceMul, Nat.reduceSub, Nat.reduceBEq, Nat.reduceGT, Nat.reduceLT, Int.toNat_zero, Nat.reduceLeDiff, Int.reduceEq, Int.reduceLT, Int.reduceLE, hP, hΓ, hL, hfin, String.reduceEq, not_false_eq_true, if_true])
  (refine Holds.drawnQ (by rw [hP]; kernel_rfl) (by kernel_rfl) ?_; simp (maxSteps := 1000000) only [push_cast, reduceCtorEq, Nat.reduceAdd, Nat.reduceMul, Nat.reduceSub, Nat.reduceBEq, Nat.reduceGT, Nat.reduceLT, Int.toNat_zero, Nat.reduceLeDiff, Int.reduceEq, Int.reduceLT, Int.reduceLE, hP, hΓ, hL, hfin, String.reduceEq, not_false_eq_true, if_true, w0, w1, w2, w3])
  refine ⟨by omega, ⟨by omega, by omega⟩, ⟨by omega, by omega⟩, ⟨by omega, by omega⟩, ?_⟩
  rw [show ((a0 : Int) + 1 + 1 + 1).toNat = a0 + 3 by omega, show ((a0 : Int) + 1 + 1).toNat = a0 + 2 by omega, wordF, h0]
  exact Into.sameA
theorem body88' (Γ : Env) (s : Bytes) (i : Int) (hs : s.length ≤ 1000000) (h0 : 0 ≤ i) (hi : 4 * i + 3 < s.length) : BodyOk Tryz.prog Γ Tryz.f88 [.int .i64 i, .ip [.str s]] [] (.int .u32 (wordF s i.toNat)) [] := by
  have := body88 Γ s i.toNat hs (by omega)
  rwa [Int.toNat_of_nonneg h0] at this
theorem con88 {Γ : Env} (h : EnvOk Tryz.prog Γ)  : Con Tryz.prog 88 S88 :=
  funS_con h (fn := Tryz.f88) (by kernel_rfl) rfl (by kernel_rfl) inj88 (by first | (intro h; cases h; done) | exact fun _ _ => rfl) fun ⟨i, s⟩ h => body88' Γ s i h.1 h.2.1 h.2.2
/-- the sum -/
def addF (s : Bytes) : Nat → Int
  | 0 => 0
  | k + 1 => IntKind.u32.wrap (addF s k + wordF s (3 + k))
theorem addF_0 (s : Bytes) : addF s 0 = 0 := rfl
theorem u32w (n : Int) : IntKind.u32.wrap n = n % 4294967296 := rfl
theorem wordF_b (s : Bytes) (i : Nat) : 0 ≤ wordF s i ∧ wordF s i < 4294967296 := by
  unfold wordF
  rw [show ∀ a b, ibits BinOp.or IntKind.u32 a b = IntKind.u32.wrap (BitVec.ofInt IntKind.u32.bits a ||| BitVec.ofInt IntKind.u32.bits b).toNat from fun _ _ => rfl, u32w]
  omega
theorem addF_b (s : Bytes) (k : Nat) : 0 ≤ addF s k ∧ addF s k < 4294967296 := by
  cases k with
  | zero => rw [addF]; omega
  | succ k => rw [addF, u32w]; omega
theorem sub_add (s : Bytes) (k : Nat) : subF s k = (wordF s 2 - addF s k) % 4294967296 := by
  induction k with
  | zero => have := wordF_b s 2; rw [subF, addF]; omega
  | succ k ih => rw [subF, addF, u32w, u32w, ih]; omega
theorem add_eq (s : Bytes) (k : Nat) : decide (addF s k = wordF s 2) = decide (subF s k = 0) := by
  have h1 := wordF_b s 2
  have h2 := addF_b s k
  have h3 := sub_add s k
  by_cases h : addF s k = wordF s 2
  · rw [decide_eq_true h, decide_eq_true (by omega)]
  · rw [decide_eq_false h, decide_eq_false (by omega)]
def prgT (d : Bytes) : Bytes := if progR d then [] else wrongT 199
def e87 : (Bytes) → List AV := fun s => [.str s]
def p87 : (Bytes) → Prop := fun s => s.length ≤ 1000000
def r87 : (Bytes) → AV := fun s => .str (prgT s)
def g87 : (Bytes) → Heap := fun s => []
theorem inj87 : ∀ a b, e87 a = e87 b → a = b := by
  rintro s s' h
  simp only [e87, mi_iff, ms_iff, mb_iff, my_iff, UInt8.toNat_inj, List.cons.injEq, AV.int.injEq, AV.str.injEq, AV.bool.injEq, AV.sl.injEq, AV.agg.injEq, AV.ip.injEq, AV.fn.injEq, AV.ifc.injEq, AV.mpr.injEq, Int.natCast_inj, and_true, true_and] at h
  simp_all only
noncomputable def S87 : FSpec := funS e87 p87 r87 g87 false
theorem ps87 (s : (Bytes)) : psel e87 p87 [.str s] = (s.length ≤ 1000000) := psel_at inj87 p87 s
theorem rs87 (s : (Bytes)) : rsel e87 r87 .any [.str s] = (.str (prgT s)) := rsel_at inj87 r87 .any s
theorem hs87 (s : (Bytes)) : rsel e87 g87 [] [.str s] = ([]) := rsel_at inj87 g87 [] s
attribute [push_cast] S87 ps87 rs87 hs87
theorem body87 (Γ : Env) (h29 : Γ 29 = some S29) (h88 : Γ 88 = some S88) (s : Bytes) (hs : s.length ≤ 1000000) : BodyOk Tryz.prog Γ Tryz.f87 [.str s] [] (.str (prgT s)) [] := by
  have e1 : (s.length : Int).tdiv 4 = ((s.length / 4 : Nat) : Int) := by rw [Int.tdiv_eq_ediv_of_nonneg (by omega)]; omega
  have e2 : (s.length : Int).tmod 4 = ((s.length % 4 : Nat) : Int) := by rw [Int.tmod_eq_emod_of_nonneg (by omega)]; omega
  have hff := @progR_f s
  have hae := add_eq s (s.length / 4 - 3)
  generalize hq : s.length / 4 = q at *
  generalize hr : s.length % 4 = r at *
  by_cases c2 : r = 0
  case neg =>
    have hf : progR s = false := hff fun h => c2 h.2.1
    have c2' : ¬ (r : Int) = 0 := by omega
    rw [prgT, hf]
    (intro X hP hΓ hL hfin; refine ⟨_, rfl, ?_⟩; rw [show Tryz.f87.ntmps = 53 from rfl]; rw [show Tryz.f87.results.toList = [.tmp 2] from rfl] at hfin; apply holds_of_ex X 400; simp (maxSteps := 1000000) only [push_cast, reduceCtorEq, Nat.reduceAdd, Nat.reduceMul, Nat.reduceSub, Nat.reduceBEq, Nat.reduceGT, Nat.reduceLT, Int.toNat_zero, Nat.reduceLeDiff, Int.reduceEq, Int.reduceLT, Int.reduceLE, hP, hΓ, hL, hfin, String.reduceEq, not_false_eq_true, if_true, e1, e2, wr_i64 ((q : Int)) (by constructor <;> omega), wr_i64 ((q : Int) - 3) (by constructor <;> omega), h88, h29, c2'])
    exact Into.keep0A
  subst c2
  have z0 : ((0 : Nat) : Int) = 0 := rfl
  by_cases c1 : (q : Int) - 3 < 1
  · have hf : progR s = false := hff fun h => by omega
    rw [prgT, hf]
    (intro X hP hΓ hL hfin; refine ⟨_, rfl, ?_⟩; rw [show Tryz.f87.ntmps = 53 from rfl]; rw [show Tryz.f87.results.toList = [.tmp 2] from rfl] at hfin; apply holds_of_ex X 400; simp (maxSteps := 1000000) only [push_cast, reduceCtorEq, Nat.reduceAdd, Nat.reduceMul, Nat.reduceSub, Nat.reduceBEq, Nat.reduceGT, Nat.reduceLT, Int.toNat_zero, Nat.reduceLeDiff, Int.reduceEq, Int.reduceLT, Int.reduceLE, hP, hΓ, hL, hfin, String.reduceEq, not_false_eq_true, if_true, e1, e2, wr_i64 ((q : Int)) (by constructor <;> omega), wr_i64 ((q : Int) - 3) (by constructor <;> omega), h88, h29, c1, z0])
    exact Into.keep0A
  by_cases c3 : (98304 : Int) < (q : Int) - 3
  · have hf : progR s = false := hff fun h => by omega
    rw [prgT, hf]
    (intro X hP hΓ hL hfin; refine ⟨_, rfl, ?_⟩; rw [show Tryz.f87.ntmps = 53 from rfl]; rw [show Tryz.f87.results.toList = [.tmp 2] from rfl] at hfin; apply holds_of_ex X 400; simp (maxSteps := 1000000) only [push_cast, reduceCtorEq, Nat.reduceAdd, Nat.reduceMul, Nat.reduceSub, Nat.reduceBEq, Nat.reduceGT, Nat.reduceLT, Int.toNat_zero, Nat.reduceLeDiff, Int.reduceEq, Int.reduceLT, Int.reduceLE, hP, hΓ, hL, hfin, String.reduceEq, not_false_eq_true, if_true, e1, e2, wr_i64 ((q : Int)) (by constructor <;> omega), wr_i64 ((q : Int) - 3) (by constructor <;> omega), h88, h29, c1, c3, z0])
    exact Into.keep0A
  by_cases c4 : wordF s 0 = 827347523
  case neg =>
    have hf : progR s = false := hff fun h => c4 h.2.2.2.1
    rw [prgT, hf]
    (intro X hP hΓ hL hfin; refine ⟨_, rfl, ?_⟩; rw [show Tryz.f87.ntmps = 53 from rfl]; rw [show Tryz.f87.results.toList = [.tmp 2] from rfl] at hfin; apply holds_of_ex X 400; simp (maxSteps := 1000000) only [push_cast, reduceCtorEq, Nat.reduceAdd, Nat.reduceMul, Nat.reduceSub, Nat.reduceBEq, Nat.reduceGT, Nat.reduceLT, Int.toNat_zero, Nat.reduceLeDiff, Int.reduceEq, Int.reduceLT, Int.reduceLE, hP, hΓ, hL, hfin, String.reduceEq, not_false_eq_true, if_true, e1, e2, wr_i64 ((q : Int)) (by constructor <;> omega), wr_i64 ((q : Int) - 3) (by constructor <;> omega), h88, h29, c1, c3, c4, z0])
    refine ⟨⟨hs, by omega⟩, ?_⟩
    exact Into.keep0A
  have hu : IntKind.u32.wrap ((q : Int) - 3) = (q : Int) - 3 := IntWalk.u32_in _ (by constructor <;> omega)
  by_cases c5 : wordF s 1 = (q : Int) - 3
  case neg =>
    have hf : progR s = false := hff fun h => c5 (by rw [h.2.2.2.2]; omega)
    rw [prgT, hf]
    (intro X hP hΓ hL hfin; refine ⟨_, rfl, ?_⟩; rw [show Tryz.f87.ntmps = 53 from rfl]; rw [show Tryz.f87.results.toList = [.tmp 2] from rfl] at hfin; apply holds_of_ex X 400; simp (maxSteps := 1000000) only [push_cast, reduceCtorEq, Nat.reduceAdd, Nat.reduceMul, Nat.reduceSub, Nat.reduceBEq, Nat.reduceGT, Nat.reduceLT, Int.toNat_zero, Nat.reduceLeDiff, Int.reduceEq, Int.reduceLT, Int.reduceLE, hP, hΓ, hL, hfin, String.reduceEq, not_false_eq_true, if_true, e1, e2, wr_i64 ((q : Int)) (by constructor <;> omega), wr_i64 ((q : Int) - 3) (by constructor <;> omega), h88, h29, c1, c3, c4, c5, hu, z0, show Int.toNat 1 = 1 from rfl])
    refine ⟨⟨hs, by omega⟩, ⟨hs, by omega⟩, ?_⟩
    exact Into.keep0A
  have hR : progR s = decide (subF s (q - 3) = 0) := by
    unfold progR
    rw [hq, hr, c4, c5]
    simp only [show (16 ≤ s.length) = True by simp; omega, show (q - 3 ≤ 98304) = True by simp; omega, show ((q : Int) - 3 = ((q - 3 : Nat) : Int)) = True by simp; omega, decide_true, Bool.and_self, Bool.true_and]
  rw [← hae] at hR
  rw [prgT, hR]
  (intro X hP hΓ hL hfin; refine ⟨_, rfl, ?_⟩; rw [show Tryz.f87.ntmps = 53 from rfl]; rw [show Tryz.f87.results.toList = [.tmp 2] from rfl] at hfin; apply holds_of_ex X 400; simp (maxSteps := 1000000) only [push_cast, reduceCtorEq, Nat.reduceAdd, Nat.reduceMul, Nat.reduceSub, Nat.reduceBEq, Nat.reduceGT, Nat.reduceLT, Int.toNat_zero, Nat.reduceLeDiff, Int.reduceEq, Int.reduceLT, Int.reduceLE, hP, hΓ, hL, hfin, String.reduceEq, not_false_eq_true, if_true, e1, e2, wr_i64 ((q : Int)) (by constructor <;> omega), wr_i64 ((q : Int) - 3) (by constructor <;> omega), h88, h29, c1, c3, c4, c5, hu, z0, show Int.toNat 1 = 1 from rfl])
  refine ⟨⟨hs, by omega⟩, ⟨hs, by omega⟩, ?_⟩
  refine Holds.loopM (ι := {k : Nat // k ≤ q - 3}) [false, false, true, true, false, false, false, false, false, false, false, false, false, false, false, false, false, false, false, false, false, false, false, false, false, false, false, false, false, false, false, false, false, false, false, false, false, true, false, false, false, false, false, false, false, false, false, false, false, false, false, false, false] (fun i => [(5, .int .u32 (addF s i.1)), (38, .int .i64 i.1)]) (fun i => [.row [.str s] 1 0]) (fun i => q - 3 - i.1) ⟨0, Nat.zero_le _⟩ ?_ ?_
  · (rw [hL]; simp only [push_cast, Int.natCast_zero, addF_0]; exact Into.sameA)
  rintro ⟨k, hk⟩
  ((first | with_reducible refine holds_of_ex X 400 _ _ _ ?_ | skip); simp (maxSteps := 1000000) only [push_cast, reduceCtorEq, Nat.reduceAdd, Nat.reduceMul, Nat.reduceSub, Nat.reduceBEq, Nat.reduceGT, Nat.reduceLT, Int.toNat_zero, Nat.reduceLeDiff, Int.reduceEq, Int.reduceLT, Int.reduceLE, hP, hΓ, hL, hfin, String.reduceEq, not_false_eq_true, if_true])
  ((with_reducible refine exB_split (fun h => ?_) (fun h => ?_)) <;> (try simp only [decide_eq_true_eq, decide_eq_false_iff_not, Bool.and_eq_true, Bool.or_eq_true, Bool.and_eq_false_iff, Bool.or_eq_false_iff, Bool.not_eq_true', Bool.not_eq_false', Bool.not_eq_true, Bool.not_eq_false, Int.not_lt, Int.not_le, beq_iff_eq, beq_eq_false_iff_ne, ne_eq] at h))
  · have hk' : k < q - 3 := by omega
    ((first | with_reducible refine holds_of_ex X 400 _ _ _ ?_ | skip); simp (maxSteps := 1000000) only [push_cast, reduceCtorEq, Nat.reduceAdd, Nat.reduceMul, Nat.reduceSub, Nat.reduceBEq, Nat.reduceGT, Nat.reduceLT, Int.toNat_zero, Nat.reduceLeDiff, Int.reduceEq, Int.reduceLT, Int.reduceLE, hP, hΓ, hL, hfin, String.reduceEq, not_false_eq_true, if_true, h88, wr_i64 ((3 : Int) + k) (by constructor <;> omega), wr_i64 ((k : Int) + 1) (by constructor <;> omega), show (3 + (k : Int)).toNat = 3 + k by omega])
    refine ⟨⟨hs, by omega, by omega⟩, ⟨k + 1, hk'⟩, by simp only; omega, ?_⟩
    rw [show IntKind.u32.wrap (addF s k + wordF s (3 + k)) = addF s (k + 1) from rfl]
    exact Into.sameA
  · obtain rfl : k = q - 3 := by omega
    by_cases c6 : addF s (q - 3) = wordF s 2
    · ((first | with_reducible refine holds_of_ex X 400 _ _ _ ?_ | skip); simp (maxSteps := 1000000) only [push_cast, reduceCtorEq, Nat.reduceAdd, Nat.reduceMul, Nat.reduceSub, Nat.reduceBEq, Nat.reduceGT, Nat.reduceLT, Int.toNat_zero, Nat.reduceLeDiff, Int.reduceEq, Int.reduceLT, Int.reduceLE, hP, hΓ, hL, hfin, String.reduceEq, not_false_eq_true, if_true, h88, h29, c6, show Int.toNat 2 = 2 from rfl])
      refine ⟨⟨hs, by omega⟩, ?_⟩
      exact Into.keep0A
    · ((first | with_reducible refine holds_of_ex X 400 _ _ _ ?_ | skip); simp (maxSteps := 1000000) only [push_cast, reduceCtorEq, Nat.reduceAdd, Nat.reduceMul, Nat.reduceSub, Nat.reduceBEq, Nat.reduceGT, Nat.reduceLT, Int.toNat_zero, Nat.reduceLeDiff, Int.reduceEq, Int.reduceLT, Int.reduceLE, hP, hΓ, hL, hfin, String.reduceEq, not_false_eq_true, if_true, h88, h29, c6, show Int.toNat 2 = 2 from rfl])
      refine ⟨⟨hs, by omega⟩, ?_⟩
      exact Into.keep0A
theorem con87 {Γ : Env} (h : EnvOk Tryz.prog Γ) (h29 : Γ 29 = some S29) (h88 : Γ 88 = some S88) : Con Tryz.prog 87 S87 :=
  funS_con h (fn := Tryz.f87) (by kernel_rfl) rfl (by kernel_rfl) inj87 (by first | (intro h; cases h; done) | exact fun _ _ => rfl) fun s h => body87 Γ h29 h88 s h
end Go.Proofs.YtenopfmafecffaaGreatDoor.modelDone
