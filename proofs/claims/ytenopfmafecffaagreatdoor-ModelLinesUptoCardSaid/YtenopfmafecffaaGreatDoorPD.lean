/- Of the model of a workstation: the document's dir, programs. Conditions stand in each. Of the model of a workstation: programs. Conditions stand in each. -/
import Derived.Test.YtenopfmafecffaaGreatDoorMoS
section
namespace Go.Proofs.YtenopfmafecffaaGreatDoor.modelDone
open Go Go.Eng Go.Proofs Go.Mdl Go.RowKit
set_option linter.unusedVariables false
set_option linter.unusedSimpArgs false
set_option maxRecDepth 100000
set_option maxHeartbeats 4000000
def rowT (x : Bytes × Bytes) : Bytes := x.1 ++ [32] ++ dec x.2.length ++ [10]
def dirF (A : Fs) : Bytes := A.flatMap rowT
theorem dirF_nil : dirF [] = [] := rfl
theorem dir_len {A : Fs} (h : small A) : (dirF A).length ≤ 112 * A.length := by
  induction A with
  | nil => exact Nat.zero_le _
  | cons x A ih =>
    have := ih fun y hy => h y (by simp [hy])
    have h1 := h x (by simp)
    have h2 : (dec x.2.length).length ≤ 10 := by rw [dec, Int.toNat_natCast]; exact dec_len _ (by omega)
    have e : dirF (x :: A) = rowT x ++ dirF A := rfl
    rw [e, List.length_append, rowT]
    simp only [List.length_append, List.length_cons, List.length_nil] at *
    omega
theorem scp_b (n : Nat) (b : UInt8) : scp n (byteAV b) = true := rfl
attribute [push_cast] dirF_nil scp_b
def e33 : (Fs) × (Int) → List AV × Heap := fun (A, S) => ([.ref 0 0 0], [.row [.sl (A.flatMap fc) A.length, .int .i64 S] 2 0])
def p33 : (Fs) × (Int) → Prop := fun (A, S) => okF A
def r33 : (Fs) × (Int) → AV := fun (A, S) => .str (dirF A)
def g33 : (Fs) × (Int) → Heap := fun (A, S) => [.row [.sl (A.flatMap fc) A.length, .int .i64 S] 2 0]
theorem inj33 : ∀ a b, e33 a = e33 b → a = b := by
  rintro ⟨A, S⟩ ⟨A', S'⟩ h
  simp only [e33, mi_iff, ms_iff, mb_iff, my_iff, UInt8.toNat_inj, fc_iff, Prod.mk.injEq, List.cons.injEq, AObj.row.injEq, AV.int.injEq, AV.str.injEq, AV.bool.injEq, AV.sl.injEq, AV.agg.injEq, AV.ip.injEq, AV.fn.injEq, AV.ifc.injEq, AV.mpr.injEq, AV.msl.injEq, AV.ref.injEq, Int.natCast_inj, and_true, true_and] at h
  simp_all only
noncomputable def S33 : FSpec := heapE false e33 p33 r33 g33
theorem ps33 (A : (Fs)) (S : (Int)) : pselK e33 p33 ([.ref 0 0 0], [.row [.sl (A.flatMap fc) A.length, .int .i64 S] 2 0]) = (okF A) := pselK_at inj33 p33 (A, S)
theorem rs33 (A : (Fs)) (S : (Int)) : rselK e33 r33 .any ([.ref 0 0 0], [.row [.sl (A.flatMap fc) A.length, .int .i64 S] 2 0]) = (.str (dirF A)) := rselK_at inj33 r33 .any (A, S)
theorem hs33 (A : (Fs)) (S : (Int)) : rselK e33 g33 [] ([.ref 0 0 0], [.row [.sl (A.flatMap fc) A.length, .int .i64 S] 2 0]) = ([.row [.sl (A.flatMap fc) A.length, .int .i64 S] 2 0]) := rselK_at inj33 g33 [] (A, S)
attribute [push_cast] S33 ps33 rs33 hs33
theorem body33 (Γ : Env) (h34 : Γ 34 = some S34) (A : Fs) (S : Int) (hA : okF A) : BodyOk Tryz.prog Γ Tryz.f33 [.ref 0 0 0] [.row [.sl (A.flatMap fc) A.length, .int .i64 S] 2 0] (.str (dirF A)) [.row [.sl (A.flatMap fc) A.length, .int .i64 S] 2 0] := by
  have hl := hA.le
  (intro X hP hΓ hL hfin; refine ⟨_, rfl, ?_⟩; rw [show Tryz.f33.ntmps = 39 from rfl]; rw [show Tryz.f33.results.toList = [.tmp 2] from rfl] at hfin; apply holds_of_ex X 400; simp (maxSteps := 1000000) only [push_cast, reduceCtorEq, Nat.reduceAdd, Nat.reduceMul, Nat.reduceSub, Nat.reduceBEq, Nat.reduceGT, Nat.reduceLT, Int.toNat_zero, Nat.reduceLeDiff, Int.reduceEq, Int.reduceLT, Int.reduceLE, hP, hΓ, hL, hfin, String.reduceEq, not_false_eq_true, if_true, fz0, fz1, bytesLess_eq])
  refine Holds.loopM (ι := {k : Nat // k ≤ A.length}) [true, false, true, false, false, false, false, false, false, false, false, false, false, false, false, false, false, false, false, false, false, false, false, false, false, false, false, false, false, false, false, false, false, false, false, false, false, false, false] (fun i => [(3, .msl 1 i.1 0 (dirF (A.take i.1)).length), (4, .int .i64 i.1)]) (fun i => [.row [.sl (A.flatMap fc) A.length, .int .i64 S] 2 0, .row ((dirF (A.take i.1)).map byteAV) 1 i.1]) (fun i => A.length - i.1) ⟨0, Nat.zero_le _⟩ ?_ ?_
  · rw [hL]; simp only [push_cast, Int.natCast_zero]
    (refine IntoF.nil 3  1 rfl ?_; simp only [push_cast, reduceCtorEq, Nat.reduceAdd, Nat.reduceMul, Nat.reduceSub, Nat.reduceBEq, Nat.reduceGT, Nat.reduceLT, Int.toNat_zero, Nat.reduceLeDiff, Int.reduceEq, Int.reduceLT, Int.reduceLE])
    exact Into.sameA
  rintro ⟨k, hk⟩
  have hdl := dir_len (small_take hA.sm k)
  have hcl : (A.take k).length ≤ 200 := by rw [List.length_take]; omega
  ((first | with_reducible refine holds_of_ex X 400 _ _ _ ?_ | skip); simp (maxSteps := 1000000) only [push_cast, reduceCtorEq, Nat.reduceAdd, Nat.reduceMul, Nat.reduceSub, Nat.reduceBEq, Nat.reduceGT, Nat.reduceLT, Int.toNat_zero, Nat.reduceLeDiff, Int.reduceEq, Int.reduceLT, Int.reduceLE, hP, hΓ, hL, hfin, String.reduceEq, not_false_eq_true, if_true, fz0, fz1, bytesLess_eq])
  ((with_reducible refine exB_split (fun h => ?_) (fun h => ?_)) <;> (try simp only [decide_eq_true_eq, decide_eq_false_iff_not, Bool.and_eq_true, Bool.or_eq_true, Bool.and_eq_false_iff, Bool.or_eq_false_iff, Bool.not_eq_true', Bool.not_eq_false', Bool.not_eq_true, Bool.not_eq_false, Int.not_lt, Int.not_le, beq_iff_eq, beq_eq_false_iff_ne, ne_eq] at h))
  · have hk' : k < A.length := by omega
    have hm := hA.sm _ (get_mem hk')
    have hn := take_get hk'
    have hl' : (k : Int) < (A.length : Int) := by omega
    have hl2 : 0 < A.length * 2 - k * 2 := by omega
    have hl3 : 1 < A.length * 2 - k * 2 := by omega
    have hl4 : 0 < A.length * 2 - k * 2 - 1 := by omega
    have hdd : (dec (A.getD k default).2.length).length ≤ 10 := by rw [dec, Int.toNat_natCast]; exact dec_len _ (by omega)
    generalize hx : A.getD k default = x at *
    ((first | with_reducible refine holds_of_ex X 400 _ _ _ ?_ | skip); simp (maxSteps := 1000000) only [push_cast, reduceCtorEq, Nat.reduceAdd, Nat.reduceMul, Nat.reduceSub, Nat.reduceBEq, Nat.reduceGT, Nat.reduceLT, Int.toNat_zero, Nat.reduceLeDiff, Int.reduceEq, Int.reduceLT, Int.reduceLE, hP, hΓ, hL, hfin, String.reduceEq, not_false_eq_true, if_true, fz0, fz1, bytesLess_eq])
    (refine Holds.drawn (extH [.row [.sl (A.flatMap fc) A.length, .int .i64 S] 2 0]) [19, 22] (by rw [hP]; kernel_rfl) (by kernel_rfl) (by kernel_rfl) (by first | exact ⟨_, [], rfl⟩ | exact ⟨_, _, rfl⟩ | (simp only [push_cast]; done) | exact ⟨[], by simp⟩) ?_; simp (maxSteps := 1000000) only [↓reduceIte, Option.getD_some, push_cast, reduceCtorEq, Nat.reduceAdd, Nat.reduceMul, Nat.reduceSub, Nat.reduceBEq, Nat.reduceGT, Nat.reduceLT, Int.toNat_zero, Nat.reduceLeDiff, Int.reduceEq, Int.reduceLT, Int.reduceLE, hP, hΓ, hL, hfin, String.reduceEq, not_false_eq_true, if_true, fz0, fz1, bytesLess_eq, h34, hl', hl2, hl3, hl4, hx])
    refine ⟨by omega, by omega, by omega, by omega, by omega, ?_⟩
    ((first | with_reducible refine holds_of_ex X 400 _ _ _ ?_ | skip); simp (maxSteps := 1000000) only [push_cast, reduceCtorEq, Nat.reduceAdd, Nat.reduceMul, Nat.reduceSub, Nat.reduceBEq, Nat.reduceGT, Nat.reduceLT, Int.toNat_zero, Nat.reduceLeDiff, Int.reduceEq, Int.reduceLT, Int.reduceLE, hP, hΓ, hL, hfin, String.reduceEq, not_false_eq_true, if_true, fz0, fz1, bytesLess_eq, wr_i64 ((k : Int) + 1) (by constructor <;> omega)])
    refine ⟨⟨k + 1, hk'⟩, by simp only; omega, ?_⟩
    have hd : dirF (A.take (k + 1)) = dirF (A.take k) ++ (x.1 ++ [32] ++ dec x.2.length ++ [10]) := by rw [hn, dirF, List.flatMap_append]; simp [dirF, rowT]
    simp only [hd, List.map_append, List.length_append, List.length_cons, List.length_nil]
    exact Into.sameA
  · ((first | with_reducible refine holds_of_ex X 400 _ _ _ ?_ | skip); simp (maxSteps := 1000000) only [push_cast, reduceCtorEq, Nat.reduceAdd, Nat.reduceMul, Nat.reduceSub, Nat.reduceBEq, Nat.reduceGT, Nat.reduceLT, Int.toNat_zero, Nat.reduceLeDiff, Int.reduceEq, Int.reduceLT, Int.reduceLE, hP, hΓ, hL, hfin, String.reduceEq, not_false_eq_true, if_true, fz0, fz1, bytesLess_eq])
    obtain rfl : k = A.length := by omega
    rw [List.take_length, show List.take (dirF A).length ((dirF A).map byteAV) = (dirF A).map byteAV from List.take_of_length_le (by simp)]
    refine ⟨allBytes_map _, ?_⟩
    rw [unbytes_map]
    exact Into.keep1A
theorem con33 {Γ : Env} (h : EnvOk Tryz.prog Γ) (h34 : Γ 34 = some S34) : Con Tryz.prog 33 S33 :=
  heapE_con h (fn := Tryz.f33) (by kernel_rfl) rfl (by kernel_rfl) inj33 fun ⟨A, S⟩ h => body33 Γ h34 A S h
end Go.Proofs.YtenopfmafecffaaGreatDoor.modelDone
end
section
namespace Go.Proofs.YtenopfmafecffaaGreatDoor.modelDone
open Go Go.Eng Go.Proofs Go.Mdl Go.RowKit
set_option linter.unusedVariables false
set_option linter.unusedSimpArgs false
set_option maxRecDepth 100000
set_option maxHeartbeats 4000000
def wordF (s : Bytes) (i : Nat) : Int :=
  ibits BinOp.or IntKind.u32 (ibits BinOp.or IntKind.u32 (ibits BinOp.or IntKind.u32 (IntKind.u32.wrap ((s.getD (4 * i) 0).toNat : Int))
    (IntKind.u32.wrap (IntKind.u32.wrap ((s.getD (4 * i + 1) 0).toNat : Int) * 2 ^ min (Int.toNat 8) IntKind.u32.bits)))
    (IntKind.u32.wrap (IntKind.u32.wrap ((s.getD (4 * i + 2) 0).toNat : Int) * 2 ^ min (Int.toNat 16) IntKind.u32.bits)))
    (IntKind.u32.wrap (IntKind.u32.wrap ((s.getD (4 * i + 3) 0).toNat : Int) * 2 ^ min (Int.toNat 24) IntKind.u32.bits))
def e70 : (Bytes) × (Int) → List AV := fun (s, i) => [.str s, .int .i64 i]
def p70 : (Bytes) × (Int) → Prop := fun (s, i) => s.length ≤ 1000000 ∧ 0 ≤ i ∧ 4 * i + 3 < s.length
def r70 : (Bytes) × (Int) → AV := fun (s, i) => .int .u32 (wordF s i.toNat)
def g70 : (Bytes) × (Int) → Heap := fun (s, i) => []
theorem inj70 : ∀ a b, e70 a = e70 b → a = b := by
  rintro ⟨s, i⟩ ⟨s', i'⟩ h
  simp only [e70, mi_iff, ms_iff, mb_iff, my_iff, UInt8.toNat_inj, List.cons.injEq, AV.int.injEq, AV.str.injEq, AV.bool.injEq, AV.sl.injEq, AV.agg.injEq, AV.ip.injEq, AV.fn.injEq, AV.ifc.injEq, AV.mpr.injEq, Int.natCast_inj, and_true, true_and] at h
  simp_all only
noncomputable def S70 : FSpec := funS e70 p70 r70 g70 true
theorem ps70 (s : (Bytes)) (i : (Int)) : psel e70 p70 [.str s, .int .i64 i] = (s.length ≤ 1000000 ∧ 0 ≤ i ∧ 4 * i + 3 < s.length) := psel_at inj70 p70 (s, i)
theorem rs70 (s : (Bytes)) (i : (Int)) : rsel e70 r70 .any [.str s, .int .i64 i] = (.int .u32 (wordF s i.toNat)) := rsel_at inj70 r70 .any (s, i)
theorem hs70 (s : (Bytes)) (i : (Int)) : rsel e70 g70 [] [.str s, .int .i64 i] = ([]) := rsel_at inj70 g70 [] (s, i)
attribute [push_cast] S70 ps70 rs70 hs70
theorem body70 (Γ : Env) (s : Bytes) (i : Nat) (hs : s.length ≤ 1000000) (hi : 4 * i + 3 < s.length) : BodyOk Tryz.prog Γ Tryz.f70 [.str s, .int .i64 i] [] (.int .u32 (wordF s i)) [] := by
  have w0 : IntKind.i64.wrap (4 * (i : Int)) = ((4 * i : Nat) : Int) := by rw [wr_i64 _ (by constructor <;> omega)]; omega
  have w1 : IntKind.i64.wrap (((4 * i : Nat) : Int) + 1) = ((4 * i + 1 : Nat) : Int) := by rw [wr_i64 _ (by constructor <;> omega)]; omega
  have w2 : IntKind.i64.wrap (((4 * i : Nat) : Int) + 2) = ((4 * i + 2 : Nat) : Int) := by rw [wr_i64 _ (by constructor <;> omega)]; omega
  have w3 : IntKind.i64.wrap (((4 * i : Nat) : Int) + 3) = ((4 * i + 3 : Nat) : Int) := by rw [wr_i64 _ (by constructor <;> omega)]; omega
  generalize h0 : 4 * i = a0 at *
  (intro X hP hΓ hL hfin; refine ⟨_, rfl, ?_⟩; rw [show Tryz.f70.ntmps = 34 from rfl]; rw [show Tryz.f70.results.toList = [.tmp 4] from rfl] at hfin; apply holds_of_ex X 400; simp (maxSteps := 1000000) only [push_cast, reduceCtorEq, Nat.reduceAdd, Nat.reduceMul, Nat.reduceSub, Nat.reduceBEq, Nat.reduceGT, Nat.reduceLT, Int.toNat_zero, Nat.reduceLeDiff, Int.reduceEq, Int.reduceLT, Int.reduceLE, hP, hΓ, hL, hfin, String.reduceEq, not_false_eq_true, if_true])
  (refine Holds.drawnQ (by rw [hP]; kernel_rfl) (by kernel_rfl) ?_; simp (maxSteps := 1000000) only [push_cast, reduceCtorEq, Nat.reduceAdd, Nat.reduceMul, Nat.reduceSub, Nat.reduceBEq, Nat.reduceGT, Nat.reduceLT, Int.toNat_zero, Nat.reduceLeDiff, Int.reduceEq, Int.reduceLT, Int.reduceLE, hP, hΓ, hL, hfin, String.reduceEq, not_false_eq_true, if_true, w0, w1, w2, w3])
  refine ⟨by omega, ⟨by omega, by omega⟩, ⟨by omega, by omega⟩, ⟨by omega, by omega⟩, ?_⟩
  rw [show ((a0 : Int) + 1 + 1 + 1).toNat = a0 + 3 by omega, show ((a0 : Int) + 1 + 1).toNat = a0 + 2 by omega, wordF, h0]
  exact Into.sameA
theorem body70' (Γ : Env) (s : Bytes) (i : Int) (hs : s.length ≤ 1000000) (h0 : 0 ≤ i) (hi : 4 * i + 3 < s.length) : BodyOk Tryz.prog Γ Tryz.f70 [.str s, .int .i64 i] [] (.int .u32 (wordF s i.toNat)) [] := by
  have := body70 Γ s i.toNat hs (by omega)
  rwa [Int.toNat_of_nonneg h0] at this
theorem con70 {Γ : Env} (h : EnvOk Tryz.prog Γ)  : Con Tryz.prog 70 S70 :=
  funS_con h (fn := Tryz.f70) (by kernel_rfl) rfl (by kernel_rfl) inj70 (by first | (intro h; cases h; done) | exact fun _ _ => rfl) fun ⟨s, i⟩ h => body70' Γ s i h.1 h.2.1 h.2.2
/-- the sum that is left -/
def subF (s : Bytes) : Nat → Int
  | 0 => wordF s 2
  | k + 1 => IntKind.u32.wrap (subF s k - wordF s (3 + k))
theorem subF_0 (s : Bytes) : subF s 0 = wordF s 2 := rfl
attribute [push_cast] subF_0
def progR (s : Bytes) : Bool := decide (16 ≤ s.length) && decide (s.length % 4 = 0) && decide (s.length / 4 - 3 ≤ 98304) && decide (wordF s 0 = 827347523) && decide (wordF s 1 = ((s.length / 4 - 3 : Nat) : Int)) && decide (subF s (s.length / 4 - 3) = 0)
theorem progR_f {s : Bytes} (h : ¬ (16 ≤ s.length ∧ s.length % 4 = 0 ∧ s.length / 4 - 3 ≤ 98304 ∧ wordF s 0 = 827347523 ∧ wordF s 1 = ((s.length / 4 - 3 : Nat) : Int))) : progR s = false := by
  cases hp : progR s with
  | false => rfl
  | true =>
    exfalso; apply h
    unfold progR at hp
    simp only [Bool.and_eq_true, decide_eq_true_eq] at hp
    exact ⟨hp.1.1.1.1.1, hp.1.1.1.1.2, hp.1.1.1.2, hp.1.1.2, hp.1.2⟩
def e40 : (Bytes) → List AV := fun s => [.str s]
def p40 : (Bytes) → Prop := fun s => s.length ≤ 1000000
def r40 : (Bytes) → AV := fun s => .bool (progR s)
def g40 : (Bytes) → Heap := fun s => []
theorem inj40 : ∀ a b, e40 a = e40 b → a = b := by
  rintro s s' h
  simp only [e40, mi_iff, ms_iff, mb_iff, my_iff, UInt8.toNat_inj, List.cons.injEq, AV.int.injEq, AV.str.injEq, AV.bool.injEq, AV.sl.injEq, AV.agg.injEq, AV.ip.injEq, AV.fn.injEq, AV.ifc.injEq, AV.mpr.injEq, Int.natCast_inj, and_true, true_and] at h
  simp_all only
noncomputable def S40 : FSpec := funS e40 p40 r40 g40 true
theorem ps40 (s : (Bytes)) : psel e40 p40 [.str s] = (s.length ≤ 1000000) := psel_at inj40 p40 s
theorem rs40 (s : (Bytes)) : rsel e40 r40 .any [.str s] = (.bool (progR s)) := rsel_at inj40 r40 .any s
theorem hs40 (s : (Bytes)) : rsel e40 g40 [] [.str s] = ([]) := rsel_at inj40 g40 [] s
attribute [push_cast] S40 ps40 rs40 hs40
theorem body40 (Γ : Env) (h70 : Γ 70 = some S70) (s : Bytes) (hs : s.length ≤ 1000000) : BodyOk Tryz.prog Γ Tryz.f40 [.str s] [] (.bool (progR s)) [] := by
  have e1 : (s.length : Int).tdiv 4 = ((s.length / 4 : Nat) : Int) := by rw [Int.tdiv_eq_ediv_of_nonneg (by omega)]; omega
  have e2 : (s.length : Int).tmod 4 = ((s.length % 4 : Nat) : Int) := by rw [Int.tmod_eq_emod_of_nonneg (by omega)]; omega
  have hff := @progR_f s
  generalize hq : s.length / 4 = q at *
  generalize hr : s.length % 4 = r at *
  by_cases c1 : s.length < 16
  · have hf : progR s = false := hff fun h => by omega
    rw [hf]
    have c1' : (s.length : Int) < 16 := by omega
    (intro X hP hΓ hL hfin; refine ⟨_, rfl, ?_⟩; rw [show Tryz.f40.ntmps = 50 from rfl]; rw [show Tryz.f40.results.toList = [.tmp 2] from rfl] at hfin; apply holds_of_ex X 400; simp (maxSteps := 1000000) only [push_cast, reduceCtorEq, Nat.reduceAdd, Nat.reduceMul, Nat.reduceSub, Nat.reduceBEq, Nat.reduceGT, Nat.reduceLT, Int.toNat_zero, Nat.reduceLeDiff, Int.reduceEq, Int.reduceLT, Int.reduceLE, hP, hΓ, hL, hfin, String.reduceEq, not_false_eq_true, if_true, e1, e2, wr_i64 ((q : Int)) (by constructor <;> omega), wr_i64 ((q : Int) - 3) (by constructor <;> omega), h70, c1'])
    exact Into.sameA
  have c1' : ¬ (s.length : Int) < 16 := by omega
  by_cases c2 : r = 0
  case neg =>
    have hf : progR s = false := hff fun h => c2 h.2.1
    have c2' : ¬ (r : Int) = 0 := by omega
    rw [hf]
    (intro X hP hΓ hL hfin; refine ⟨_, rfl, ?_⟩; rw [show Tryz.f40.ntmps = 50 from rfl]; rw [show Tryz.f40.results.toList = [.tmp 2] from rfl] at hfin; apply holds_of_ex X 400; simp (maxSteps := 1000000) only [push_cast, reduceCtorEq, Nat.reduceAdd, Nat.reduceMul, Nat.reduceSub, Nat.reduceBEq, Nat.reduceGT, Nat.reduceLT, Int.toNat_zero, Nat.reduceLeDiff, Int.reduceEq, Int.reduceLT, Int.reduceLE, hP, hΓ, hL, hfin, String.reduceEq, not_false_eq_true, if_true, e1, e2, wr_i64 ((q : Int)) (by constructor <;> omega), wr_i64 ((q : Int) - 3) (by constructor <;> omega), h70, c1', c2'])
    exact Into.sameA
  subst c2
  by_cases c3 : (98304 : Int) < (q : Int) - 3
  · have hf : progR s = false := hff fun h => by omega
    rw [hf]
    (intro X hP hΓ hL hfin; refine ⟨_, rfl, ?_⟩; rw [show Tryz.f40.ntmps = 50 from rfl]; rw [show Tryz.f40.results.toList = [.tmp 2] from rfl] at hfin; apply holds_of_ex X 400; simp (maxSteps := 1000000) only [push_cast, reduceCtorEq, Nat.reduceAdd, Nat.reduceMul, Nat.reduceSub, Nat.reduceBEq, Nat.reduceGT, Nat.reduceLT, Int.toNat_zero, Nat.reduceLeDiff, Int.reduceEq, Int.reduceLT, Int.reduceLE, hP, hΓ, hL, hfin, String.reduceEq, not_false_eq_true, if_true, e1, e2, wr_i64 ((q : Int)) (by constructor <;> omega), wr_i64 ((q : Int) - 3) (by constructor <;> omega), h70, c1', c3])
    exact Into.sameA
  have hc : 0 < s.length ∧ 11 < s.length ∧ 7 < s.length ∧ 3 < s.length := by omega
  by_cases c4 : wordF s 0 = 827347523
  case neg =>
    have hf : progR s = false := hff fun h => c4 h.2.2.2.1
    rw [hf]
    (intro X hP hΓ hL hfin; refine ⟨_, rfl, ?_⟩; rw [show Tryz.f40.ntmps = 50 from rfl]; rw [show Tryz.f40.results.toList = [.tmp 2] from rfl] at hfin; apply holds_of_ex X 400; simp (maxSteps := 1000000) only [push_cast, reduceCtorEq, Nat.reduceAdd, Nat.reduceMul, Nat.reduceSub, Nat.reduceBEq, Nat.reduceGT, Nat.reduceLT, Int.toNat_zero, Nat.reduceLeDiff, Int.reduceEq, Int.reduceLT, Int.reduceLE, hP, hΓ, hL, hfin, String.reduceEq, not_false_eq_true, if_true, e1, e2, wr_i64 ((q : Int)) (by constructor <;> omega), wr_i64 ((q : Int) - 3) (by constructor <;> omega), h70, c1', c3, c4])
    refine ⟨⟨hs, by omega⟩, ?_⟩
    exact Into.sameA
  have hu : IntKind.u32.wrap ((q : Int) - 3) = (q : Int) - 3 := IntWalk.u32_in _ (by constructor <;> omega)
  have c3' : ¬ (98304 : Int) < (q : Int) - 3 := c3
  by_cases c5 : wordF s 1 = (q : Int) - 3
  case neg =>
    have hf : progR s = false := hff fun h => c5 (by rw [h.2.2.2.2]; omega)
    rw [hf]
    (intro X hP hΓ hL hfin; refine ⟨_, rfl, ?_⟩; rw [show Tryz.f40.ntmps = 50 from rfl]; rw [show Tryz.f40.results.toList = [.tmp 2] from rfl] at hfin; apply holds_of_ex X 400; simp (maxSteps := 1000000) only [push_cast, reduceCtorEq, Nat.reduceAdd, Nat.reduceMul, Nat.reduceSub, Nat.reduceBEq, Nat.reduceGT, Nat.reduceLT, Int.toNat_zero, Nat.reduceLeDiff, Int.reduceEq, Int.reduceLT, Int.reduceLE, hP, hΓ, hL, hfin, String.reduceEq, not_false_eq_true, if_true, e1, e2, wr_i64 ((q : Int)) (by constructor <;> omega), wr_i64 ((q : Int) - 3) (by constructor <;> omega), h70, c1', c3', c4, c5, hu, show Int.toNat 1 = 1 from rfl])
    refine ⟨⟨hs, by omega⟩, ⟨hs, by omega⟩, ?_⟩
    exact Into.sameA
  have hR : progR s = decide (subF s (q - 3) = 0) := by
    unfold progR
    rw [hq, hr, c4, c5]
    simp only [show (16 ≤ s.length) = True by simp; omega, show (q - 3 ≤ 98304) = True by simp; omega, show ((q : Int) - 3 = ((q - 3 : Nat) : Int)) = True by simp; omega, decide_true, Bool.and_self, Bool.true_and]
  rw [hR]
  (intro X hP hΓ hL hfin; refine ⟨_, rfl, ?_⟩; rw [show Tryz.f40.ntmps = 50 from rfl]; rw [show Tryz.f40.results.toList = [.tmp 2] from rfl] at hfin; apply holds_of_ex X 400; simp (maxSteps := 1000000) only [push_cast, reduceCtorEq, Nat.reduceAdd, Nat.reduceMul, Nat.reduceSub, Nat.reduceBEq, Nat.reduceGT, Nat.reduceLT, Int.toNat_zero, Nat.reduceLeDiff, Int.reduceEq, Int.reduceLT, Int.reduceLE, hP, hΓ, hL, hfin, String.reduceEq, not_false_eq_true, if_true, e1, e2, wr_i64 ((q : Int)) (by constructor <;> omega), wr_i64 ((q : Int) - 3) (by constructor <;> omega), h70, c1', c3', c4, c5, hu, show Int.toNat 1 = 1 from rfl])
  refine ⟨⟨hs, by omega⟩, ⟨hs, by omega⟩, ⟨hs, by omega⟩, ?_⟩
  refine Holds.loopM (ι := {k : Nat // k ≤ q - 3}) [true, false, true, true, false, false, false, false, false, false, false, false, false, false, false, false, false, false, false, false, false, false, false, false, false, false, false, false, false, false, false, false, false, false, false, false, false, false, false, false, false, false, false, false, false, false, false, false, false, false] (fun i => [(4, .int .u32 (subF s i.1)), (5, .int .i64 i.1)]) (fun i => []) (fun i => q - 3 - i.1) ⟨0, Nat.zero_le _⟩ ?_ ?_
  · (rw [hL]; simp only [push_cast, Int.natCast_zero]; exact Into.sameA)
  rintro ⟨k, hk⟩
  ((first | with_reducible refine holds_of_ex X 400 _ _ _ ?_ | skip); simp (maxSteps := 1000000) only [push_cast, reduceCtorEq, Nat.reduceAdd, Nat.reduceMul, Nat.reduceSub, Nat.reduceBEq, Nat.reduceGT, Nat.reduceLT, Int.toNat_zero, Nat.reduceLeDiff, Int.reduceEq, Int.reduceLT, Int.reduceLE, hP, hΓ, hL, hfin, String.reduceEq, not_false_eq_true, if_true])
  ((with_reducible refine exB_split (fun h => ?_) (fun h => ?_)) <;> (try simp only [decide_eq_true_eq, decide_eq_false_iff_not, Bool.and_eq_true, Bool.or_eq_true, Bool.and_eq_false_iff, Bool.or_eq_false_iff, Bool.not_eq_true', Bool.not_eq_false', Bool.not_eq_true, Bool.not_eq_false, Int.not_lt, Int.not_le, beq_iff_eq, beq_eq_false_iff_ne, ne_eq] at h))
  · have hk' : k < q - 3 := by omega
    ((first | with_reducible refine holds_of_ex X 400 _ _ _ ?_ | skip); simp (maxSteps := 1000000) only [push_cast, reduceCtorEq, Nat.reduceAdd, Nat.reduceMul, Nat.reduceSub, Nat.reduceBEq, Nat.reduceGT, Nat.reduceLT, Int.toNat_zero, Nat.reduceLeDiff, Int.reduceEq, Int.reduceLT, Int.reduceLE, hP, hΓ, hL, hfin, String.reduceEq, not_false_eq_true, if_true, h70, wr_i64 ((3 : Int) + k) (by constructor <;> omega), wr_i64 ((k : Int) + 1) (by constructor <;> omega), show (3 + (k : Int)).toNat = 3 + k by omega])
    refine ⟨⟨hs, by omega, by omega⟩, ⟨k + 1, hk'⟩, by simp only; omega, ?_⟩
    rw [show IntKind.u32.wrap (subF s k - wordF s (3 + k)) = subF s (k + 1) from rfl]
    exact Into.sameA
  · obtain rfl : k = q - 3 := by omega
    ((first | with_reducible refine holds_of_ex X 400 _ _ _ ?_ | skip); simp (maxSteps := 1000000) only [push_cast, reduceCtorEq, Nat.reduceAdd, Nat.reduceMul, Nat.reduceSub, Nat.reduceBEq, Nat.reduceGT, Nat.reduceLT, Int.toNat_zero, Nat.reduceLeDiff, Int.reduceEq, Int.reduceLT, Int.reduceLE, hP, hΓ, hL, hfin, String.reduceEq, not_false_eq_true, if_true])
    exact Into.sameA
theorem con40 {Γ : Env} (h : EnvOk Tryz.prog Γ) (h70 : Γ 70 = some S70) : Con Tryz.prog 40 S40 :=
  funS_con h (fn := Tryz.f40) (by kernel_rfl) rfl (by kernel_rfl) inj40 (by first | (intro h; cases h; done) | exact fun _ _ => rfl) fun s h => body40 Γ h70 s h
end Go.Proofs.YtenopfmafecffaaGreatDoor.modelDone
end
