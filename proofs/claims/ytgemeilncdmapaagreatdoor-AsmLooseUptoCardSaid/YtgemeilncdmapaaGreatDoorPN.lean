/- Of assembly texts: which instruction a word is, by the document. Conditions stand in each. Of assembly texts: small parts of their writing, by the program and by the document. Conditions stand in each. Of assembly texts: words and numbers in digits. Conditions stand in each. Of assembly texts: what is called of the library. Conditions stand in each. -/
import Derived.Test.YtgemeilncdmapaaGreatDoorPM
import Derived.Test.YtgemeilncdmapaaGreatDoorPL
import Derived.Test.YtgemeilncdmapaaGreatDoorAr
import Derived.Test.YtgemeilncdmapaaGreatDoorEE
import Derived.Test.YtgemeilncdmapaaGreatDoorEF
import Derived.Test.YtgemeilncdmapaaGreatDoorIter
import Derived.Lib.LaidTab
import Derived.Shelf.Strings.SlTrimAscii
section
namespace Go.Proofs.YtgemeilncdmapaaGreatDoor.asmDone
open Go Go.Eng Go.Proofs Go.RowKit
open Go.Asm (mayB in16 rightB laid sx In flds rightI laidI decB laid_lo)
set_option linter.unusedVariables false
set_option linter.unusedSimpArgs false
set_option maxRecDepth 100000
set_option maxHeartbeats 4000000
theorem fldp (w a b : Int) {p q : Int} (hp : (2 : Int) ^ a.toNat = p) (hq : (2 : Int) ^ b.toNat = q) : fld w a b = w / p % q := by rw [fld, hp, hq]
def e26 : (Int) → List AV := fun w => [.int .u32 w]
def p26 : (Int) → Prop := fun w => 0 ≤ w ∧ w < 4294967296
def r26 : (Int) → AV := fun w => .tup [agI ((decB w).getD z0), .bool (decB w).isSome]
def g26 : (Int) → Heap := fun w => []
theorem inj26 : ∀ a b, e26 a = e26 b → a = b := by
  rintro w w' h
  simp only [e26, mi_iff, ms_iff, mb_iff, my_iff, UInt8.toNat_inj, List.cons.injEq, AV.int.injEq, AV.str.injEq, AV.bool.injEq, AV.sl.injEq, AV.agg.injEq, AV.ip.injEq, AV.fn.injEq, AV.ifc.injEq, AV.mpr.injEq, Int.natCast_inj, and_true, true_and] at h
  simp_all only
noncomputable def S26 : FSpec := funS e26 p26 r26 g26 true
theorem ps26 (w : (Int)) : psel e26 p26 [.int .u32 w] = (0 ≤ w ∧ w < 4294967296) := psel_at inj26 p26 w
theorem rs26 (w : (Int)) : rsel e26 r26 .any [.int .u32 w] = (.tup [agI ((decB w).getD z0), .bool (decB w).isSome]) := rsel_at inj26 r26 .any w
theorem hs26 (w : (Int)) : rsel e26 g26 [] [.int .u32 w] = ([]) := rsel_at inj26 g26 [] w
attribute [push_cast] S26 ps26 rs26 hs26
theorem body26 (Γ : Env) (h51 : Γ 51 = some S51) (h52 : Γ 52 = some S52) (h53 : Γ 53 = some S53) (h54 : Γ 54 = some S54) (w : Int) (hw : 0 ≤ w ∧ w < 4294967296) : BodyOk Tryz.prog Γ Tryz.f26 [.int .u32 w] [] (.tup [agI ((decB w).getD z0), .bool (decB w).isSome]) [] := by
  have q30 : fld w 30 2 = w / 1073741824 := by rw [fldp w 30 2 (p := 1073741824) (q := 4) (by decide) (by decide)]; omega
  have q29 : fld w 29 1 = w / 536870912 % 2 := fldp w 29 1 (by decide) (by decide)
  have q28 : fld w 28 1 = w / 268435456 % 2 := fldp w 28 1 (by decide) (by decide)
  have q24 : fld w 24 4 = w / 16777216 % 16 := fldp w 24 4 (by decide) (by decide)
  have q20 : fld w 20 4 = w / 1048576 % 16 := fldp w 20 4 (by decide) (by decide)
  have q16 : fld w 16 4 = w / 65536 % 16 := fldp w 16 4 (by decide) (by decide)
  have q0 : fld w 0 4 = w % 16 := by rw [fldp w 0 4 (p := 1) (q := 16) (by decide) (by decide), Int.ediv_one]
  have q1 : fld w 0 16 = w % 65536 := by rw [fldp w 0 16 (p := 1) (q := 65536) (by decide) (by decide), Int.ediv_one]
  have q2 : fld w 0 20 = w % 1048576 := by rw [fldp w 0 20 (p := 1) (q := 1048576) (by decide) (by decide), Int.ediv_one]
  have q3 : fld w 0 24 = w % 16777216 := by rw [fldp w 0 24 (p := 1) (q := 16777216) (by decide) (by decide), Int.ediv_one]
  have m2 : 0 ≤ w % 1048576 ∧ w % 1048576 < 4294967296 := by omega
  have m3 : 0 ≤ w % 16777216 ∧ w % 16777216 < 4294967296 := by omega
  have hF : w / 1073741824 = 0 ∨ w / 1073741824 = 1 ∨ w / 1073741824 = 2 ∨ w / 1073741824 = 3 := by omega
  rcases hF with h | h | h | h
  · cases hr : rightB (0) (decide (w / 536870912 % 2 = 1)) (decide (w / 268435456 % 2 = 1)) (w / 16777216 % 16) (w / 1048576 % 16) (w / 65536 % 16) (w % 16) (0)
    · (intro X hP hΓ hL hfin; refine ⟨_, rfl, ?_⟩; rw [show Tryz.f26.ntmps = 73 from rfl]; rw [show Tryz.f26.results.toList = [.cell 2 42, .tmp 3] from rfl] at hfin; apply holds_of_ex X 400; simp (maxSteps := 1000000) only [push_cast, reduceCtorEq, Nat.reduceAdd, Nat.reduceMul, Nat.reduceSub, Nat.reduceBEq, Nat.reduceGT, Nat.reduceLT, Int.toNat_zero, Nat.reduceLeDiff, Int.reduceEq, Int.reduceLT, Int.reduceLE, hP, hΓ, hL, hfin, String.reduceEq, not_false_eq_true, if_true, if_false, Int.toNat_one, Bool.not_not, h51, h52, h53, h54, q30, q29, q28, q24, q20, q16, q0, q1, q2, q3, m2, m3, h, hw, true_or, or_true, and_self, true_and, hr])
      rw [dec_none (w := w) (by rw [fl0 h]; intro h'; have := h'.1.symm.trans hr; cases this)]
      simp only [Option.getD_none, Option.isSome_none, z0, agI_mk]
      exact Into.keep0A
    by_cases he : laid (0) (decide (w / 536870912 % 2 = 1)) (decide (w / 268435456 % 2 = 1)) (w / 16777216 % 16) (w / 1048576 % 16) (w / 65536 % 16) (w % 16) (0) = w
    · (intro X hP hΓ hL hfin; refine ⟨_, rfl, ?_⟩; rw [show Tryz.f26.ntmps = 73 from rfl]; rw [show Tryz.f26.results.toList = [.cell 2 42, .tmp 3] from rfl] at hfin; apply holds_of_ex X 400; simp (maxSteps := 1000000) only [push_cast, reduceCtorEq, Nat.reduceAdd, Nat.reduceMul, Nat.reduceSub, Nat.reduceBEq, Nat.reduceGT, Nat.reduceLT, Int.toNat_zero, Nat.reduceLeDiff, Int.reduceEq, Int.reduceLT, Int.reduceLE, hP, hΓ, hL, hfin, String.reduceEq, not_false_eq_true, if_true, if_false, Int.toNat_one, Bool.not_not, h51, h52, h53, h54, q30, q29, q28, q24, q20, q16, q0, q1, q2, q3, m2, m3, h, hw, true_or, or_true, and_self, true_and, hr, he])
      rw [dec_some (w := w) (by rw [fl0 h]; exact hr) (by rw [fl0 h]; exact he), fl0 h]
      simp only [Option.getD_some, Option.isSome_some, agI_mk]
      exact Into.keep0A
    · (intro X hP hΓ hL hfin; refine ⟨_, rfl, ?_⟩; rw [show Tryz.f26.ntmps = 73 from rfl]; rw [show Tryz.f26.results.toList = [.cell 2 42, .tmp 3] from rfl] at hfin; apply holds_of_ex X 400; simp (maxSteps := 1000000) only [push_cast, reduceCtorEq, Nat.reduceAdd, Nat.reduceMul, Nat.reduceSub, Nat.reduceBEq, Nat.reduceGT, Nat.reduceLT, Int.toNat_zero, Nat.reduceLeDiff, Int.reduceEq, Int.reduceLT, Int.reduceLE, hP, hΓ, hL, hfin, String.reduceEq, not_false_eq_true, if_true, if_false, Int.toNat_one, Bool.not_not, h51, h52, h53, h54, q30, q29, q28, q24, q20, q16, q0, q1, q2, q3, m2, m3, h, hw, true_or, or_true, and_self, true_and, hr, he])
      rw [dec_none (w := w) (by rw [fl0 h]; intro h'; exact he h'.2)]
      simp only [Option.getD_none, Option.isSome_none, z0, agI_mk]
      exact Into.keep0A
  · cases hr : rightB (1) (decide (w / 536870912 % 2 = 1)) (decide (w / 268435456 % 2 = 1)) (w / 16777216 % 16) (w / 1048576 % 16) (w / 65536 % 16) (0) (w % 65536)
    · (intro X hP hΓ hL hfin; refine ⟨_, rfl, ?_⟩; rw [show Tryz.f26.ntmps = 73 from rfl]; rw [show Tryz.f26.results.toList = [.cell 2 42, .tmp 3] from rfl] at hfin; apply holds_of_ex X 400; simp (maxSteps := 1000000) only [push_cast, reduceCtorEq, Nat.reduceAdd, Nat.reduceMul, Nat.reduceSub, Nat.reduceBEq, Nat.reduceGT, Nat.reduceLT, Int.toNat_zero, Nat.reduceLeDiff, Int.reduceEq, Int.reduceLT, Int.reduceLE, hP, hΓ, hL, hfin, String.reduceEq, not_false_eq_true, if_true, if_false, Int.toNat_one, Bool.not_not, h51, h52, h53, h54, q30, q29, q28, q24, q20, q16, q0, q1, q2, q3, m2, m3, h, hw, true_or, or_true, and_self, true_and, hr])
      rw [dec_none (w := w) (by rw [fl1 h]; intro h'; have := h'.1.symm.trans hr; cases this)]
      simp only [Option.getD_none, Option.isSome_none, z0, agI_mk]
      exact Into.keep0A
    by_cases he : laid (1) (decide (w / 536870912 % 2 = 1)) (decide (w / 268435456 % 2 = 1)) (w / 16777216 % 16) (w / 1048576 % 16) (w / 65536 % 16) (0) (w % 65536) = w
    · (intro X hP hΓ hL hfin; refine ⟨_, rfl, ?_⟩; rw [show Tryz.f26.ntmps = 73 from rfl]; rw [show Tryz.f26.results.toList = [.cell 2 42, .tmp 3] from rfl] at hfin; apply holds_of_ex X 400; simp (maxSteps := 1000000) only [push_cast, reduceCtorEq, Nat.reduceAdd, Nat.reduceMul, Nat.reduceSub, Nat.reduceBEq, Nat.reduceGT, Nat.reduceLT, Int.toNat_zero, Nat.reduceLeDiff, Int.reduceEq, Int.reduceLT, Int.reduceLE, hP, hΓ, hL, hfin, String.reduceEq, not_false_eq_true, if_true, if_false, Int.toNat_one, Bool.not_not, h51, h52, h53, h54, q30, q29, q28, q24, q20, q16, q0, q1, q2, q3, m2, m3, h, hw, true_or, or_true, and_self, true_and, hr, he])
      rw [dec_some (w := w) (by rw [fl1 h]; exact hr) (by rw [fl1 h]; exact he), fl1 h]
      simp only [Option.getD_some, Option.isSome_some, agI_mk]
      exact Into.keep0A
    · (intro X hP hΓ hL hfin; refine ⟨_, rfl, ?_⟩; rw [show Tryz.f26.ntmps = 73 from rfl]; rw [show Tryz.f26.results.toList = [.cell 2 42, .tmp 3] from rfl] at hfin; apply holds_of_ex X 400; simp (maxSteps := 1000000) only [push_cast, reduceCtorEq, Nat.reduceAdd, Nat.reduceMul, Nat.reduceSub, Nat.reduceBEq, Nat.reduceGT, Nat.reduceLT, Int.toNat_zero, Nat.reduceLeDiff, Int.reduceEq, Int.reduceLT, Int.reduceLE, hP, hΓ, hL, hfin, String.reduceEq, not_false_eq_true, if_true, if_false, Int.toNat_one, Bool.not_not, h51, h52, h53, h54, q30, q29, q28, q24, q20, q16, q0, q1, q2, q3, m2, m3, h, hw, true_or, or_true, and_self, true_and, hr, he])
      rw [dec_none (w := w) (by rw [fl1 h]; intro h'; exact he h'.2)]
      simp only [Option.getD_none, Option.isSome_none, z0, agI_mk]
      exact Into.keep0A
  · cases hr : rightB (2) (decide (w / 536870912 % 2 = 1)) (decide (w / 268435456 % 2 = 1)) (w / 16777216 % 16) (w / 1048576 % 16) (0) (0) (sx (w % 1048576) 1048576)
    · (intro X hP hΓ hL hfin; refine ⟨_, rfl, ?_⟩; rw [show Tryz.f26.ntmps = 73 from rfl]; rw [show Tryz.f26.results.toList = [.cell 2 42, .tmp 3] from rfl] at hfin; apply holds_of_ex X 400; simp (maxSteps := 1000000) only [push_cast, reduceCtorEq, Nat.reduceAdd, Nat.reduceMul, Nat.reduceSub, Nat.reduceBEq, Nat.reduceGT, Nat.reduceLT, Int.toNat_zero, Nat.reduceLeDiff, Int.reduceEq, Int.reduceLT, Int.reduceLE, hP, hΓ, hL, hfin, String.reduceEq, not_false_eq_true, if_true, if_false, Int.toNat_one, Bool.not_not, h51, h52, h53, h54, q30, q29, q28, q24, q20, q16, q0, q1, q2, q3, m2, m3, h, hw, true_or, or_true, and_self, true_and, hr])
      rw [dec_none (w := w) (by rw [fl2 h]; intro h'; have := h'.1.symm.trans hr; cases this)]
      simp only [Option.getD_none, Option.isSome_none, z0, agI_mk]
      exact Into.keep0A
    by_cases he : laid (2) (decide (w / 536870912 % 2 = 1)) (decide (w / 268435456 % 2 = 1)) (w / 16777216 % 16) (w / 1048576 % 16) (0) (0) (sx (w % 1048576) 1048576) = w
    · (intro X hP hΓ hL hfin; refine ⟨_, rfl, ?_⟩; rw [show Tryz.f26.ntmps = 73 from rfl]; rw [show Tryz.f26.results.toList = [.cell 2 42, .tmp 3] from rfl] at hfin; apply holds_of_ex X 400; simp (maxSteps := 1000000) only [push_cast, reduceCtorEq, Nat.reduceAdd, Nat.reduceMul, Nat.reduceSub, Nat.reduceBEq, Nat.reduceGT, Nat.reduceLT, Int.toNat_zero, Nat.reduceLeDiff, Int.reduceEq, Int.reduceLT, Int.reduceLE, hP, hΓ, hL, hfin, String.reduceEq, not_false_eq_true, if_true, if_false, Int.toNat_one, Bool.not_not, h51, h52, h53, h54, q30, q29, q28, q24, q20, q16, q0, q1, q2, q3, m2, m3, h, hw, true_or, or_true, and_self, true_and, hr, he])
      rw [dec_some (w := w) (by rw [fl2 h]; exact hr) (by rw [fl2 h]; exact he), fl2 h]
      simp only [Option.getD_some, Option.isSome_some, agI_mk]
      exact Into.keep0A
    · (intro X hP hΓ hL hfin; refine ⟨_, rfl, ?_⟩; rw [show Tryz.f26.ntmps = 73 from rfl]; rw [show Tryz.f26.results.toList = [.cell 2 42, .tmp 3] from rfl] at hfin; apply holds_of_ex X 400; simp (maxSteps := 1000000) only [push_cast, reduceCtorEq, Nat.reduceAdd, Nat.reduceMul, Nat.reduceSub, Nat.reduceBEq, Nat.reduceGT, Nat.reduceLT, Int.toNat_zero, Nat.reduceLeDiff, Int.reduceEq, Int.reduceLT, Int.reduceLE, hP, hΓ, hL, hfin, String.reduceEq, not_false_eq_true, if_true, if_false, Int.toNat_one, Bool.not_not, h51, h52, h53, h54, q30, q29, q28, q24, q20, q16, q0, q1, q2, q3, m2, m3, h, hw, true_or, or_true, and_self, true_and, hr, he])
      rw [dec_none (w := w) (by rw [fl2 h]; intro h'; exact he h'.2)]
      simp only [Option.getD_none, Option.isSome_none, z0, agI_mk]
      exact Into.keep0A
  cases hu : decide (w / 536870912 % 2 = 1)
  · cases hr : rightB (3) (false) (decide (w / 268435456 % 2 = 1)) (w / 16777216 % 16) (0) (0) (w % 16) (0)
    · (intro X hP hΓ hL hfin; refine ⟨_, rfl, ?_⟩; rw [show Tryz.f26.ntmps = 73 from rfl]; rw [show Tryz.f26.results.toList = [.cell 2 42, .tmp 3] from rfl] at hfin; apply holds_of_ex X 400; simp (maxSteps := 1000000) only [push_cast, reduceCtorEq, Nat.reduceAdd, Nat.reduceMul, Nat.reduceSub, Nat.reduceBEq, Nat.reduceGT, Nat.reduceLT, Int.toNat_zero, Nat.reduceLeDiff, Int.reduceEq, Int.reduceLT, Int.reduceLE, hP, hΓ, hL, hfin, String.reduceEq, not_false_eq_true, if_true, if_false, Int.toNat_one, Bool.not_not, h51, h52, h53, h54, q30, q29, q28, q24, q20, q16, q0, q1, q2, q3, m2, m3, h, hw, true_or, or_true, and_self, true_and, hu, hr])
      rw [dec_none (w := w) (by rw [fl4 h hu]; intro h'; have := h'.1.symm.trans hr; cases this)]
      simp only [Option.getD_none, Option.isSome_none, z0, agI_mk]
      exact Into.keep0A
    by_cases he : laid (3) (false) (decide (w / 268435456 % 2 = 1)) (w / 16777216 % 16) (0) (0) (w % 16) (0) = w
    · (intro X hP hΓ hL hfin; refine ⟨_, rfl, ?_⟩; rw [show Tryz.f26.ntmps = 73 from rfl]; rw [show Tryz.f26.results.toList = [.cell 2 42, .tmp 3] from rfl] at hfin; apply holds_of_ex X 400; simp (maxSteps := 1000000) only [push_cast, reduceCtorEq, Nat.reduceAdd, Nat.reduceMul, Nat.reduceSub, Nat.reduceBEq, Nat.reduceGT, Nat.reduceLT, Int.toNat_zero, Nat.reduceLeDiff, Int.reduceEq, Int.reduceLT, Int.reduceLE, hP, hΓ, hL, hfin, String.reduceEq, not_false_eq_true, if_true, if_false, Int.toNat_one, Bool.not_not, h51, h52, h53, h54, q30, q29, q28, q24, q20, q16, q0, q1, q2, q3, m2, m3, h, hw, true_or, or_true, and_self, true_and, hu, hr, he])
      rw [dec_some (w := w) (by rw [fl4 h hu]; exact hr) (by rw [fl4 h hu]; exact he), fl4 h hu]
      simp only [Option.getD_some, Option.isSome_some, agI_mk]
      exact Into.keep0A
    · (intro X hP hΓ hL hfin; refine ⟨_, rfl, ?_⟩; rw [show Tryz.f26.ntmps = 73 from rfl]; rw [show Tryz.f26.results.toList = [.cell 2 42, .tmp 3] from rfl] at hfin; apply holds_of_ex X 400; simp (maxSteps := 1000000) only [push_cast, reduceCtorEq, Nat.reduceAdd, Nat.reduceMul, Nat.reduceSub, Nat.reduceBEq, Nat.reduceGT, Nat.reduceLT, Int.toNat_zero, Nat.reduceLeDiff, Int.reduceEq, Int.reduceLT, Int.reduceLE, hP, hΓ, hL, hfin, String.reduceEq, not_false_eq_true, if_true, if_false, Int.toNat_one, Bool.not_not, h51, h52, h53, h54, q30, q29, q28, q24, q20, q16, q0, q1, q2, q3, m2, m3, h, hw, true_or, or_true, and_self, true_and, hu, hr, he])
      rw [dec_none (w := w) (by rw [fl4 h hu]; intro h'; exact he h'.2)]
      simp only [Option.getD_none, Option.isSome_none, z0, agI_mk]
      exact Into.keep0A
  · cases hr : rightB (3) (true) (decide (w / 268435456 % 2 = 1)) (w / 16777216 % 16) (0) (0) (0) (sx (w % 16777216) 16777216)
    · (intro X hP hΓ hL hfin; refine ⟨_, rfl, ?_⟩; rw [show Tryz.f26.ntmps = 73 from rfl]; rw [show Tryz.f26.results.toList = [.cell 2 42, .tmp 3] from rfl] at hfin; apply holds_of_ex X 400; simp (maxSteps := 1000000) only [push_cast, reduceCtorEq, Nat.reduceAdd, Nat.reduceMul, Nat.reduceSub, Nat.reduceBEq, Nat.reduceGT, Nat.reduceLT, Int.toNat_zero, Nat.reduceLeDiff, Int.reduceEq, Int.reduceLT, Int.reduceLE, hP, hΓ, hL, hfin, String.reduceEq, not_false_eq_true, if_true, if_false, Int.toNat_one, Bool.not_not, h51, h52, h53, h54, q30, q29, q28, q24, q20, q16, q0, q1, q2, q3, m2, m3, h, hw, true_or, or_true, and_self, true_and, hu, hr])
      rw [dec_none (w := w) (by rw [fl3 h hu]; intro h'; have := h'.1.symm.trans hr; cases this)]
      simp only [Option.getD_none, Option.isSome_none, z0, agI_mk]
      exact Into.keep0A
    by_cases he : laid (3) (true) (decide (w / 268435456 % 2 = 1)) (w / 16777216 % 16) (0) (0) (0) (sx (w % 16777216) 16777216) = w
    · (intro X hP hΓ hL hfin; refine ⟨_, rfl, ?_⟩; rw [show Tryz.f26.ntmps = 73 from rfl]; rw [show Tryz.f26.results.toList = [.cell 2 42, .tmp 3] from rfl] at hfin; apply holds_of_ex X 400; simp (maxSteps := 1000000) only [push_cast, reduceCtorEq, Nat.reduceAdd, Nat.reduceMul, Nat.reduceSub, Nat.reduceBEq, Nat.reduceGT, Nat.reduceLT, Int.toNat_zero, Nat.reduceLeDiff, Int.reduceEq, Int.reduceLT, Int.reduceLE, hP, hΓ, hL, hfin, String.reduceEq, not_false_eq_true, if_true, if_false, Int.toNat_one, Bool.not_not, h51, h52, h53, h54, q30, q29, q28, q24, q20, q16, q0, q1, q2, q3, m2, m3, h, hw, true_or, or_true, and_self, true_and, hu, hr, he])
      rw [dec_some (w := w) (by rw [fl3 h hu]; exact hr) (by rw [fl3 h hu]; exact he), fl3 h hu]
      simp only [Option.getD_some, Option.isSome_some, agI_mk]
      exact Into.keep0A
    · (intro X hP hΓ hL hfin; refine ⟨_, rfl, ?_⟩; rw [show Tryz.f26.ntmps = 73 from rfl]; rw [show Tryz.f26.results.toList = [.cell 2 42, .tmp 3] from rfl] at hfin; apply holds_of_ex X 400; simp (maxSteps := 1000000) only [push_cast, reduceCtorEq, Nat.reduceAdd, Nat.reduceMul, Nat.reduceSub, Nat.reduceBEq, Nat.reduceGT, Nat.reduceLT, Int.toNat_zero, Nat.reduceLeDiff, Int.reduceEq, Int.reduceLT, Int.reduceLE, hP, hΓ, hL, hfin, String.reduceEq, not_false_eq_true, if_true, if_false, Int.toNat_one, Bool.not_not, h51, h52, h53, h54, q30, q29, q28, q24, q20, q16, q0, q1, q2, q3, m2, m3, h, hw, true_or, or_true, and_self, true_and, hu, hr, he])
      rw [dec_none (w := w) (by rw [fl3 h hu]; intro h'; exact he h'.2)]
      simp only [Option.getD_none, Option.isSome_none, z0, agI_mk]
      exact Into.keep0A
theorem con26 {Γ : Env} (h : EnvOk Tryz.prog Γ) (h51 : Γ 51 = some S51) (h52 : Γ 52 = some S52) (h53 : Γ 53 = some S53) (h54 : Γ 54 = some S54) : Con Tryz.prog 26 S26 :=
  funS_con h (fn := Tryz.f26) (by kernel_rfl) rfl (by kernel_rfl) inj26 (by first | (intro h; cases h; done) | exact fun _ _ => rfl) fun w h => body26 Γ h51 h52 h53 h54 w h
end Go.Proofs.YtgemeilncdmapaaGreatDoor.asmDone
end
section
namespace Go.Proofs.YtgemeilncdmapaaGreatDoor.asmDone
open Go Go.Eng Go.Proofs Go.RowKit
open Go.Asm (mayB in16 rightB laid sx In flds rightI laidI decB laid_lo ops cnds opT cnT regT sufT nameT hexC hexT sep lastT insT showF)
set_option linter.unusedVariables false
set_option linter.unusedSimpArgs false
set_option maxRecDepth 100000
set_option maxHeartbeats 4000000
theorem dec_len (n : Nat) (h : n ≤ 9999999999) : (Lib.decDigits n).length ≤ 10 := by
  have key : ∀ (k n : Nat), n < 10 ^ k → 0 < k → (Lib.decDigits n).length ≤ k := by
    intro k
    induction k with
    | zero => intro n _ h; omega
    | succ k ih =>
      intro n hn _
      by_cases h10 : n < 10
      · rw [Go.Asm.dec_small n h10]; simp
      · rw [Go.Asm.dec_step n h10, List.length_append]
        have hk : 0 < k := by
          rcases Nat.eq_zero_or_pos k with rfl | h
          · simp at hn; omega
          · exact h
        have := ih (n / 10) (by rw [Nat.pow_succ] at hn; omega) hk
        simp only [List.length_cons, List.length_nil]; omega
  exact key 10 n (by omega) (by omega)
theorem itoa_len (n : Int) (h : -9999999999 ≤ n ∧ n ≤ 9999999999) : (Lib.itoa n).length ≤ 11 := by
  unfold Lib.itoa
  split
  · have := dec_len n.natAbs (by omega); simp only [List.length_cons]; omega
  · have := dec_len n.toNat (by omega); omega
def e21 : (Bool) → List AV := fun b => [.bool b]
def p21 : (Bool) → Prop := fun b => True
def r21 : (Bool) → AV := fun b => .int .i64 (Go.Asm.b2 b)
def g21 : (Bool) → Heap := fun b => []
theorem inj21 : ∀ a b, e21 a = e21 b → a = b := by
  rintro b b' h
  simp only [e21, mi_iff, ms_iff, mb_iff, my_iff, UInt8.toNat_inj, List.cons.injEq, AV.int.injEq, AV.str.injEq, AV.bool.injEq, AV.sl.injEq, AV.agg.injEq, AV.ip.injEq, AV.fn.injEq, AV.ifc.injEq, AV.mpr.injEq, Int.natCast_inj, and_true, true_and] at h
  simp_all only
noncomputable def S21 : FSpec := funS e21 p21 r21 g21 true
theorem ps21 (b : (Bool)) : psel e21 p21 [.bool b] = (True) := psel_at inj21 p21 b
theorem rs21 (b : (Bool)) : rsel e21 r21 .any [.bool b] = (.int .i64 (Go.Asm.b2 b)) := rsel_at inj21 r21 .any b
theorem hs21 (b : (Bool)) : rsel e21 g21 [] [.bool b] = ([]) := rsel_at inj21 g21 [] b
attribute [push_cast] S21 ps21 rs21 hs21
theorem body21 (Γ : Env) (b : Bool) : BodyOk Tryz.prog Γ Tryz.f21 [.bool b] [] (.int .i64 (Go.Asm.b2 b)) [] := by
  cases b
  · (intro X hP hΓ hL hfin; refine ⟨_, rfl, ?_⟩; rw [show Tryz.f21.ntmps = 4 from rfl]; rw [show Tryz.f21.results.toList = [.tmp 2] from rfl] at hfin; apply holds_of_ex X 400; simp (maxSteps := 1000000) only [push_cast, reduceCtorEq, Nat.reduceAdd, Nat.reduceMul, Nat.reduceSub, Nat.reduceBEq, Nat.reduceGT, Nat.reduceLT, Int.toNat_zero, Nat.reduceLeDiff, Int.reduceEq, Int.reduceLT, Int.reduceLE, hP, hΓ, hL, hfin, String.reduceEq, not_false_eq_true, if_true, if_false, Int.toNat_one, Bool.not_not])
    exact Into.one rfl rfl
  · (intro X hP hΓ hL hfin; refine ⟨_, rfl, ?_⟩; rw [show Tryz.f21.ntmps = 4 from rfl]; rw [show Tryz.f21.results.toList = [.tmp 2] from rfl] at hfin; apply holds_of_ex X 400; simp (maxSteps := 1000000) only [push_cast, reduceCtorEq, Nat.reduceAdd, Nat.reduceMul, Nat.reduceSub, Nat.reduceBEq, Nat.reduceGT, Nat.reduceLT, Int.toNat_zero, Nat.reduceLeDiff, Int.reduceEq, Int.reduceLT, Int.reduceLE, hP, hΓ, hL, hfin, String.reduceEq, not_false_eq_true, if_true, if_false, Int.toNat_one, Bool.not_not])
    exact Into.one rfl rfl
theorem con21 {Γ : Env} (h : EnvOk Tryz.prog Γ)  : Con Tryz.prog 21 S21 :=
  funS_con h (fn := Tryz.f21) (by kernel_rfl) rfl (by kernel_rfl) inj21 (by first | (intro h; cases h; done) | exact fun _ _ => rfl) fun b h => body21 Γ b
theorem b2t : Go.Asm.b2 true = 1 := rfl
theorem b2f : Go.Asm.b2 false = 0 := rfl
theorem and64 {n : Int} (h : 0 ≤ n ∧ n ≤ 15) : ibits .and .i64 n 15 = n := by
  have key : ∀ i : Fin 16, ibits .and .i64 (i.1 : Int) 15 = (i.1 : Int) := by decide
  have := key ⟨n.toNat, by omega⟩
  simp only [Int.toNat_of_nonneg h.1] at this
  exact this
theorem mapD (l : List (List UInt8)) (d : List UInt8) (i : Nat) : (l.map AV.str).getD i (.str d) = .str (l.getD i d) := by
  simp only [List.getD_eq_getElem?_getD, List.getElem?_map]
  cases l[i]? <;> rfl
def e22 : (Int) → List AV := fun n => [.int .i64 n]
def p22 : (Int) → Prop := fun n => 0 ≤ n ∧ n ≤ 15
def r22 : (Int) → AV := fun n => .str (cnT n)
def g22 : (Int) → Heap := fun n => []
theorem inj22 : ∀ a b, e22 a = e22 b → a = b := by
  rintro n n' h
  simp only [e22, mi_iff, ms_iff, mb_iff, my_iff, UInt8.toNat_inj, List.cons.injEq, AV.int.injEq, AV.str.injEq, AV.bool.injEq, AV.sl.injEq, AV.agg.injEq, AV.ip.injEq, AV.fn.injEq, AV.ifc.injEq, AV.mpr.injEq, Int.natCast_inj, and_true, true_and] at h
  simp_all only
noncomputable def S22 : FSpec := funS e22 p22 r22 g22 true
theorem ps22 (n : (Int)) : psel e22 p22 [.int .i64 n] = (0 ≤ n ∧ n ≤ 15) := psel_at inj22 p22 n
theorem rs22 (n : (Int)) : rsel e22 r22 .any [.int .i64 n] = (.str (cnT n)) := rsel_at inj22 r22 .any n
theorem hs22 (n : (Int)) : rsel e22 g22 [] [.int .i64 n] = ([]) := rsel_at inj22 g22 [] n
attribute [push_cast] S22 ps22 rs22 hs22
theorem body22 (Γ : Env) (n : Int) (h : 0 ≤ n ∧ n ≤ 15) : BodyOk Tryz.prog Γ Tryz.f22 [.int .i64 n] [] (.str (cnT n)) [] := by
  have h16 : n < 16 := by omega
  have h1 := h.1
  have h2 := mapD cnds [] n.toNat
  simp only [cnds, List.map_cons, List.map_nil] at h2
  (intro X hP hΓ hL hfin; refine ⟨_, rfl, ?_⟩; rw [show Tryz.f22.ntmps = 7 from rfl]; rw [show Tryz.f22.results.toList = [.tmp 2] from rfl] at hfin; apply holds_of_ex X 400; simp (maxSteps := 1000000) only [push_cast, reduceCtorEq, Nat.reduceAdd, Nat.reduceMul, Nat.reduceSub, Nat.reduceBEq, Nat.reduceGT, Nat.reduceLT, Int.toNat_zero, Nat.reduceLeDiff, Int.reduceEq, Int.reduceLT, Int.reduceLE, hP, hΓ, hL, hfin, String.reduceEq, not_false_eq_true, if_true, if_false, Int.toNat_one, Bool.not_not, and64 h, h16, h1, h2])
  refine ⟨⟨by omega, by omega⟩, ?_⟩
  exact Into.one rfl rfl
theorem con22 {Γ : Env} (h : EnvOk Tryz.prog Γ)  : Con Tryz.prog 22 S22 :=
  funS_con h (fn := Tryz.f22) (by kernel_rfl) rfl (by kernel_rfl) inj22 (by first | (intro h; cases h; done) | exact fun _ _ => rfl) fun n h => body22 Γ n h
def e48 : (Int) → List AV := fun n => [.int .i64 n]
def p48 : (Int) → Prop := fun n => 0 ≤ n ∧ n ≤ 15
def r48 : (Int) → AV := fun n => .str (opT n)
def g48 : (Int) → Heap := fun n => []
theorem inj48 : ∀ a b, e48 a = e48 b → a = b := by
  rintro n n' h
  simp only [e48, mi_iff, ms_iff, mb_iff, my_iff, UInt8.toNat_inj, List.cons.injEq, AV.int.injEq, AV.str.injEq, AV.bool.injEq, AV.sl.injEq, AV.agg.injEq, AV.ip.injEq, AV.fn.injEq, AV.ifc.injEq, AV.mpr.injEq, Int.natCast_inj, and_true, true_and] at h
  simp_all only
noncomputable def S48 : FSpec := funS e48 p48 r48 g48 true
theorem ps48 (n : (Int)) : psel e48 p48 [.int .i64 n] = (0 ≤ n ∧ n ≤ 15) := psel_at inj48 p48 n
theorem rs48 (n : (Int)) : rsel e48 r48 .any [.int .i64 n] = (.str (opT n)) := rsel_at inj48 r48 .any n
theorem hs48 (n : (Int)) : rsel e48 g48 [] [.int .i64 n] = ([]) := rsel_at inj48 g48 [] n
attribute [push_cast] S48 ps48 rs48 hs48
theorem body48 (Γ : Env) (n : Int) (h : 0 ≤ n ∧ n ≤ 15) : BodyOk Tryz.prog Γ Tryz.f48 [.int .i64 n] [] (.str (opT n)) [] := by
  have h16 : n < 16 := by omega
  have h1 := h.1
  have h2 := mapD ops [] n.toNat
  simp only [ops, List.map_cons, List.map_nil] at h2
  (intro X hP hΓ hL hfin; refine ⟨_, rfl, ?_⟩; rw [show Tryz.f48.ntmps = 7 from rfl]; rw [show Tryz.f48.results.toList = [.tmp 2] from rfl] at hfin; apply holds_of_ex X 400; simp (maxSteps := 1000000) only [push_cast, reduceCtorEq, Nat.reduceAdd, Nat.reduceMul, Nat.reduceSub, Nat.reduceBEq, Nat.reduceGT, Nat.reduceLT, Int.toNat_zero, Nat.reduceLeDiff, Int.reduceEq, Int.reduceLT, Int.reduceLE, hP, hΓ, hL, hfin, String.reduceEq, not_false_eq_true, if_true, if_false, Int.toNat_one, Bool.not_not, and64 h, h16, h1, h2])
  refine ⟨⟨by omega, by omega⟩, ?_⟩
  exact Into.one rfl rfl
theorem con48 {Γ : Env} (h : EnvOk Tryz.prog Γ)  : Con Tryz.prog 48 S48 :=
  funS_con h (fn := Tryz.f48) (by kernel_rfl) rfl (by kernel_rfl) inj48 (by first | (intro h; cases h; done) | exact fun _ _ => rfl) fun n h => body48 Γ n h
def e49 : (Int) × (Bool) × (Bool) × (Int) × (Int) × (Int) × (Int) × (Int) → List AV := fun (f, u, v, a, b, op, c, n) => [.agg [.int .i64 f, .bool u, .bool v, .int .i64 a, .int .i64 b, .int .i64 op, .int .i64 c, .int .i64 n]]
def p49 : (Int) × (Bool) × (Bool) × (Int) × (Int) × (Int) × (Int) × (Int) → Prop := fun (f, u, v, a, b, op, c, n) => True
def r49 : (Int) × (Bool) × (Bool) × (Int) × (Int) × (Int) × (Int) × (Int) → AV := fun (f, u, v, a, b, op, c, n) => .str (sufT u v)
def g49 : (Int) × (Bool) × (Bool) × (Int) × (Int) × (Int) × (Int) × (Int) → Heap := fun (f, u, v, a, b, op, c, n) => []
theorem inj49 : ∀ a b, e49 a = e49 b → a = b := by
  rintro ⟨f, u, v, a, b, op, c, n⟩ ⟨f', u', v', a', b', op', c', n'⟩ h
  simp only [e49, mi_iff, ms_iff, mb_iff, my_iff, UInt8.toNat_inj, List.cons.injEq, AV.int.injEq, AV.str.injEq, AV.bool.injEq, AV.sl.injEq, AV.agg.injEq, AV.ip.injEq, AV.fn.injEq, AV.ifc.injEq, AV.mpr.injEq, Int.natCast_inj, and_true, true_and] at h
  simp_all only
noncomputable def S49 : FSpec := funS e49 p49 r49 g49 true
theorem ps49 (f : (Int)) (u : (Bool)) (v : (Bool)) (a : (Int)) (b : (Int)) (op : (Int)) (c : (Int)) (n : (Int)) : psel e49 p49 [.agg [.int .i64 f, .bool u, .bool v, .int .i64 a, .int .i64 b, .int .i64 op, .int .i64 c, .int .i64 n]] = (True) := psel_at inj49 p49 (f, u, v, a, b, op, c, n)
theorem rs49 (f : (Int)) (u : (Bool)) (v : (Bool)) (a : (Int)) (b : (Int)) (op : (Int)) (c : (Int)) (n : (Int)) : rsel e49 r49 .any [.agg [.int .i64 f, .bool u, .bool v, .int .i64 a, .int .i64 b, .int .i64 op, .int .i64 c, .int .i64 n]] = (.str (sufT u v)) := rsel_at inj49 r49 .any (f, u, v, a, b, op, c, n)
theorem hs49 (f : (Int)) (u : (Bool)) (v : (Bool)) (a : (Int)) (b : (Int)) (op : (Int)) (c : (Int)) (n : (Int)) : rsel e49 g49 [] [.agg [.int .i64 f, .bool u, .bool v, .int .i64 a, .int .i64 b, .int .i64 op, .int .i64 c, .int .i64 n]] = ([]) := rsel_at inj49 g49 [] (f, u, v, a, b, op, c, n)
attribute [push_cast] S49 ps49 rs49 hs49
theorem body49 (Γ : Env) (f : Int) (u v : Bool) (a b op c n : Int) : BodyOk Tryz.prog Γ Tryz.f49 [.agg [.int .i64 f, .bool u, .bool v, .int .i64 a, .int .i64 b, .int .i64 op, .int .i64 c, .int .i64 n]] [] (.str (sufT u v)) [] := by
  cases u <;> cases v <;> ((intro X hP hΓ hL hfin; refine ⟨_, rfl, ?_⟩; rw [show Tryz.f49.ntmps = 13 from rfl]; rw [show Tryz.f49.results.toList = [.tmp 2] from rfl] at hfin; apply holds_of_ex X 400; simp (maxSteps := 1000000) only [push_cast, reduceCtorEq, Nat.reduceAdd, Nat.reduceMul, Nat.reduceSub, Nat.reduceBEq, Nat.reduceGT, Nat.reduceLT, Int.toNat_zero, Nat.reduceLeDiff, Int.reduceEq, Int.reduceLT, Int.reduceLE, hP, hΓ, hL, hfin, String.reduceEq, not_false_eq_true, if_true, if_false, Int.toNat_one, Bool.not_not]); exact Into.one rfl rfl)
theorem con49 {Γ : Env} (h : EnvOk Tryz.prog Γ)  : Con Tryz.prog 49 S49 :=
  funS_con h (fn := Tryz.f49) (by kernel_rfl) rfl (by kernel_rfl) inj49 (by first | (intro h; cases h; done) | exact fun _ _ => rfl) fun ⟨f, u, v, a, b, op, c, n⟩ h => body49 Γ f u v a b op c n
def e33 : (Int) × (Bool) × (Bool) × (Int) × (Int) × (Int) × (Int) × (Int) → List AV := fun (f, u, v, a, b, op, c, n) => [.agg [.int .i64 f, .bool u, .bool v, .int .i64 a, .int .i64 b, .int .i64 op, .int .i64 c, .int .i64 n]]
def p33 : (Int) × (Bool) × (Bool) × (Int) × (Int) × (Int) × (Int) × (Int) → Prop := fun (f, u, v, a, b, op, c, n) => True
def r33 : (Int) × (Bool) × (Bool) × (Int) × (Int) × (Int) × (Int) × (Int) → AV := fun (f, u, v, a, b, op, c, n) => .str (sufT u v)
def g33 : (Int) × (Bool) × (Bool) × (Int) × (Int) × (Int) × (Int) × (Int) → Heap := fun (f, u, v, a, b, op, c, n) => []
theorem inj33 : ∀ a b, e33 a = e33 b → a = b := by
  rintro ⟨f, u, v, a, b, op, c, n⟩ ⟨f', u', v', a', b', op', c', n'⟩ h
  simp only [e33, mi_iff, ms_iff, mb_iff, my_iff, UInt8.toNat_inj, List.cons.injEq, AV.int.injEq, AV.str.injEq, AV.bool.injEq, AV.sl.injEq, AV.agg.injEq, AV.ip.injEq, AV.fn.injEq, AV.ifc.injEq, AV.mpr.injEq, Int.natCast_inj, and_true, true_and] at h
  simp_all only
noncomputable def S33 : FSpec := funS e33 p33 r33 g33 true
theorem ps33 (f : (Int)) (u : (Bool)) (v : (Bool)) (a : (Int)) (b : (Int)) (op : (Int)) (c : (Int)) (n : (Int)) : psel e33 p33 [.agg [.int .i64 f, .bool u, .bool v, .int .i64 a, .int .i64 b, .int .i64 op, .int .i64 c, .int .i64 n]] = (True) := psel_at inj33 p33 (f, u, v, a, b, op, c, n)
theorem rs33 (f : (Int)) (u : (Bool)) (v : (Bool)) (a : (Int)) (b : (Int)) (op : (Int)) (c : (Int)) (n : (Int)) : rsel e33 r33 .any [.agg [.int .i64 f, .bool u, .bool v, .int .i64 a, .int .i64 b, .int .i64 op, .int .i64 c, .int .i64 n]] = (.str (sufT u v)) := rsel_at inj33 r33 .any (f, u, v, a, b, op, c, n)
theorem hs33 (f : (Int)) (u : (Bool)) (v : (Bool)) (a : (Int)) (b : (Int)) (op : (Int)) (c : (Int)) (n : (Int)) : rsel e33 g33 [] [.agg [.int .i64 f, .bool u, .bool v, .int .i64 a, .int .i64 b, .int .i64 op, .int .i64 c, .int .i64 n]] = ([]) := rsel_at inj33 g33 [] (f, u, v, a, b, op, c, n)
attribute [push_cast] S33 ps33 rs33 hs33
theorem body33 (Γ : Env) (f : Int) (u v : Bool) (a b op c n : Int) : BodyOk Tryz.prog Γ Tryz.f33 [.agg [.int .i64 f, .bool u, .bool v, .int .i64 a, .int .i64 b, .int .i64 op, .int .i64 c, .int .i64 n]] [] (.str (sufT u v)) [] := by
  cases u <;> cases v <;> ((intro X hP hΓ hL hfin; refine ⟨_, rfl, ?_⟩; rw [show Tryz.f33.ntmps = 11 from rfl]; rw [show Tryz.f33.results.toList = [.tmp 2] from rfl] at hfin; apply holds_of_ex X 400; simp (maxSteps := 1000000) only [push_cast, reduceCtorEq, Nat.reduceAdd, Nat.reduceMul, Nat.reduceSub, Nat.reduceBEq, Nat.reduceGT, Nat.reduceLT, Int.toNat_zero, Nat.reduceLeDiff, Int.reduceEq, Int.reduceLT, Int.reduceLE, hP, hΓ, hL, hfin, String.reduceEq, not_false_eq_true, if_true, if_false, Int.toNat_one, Bool.not_not]); exact Into.one rfl rfl)
theorem con33 {Γ : Env} (h : EnvOk Tryz.prog Γ)  : Con Tryz.prog 33 S33 :=
  funS_con h (fn := Tryz.f33) (by kernel_rfl) rfl (by kernel_rfl) inj33 (by first | (intro h; cases h; done) | exact fun _ _ => rfl) fun ⟨f, u, v, a, b, op, c, n⟩ h => body33 Γ f u v a b op c n
theorem suf_len (u v : Bool) : (sufT u v).length ≤ 2 := by cases u <;> cases v <;> decide
theorem op_len (n : Int) : (opT n).length ≤ 4 := by
  have key : ∀ x ∈ ops, x.length ≤ 4 := by decide
  unfold opT
  rw [List.getD_eq_getElem?_getD]
  cases h : ops[n.toNat]? with
  | none => simp
  | some x => exact key x (List.mem_of_getElem? h)
theorem cn_len (n : Int) : (cnT n).length ≤ 2 := by
  have key : ∀ x ∈ cnds, x.length ≤ 2 := by decide
  unfold cnT
  rw [List.getD_eq_getElem?_getD]
  cases h : cnds[n.toNat]? with
  | none => simp
  | some x => exact key x (List.mem_of_getElem? h)
theorem name_len (f : Int) (u v : Bool) (op : Int) : (nameT f u v op).length ≤ 6 := by
  unfold nameT
  split
  · cases u <;> cases v <;> decide
  split
  · cases v <;> decide
  · rw [List.length_append]; have := suf_len u v; have := op_len op; omega
def e24 : (Int) × (Bool) × (Bool) × (Int) × (Int) × (Int) × (Int) × (Int) → List AV := fun (f, u, v, a, b, op, c, n) => [.agg [.int .i64 f, .bool u, .bool v, .int .i64 a, .int .i64 b, .int .i64 op, .int .i64 c, .int .i64 n]]
def p24 : (Int) × (Bool) × (Bool) × (Int) × (Int) × (Int) × (Int) × (Int) → Prop := fun (f, u, v, a, b, op, c, n) => 0 ≤ op ∧ op ≤ 15
def r24 : (Int) × (Bool) × (Bool) × (Int) × (Int) × (Int) × (Int) × (Int) → AV := fun (f, u, v, a, b, op, c, n) => .str (nameT f u v op)
def g24 : (Int) × (Bool) × (Bool) × (Int) × (Int) × (Int) × (Int) × (Int) → Heap := fun (f, u, v, a, b, op, c, n) => []
theorem inj24 : ∀ a b, e24 a = e24 b → a = b := by
  rintro ⟨f, u, v, a, b, op, c, n⟩ ⟨f', u', v', a', b', op', c', n'⟩ h
  simp only [e24, mi_iff, ms_iff, mb_iff, my_iff, UInt8.toNat_inj, List.cons.injEq, AV.int.injEq, AV.str.injEq, AV.bool.injEq, AV.sl.injEq, AV.agg.injEq, AV.ip.injEq, AV.fn.injEq, AV.ifc.injEq, AV.mpr.injEq, Int.natCast_inj, and_true, true_and] at h
  simp_all only
noncomputable def S24 : FSpec := funS e24 p24 r24 g24 true
theorem ps24 (f : (Int)) (u : (Bool)) (v : (Bool)) (a : (Int)) (b : (Int)) (op : (Int)) (c : (Int)) (n : (Int)) : psel e24 p24 [.agg [.int .i64 f, .bool u, .bool v, .int .i64 a, .int .i64 b, .int .i64 op, .int .i64 c, .int .i64 n]] = (0 ≤ op ∧ op ≤ 15) := psel_at inj24 p24 (f, u, v, a, b, op, c, n)
theorem rs24 (f : (Int)) (u : (Bool)) (v : (Bool)) (a : (Int)) (b : (Int)) (op : (Int)) (c : (Int)) (n : (Int)) : rsel e24 r24 .any [.agg [.int .i64 f, .bool u, .bool v, .int .i64 a, .int .i64 b, .int .i64 op, .int .i64 c, .int .i64 n]] = (.str (nameT f u v op)) := rsel_at inj24 r24 .any (f, u, v, a, b, op, c, n)
theorem hs24 (f : (Int)) (u : (Bool)) (v : (Bool)) (a : (Int)) (b : (Int)) (op : (Int)) (c : (Int)) (n : (Int)) : rsel e24 g24 [] [.agg [.int .i64 f, .bool u, .bool v, .int .i64 a, .int .i64 b, .int .i64 op, .int .i64 c, .int .i64 n]] = ([]) := rsel_at inj24 g24 [] (f, u, v, a, b, op, c, n)
attribute [push_cast] S24 ps24 rs24 hs24
theorem body24 (Γ : Env) (h21 : Γ 21 = some S21) (h48 : Γ 48 = some S48) (h49 : Γ 49 = some S49) (f : Int) (u v : Bool) (a b op c n : Int) (ho : 0 ≤ op ∧ op ≤ 15) : BodyOk Tryz.prog Γ Tryz.f24 [.agg [.int .i64 f, .bool u, .bool v, .int .i64 a, .int .i64 b, .int .i64 op, .int .i64 c, .int .i64 n]] [] (.str (nameT f u v op)) [] := by
  by_cases f2 : f = 2
  · subst f2
    rw [nameT, if_pos rfl]
    cases u <;> cases v <;> ((intro X hP hΓ hL hfin; refine ⟨_, rfl, ?_⟩; rw [show Tryz.f24.ntmps = 42 from rfl]; rw [show Tryz.f24.results.toList = [.tmp 2] from rfl] at hfin; apply holds_of_ex X 400; simp (maxSteps := 1000000) only [push_cast, reduceCtorEq, Nat.reduceAdd, Nat.reduceMul, Nat.reduceSub, Nat.reduceBEq, Nat.reduceGT, Nat.reduceLT, Int.toNat_zero, Nat.reduceLeDiff, Int.reduceEq, Int.reduceLT, Int.reduceLE, hP, hΓ, hL, hfin, String.reduceEq, not_false_eq_true, if_true, if_false, Int.toNat_one, Bool.not_not, h21]); (refine Holds.drawnQ (by rw [hP]; kernel_rfl) (by kernel_rfl) ?_; simp (maxSteps := 1000000) only [push_cast, reduceCtorEq, Nat.reduceAdd, Nat.reduceMul, Nat.reduceSub, Nat.reduceBEq, Nat.reduceGT, Nat.reduceLT, Int.toNat_zero, Nat.reduceLeDiff, Int.reduceEq, Int.reduceLT, Int.reduceLE, hP, hΓ, hL, hfin, String.reduceEq, not_false_eq_true, if_true, if_false, Int.toNat_one, Bool.not_not, h21, b2t, b2f]); exact ⟨by decide, by decide, Into.one rfl rfl⟩)
  by_cases f0 : f = 0 ∧ op = 0 ∧ u = true
  · obtain ⟨rfl, rfl, rfl⟩ := f0
    rw [nameT, if_neg f2, if_pos (by decide)]
    cases v <;> ((intro X hP hΓ hL hfin; refine ⟨_, rfl, ?_⟩; rw [show Tryz.f24.ntmps = 42 from rfl]; rw [show Tryz.f24.results.toList = [.tmp 2] from rfl] at hfin; apply holds_of_ex X 400; simp (maxSteps := 1000000) only [push_cast, reduceCtorEq, Nat.reduceAdd, Nat.reduceMul, Nat.reduceSub, Nat.reduceBEq, Nat.reduceGT, Nat.reduceLT, Int.toNat_zero, Nat.reduceLeDiff, Int.reduceEq, Int.reduceLT, Int.reduceLE, hP, hΓ, hL, hfin, String.reduceEq, not_false_eq_true, if_true, if_false, Int.toNat_one, Bool.not_not, h21, b2t, b2f]); exact ⟨by decide, Into.one rfl rfl⟩)
  rw [nameT, if_neg f2, if_neg f0]
  have hl := suf_len u v
  have hm := op_len op
  have e1 : (decide (f = 0) && (decide (op = 0) && u)) = false := by
    rw [Bool.eq_false_iff]; simpa using f0
  have e2 : (decide (f = 0) && decide (op = 0) && u) = false := by rw [Bool.and_assoc]; exact e1
  (intro X hP hΓ hL hfin; refine ⟨_, rfl, ?_⟩; rw [show Tryz.f24.ntmps = 42 from rfl]; rw [show Tryz.f24.results.toList = [.tmp 2] from rfl] at hfin; apply holds_of_ex X 400; simp (maxSteps := 1000000) only [push_cast, reduceCtorEq, Nat.reduceAdd, Nat.reduceMul, Nat.reduceSub, Nat.reduceBEq, Nat.reduceGT, Nat.reduceLT, Int.toNat_zero, Nat.reduceLeDiff, Int.reduceEq, Int.reduceLT, Int.reduceLE, hP, hΓ, hL, hfin, String.reduceEq, not_false_eq_true, if_true, if_false, Int.toNat_one, Bool.not_not, f2, e1, e2])
  (refine Holds.drawnQ (by rw [hP]; kernel_rfl) (by kernel_rfl) ?_; simp (maxSteps := 1000000) only [push_cast, reduceCtorEq, Nat.reduceAdd, Nat.reduceMul, Nat.reduceSub, Nat.reduceBEq, Nat.reduceGT, Nat.reduceLT, Int.toNat_zero, Nat.reduceLeDiff, Int.reduceEq, Int.reduceLT, Int.reduceLE, hP, hΓ, hL, hfin, String.reduceEq, not_false_eq_true, if_true, if_false, Int.toNat_one, Bool.not_not, h48, h49, ho, and_self])
  refine ⟨by omega, ?_⟩
  exact Into.one rfl rfl
theorem con24 {Γ : Env} (h : EnvOk Tryz.prog Γ) (h21 : Γ 21 = some S21) (h48 : Γ 48 = some S48) (h49 : Γ 49 = some S49) : Con Tryz.prog 24 S24 :=
  funS_con h (fn := Tryz.f24) (by kernel_rfl) rfl (by kernel_rfl) inj24 (by first | (intro h; cases h; done) | exact fun _ _ => rfl) fun ⟨f, u, v, a, b, op, c, n⟩ h => body24 Γ h21 h48 h49 f u v a b op c n h
end Go.Proofs.YtgemeilncdmapaaGreatDoor.asmDone
end
section
namespace Go.Proofs.YtgemeilncdmapaaGreatDoor.asmDone
open Go Go.Eng Go.Proofs Go.RowKit
open Go.Asm (mayB in16 rightB laid sx In flds rightI laidI decB laid_lo ops cnds opT cnT regT sufT nameT hexC hexT sep lastT insT showF)
set_option linter.unusedVariables false
set_option linter.unusedSimpArgs false
set_option maxRecDepth 100000
set_option maxHeartbeats 4000000
/-! a word's digits -/
def hx (w : Int) (k : Nat) : UInt8 := hexC (w / 16 ^ (7 - k) % 16)
theorem hexT_get (w : Int) (k : Nat) (h : k < 8) : (hexT w).getD k 0 = hx w k := by
  simp [hexT, hx, List.getD_eq_getElem?_getD, h]
/-- the digits that stand ahead -/
def hrow (w : Int) (k : Nat) : List UInt8 := (hexT w).take k ++ List.replicate (8 - k) 0
theorem hrow_set (w : Int) (k : Nat) (h : k < 8) : (hrow w k).set k (hx w k) = hrow w (k + 1) := by
  have hl : (hexT w).length = 8 := Go.Asm.hex_len w
  rw [← hexT_get w k h]
  have hc : k = 0 ∨ k = 1 ∨ k = 2 ∨ k = 3 ∨ k = 4 ∨ k = 5 ∨ k = 6 ∨ k = 7 := by omega
  unfold hrow
  generalize hexT w = l at *
  match l, hl with
  | [a, b, c, d, e, f, g, h], _ => rcases hc with rfl | rfl | rfl | rfl | rfl | rfl | rfl | rfl <;> rfl
theorem hrow_all (w : Int) : hrow w 8 = hexT w := by
  have hl : (hexT w).length = 8 := Go.Asm.hex_len w
  unfold hrow
  rw [List.take_of_length_le (by omega)]; simp
theorem map_set (l : List UInt8) (k : Nat) (c : UInt8) : (l.map byteAV).set k (byteAV c) = (l.set k c).map byteAV := by
  rw [List.map_set]
def e18 : (Int) → List AV := fun w => [.int .u32 w]
def p18 : (Int) → Prop := fun w => 0 ≤ w ∧ w < 4294967296
def r18 : (Int) → AV := fun w => .str (hexT w)
def g18 : (Int) → Heap := fun w => []
theorem inj18 : ∀ a b, e18 a = e18 b → a = b := by
  rintro w w' h
  simp only [e18, mi_iff, ms_iff, mb_iff, my_iff, UInt8.toNat_inj, List.cons.injEq, AV.int.injEq, AV.str.injEq, AV.bool.injEq, AV.sl.injEq, AV.agg.injEq, AV.ip.injEq, AV.fn.injEq, AV.ifc.injEq, AV.mpr.injEq, Int.natCast_inj, and_true, true_and] at h
  simp_all only
noncomputable def S18 : FSpec := funS e18 p18 r18 g18 true
theorem ps18 (w : (Int)) : psel e18 p18 [.int .u32 w] = (0 ≤ w ∧ w < 4294967296) := psel_at inj18 p18 w
theorem rs18 (w : (Int)) : rsel e18 r18 .any [.int .u32 w] = (.str (hexT w)) := rsel_at inj18 r18 .any w
theorem hs18 (w : (Int)) : rsel e18 g18 [] [.int .u32 w] = ([]) := rsel_at inj18 g18 [] w
attribute [push_cast] S18 ps18 rs18 hs18
theorem body18 (Γ : Env) (w : Int) (hw : 0 ≤ w ∧ w < 4294967296) : BodyOk Tryz.prog Γ Tryz.f18 [.int .u32 w] [] (.str (hexT w)) [] := by
  (intro X hP hΓ hL hfin; refine ⟨_, rfl, ?_⟩; rw [show Tryz.f18.ntmps = 20 from rfl]; rw [show Tryz.f18.results.toList = [.tmp 2] from rfl] at hfin; apply holds_of_ex X 400; simp (maxSteps := 1000000) only [push_cast, reduceCtorEq, Nat.reduceAdd, Nat.reduceMul, Nat.reduceSub, Nat.reduceBEq, Nat.reduceGT, Nat.reduceLT, Int.toNat_zero, Nat.reduceLeDiff, Int.reduceEq, Int.reduceLT, Int.reduceLE, hP, hΓ, hL, hfin, String.reduceEq, not_false_eq_true, if_true, if_false, Int.toNat_one, Bool.not_not])
  refine Holds.loopM (ι := {k : Nat // k ≤ 8}) [true, false, true, true, false, false, false, false, false, false, false, false, false, false, false, false, false, false, false, false] (fun i => [(5, .int .i64 i.1)]) (fun i => [.row ((hrow w i.1).map byteAV) 8 0]) (fun i => 8 - i.1) ⟨0, by decide⟩ ?_ ?_
  · (rw [hL]; simp only [push_cast, Int.natCast_zero]; exact Into.sameA)
  rintro ⟨k, hk⟩
  ((first | with_reducible refine holds_of_ex X 6 _ _ _ ?_ | skip); simp (maxSteps := 1000000) only [push_cast, reduceCtorEq, Nat.reduceAdd, Nat.reduceMul, Nat.reduceSub, Nat.reduceBEq, Nat.reduceGT, Nat.reduceLT, Int.toNat_zero, Nat.reduceLeDiff, Int.reduceEq, Int.reduceLT, Int.reduceLE, hP, hΓ, hL, hfin, String.reduceEq, not_false_eq_true, if_true, if_false, Int.toNat_one, Bool.not_not])
  ((with_reducible refine exB_split (fun h => ?_) (fun h => ?_)) <;> (try simp only [decide_eq_true_eq, decide_eq_false_iff_not, Bool.and_eq_true, Bool.or_eq_true, Bool.and_eq_false_iff, Bool.or_eq_false_iff, Bool.not_eq_true', Bool.not_eq_false', Bool.not_eq_true, Bool.not_eq_false, Int.not_lt, Int.not_le, beq_iff_eq, beq_eq_false_iff_ne, ne_eq] at h))
  · have hk8 : k < 8 := by omega
    have e1 : IntKind.i64.wrap (4 * (k : Int)) = 4 * (k : Int) := wr_i64 _ (by constructor <;> omega)
    have e2 : IntKind.i64.wrap (28 - 4 * (k : Int)) = 28 - 4 * (k : Int) := wr_i64 _ (by constructor <;> omega)
    have e3 : w.fdiv (2 ^ min (28 - 4 * (k : Int)).toNat IntKind.u32.bits) = w / 16 ^ (7 - k) := by
      have hc : k = 0 ∨ k = 1 ∨ k = 2 ∨ k = 3 ∨ k = 4 ∨ k = 5 ∨ k = 6 ∨ k = 7 := by omega
      rcases hc with rfl | rfl | rfl | rfl | rfl | rfl | rfl | rfl <;> exact Int.fdiv_eq_ediv_of_nonneg _ (by decide)
    have hx0 : 0 ≤ w / 16 ^ (7 - k) ∧ w / 16 ^ (7 - k) < 4294967296 := by
      have hc : k = 0 ∨ k = 1 ∨ k = 2 ∨ k = 3 ∨ k = 4 ∨ k = 5 ∨ k = 6 ∨ k = 7 := by omega
      rcases hc with rfl | rfl | rfl | rfl | rfl | rfl | rfl | rfl <;> simp only [Nat.reduceSub, Int.reducePow] <;> omega
    have e4 : ibits .and .u32 (w / 16 ^ (7 - k)) 15 = w / 16 ^ (7 - k) % 16 := and15 hx0
    have e5 : [48, 49, 50, 51, 52, 53, 54, 55, 56, 57, 65, 66, 67, 68, 69, 70].getD (w / 16 ^ (7 - k) % 16).toNat 0 = hx w k := rfl
    have hy : 0 ≤ w / 16 ^ (7 - k) % 16 ∧ w / 16 ^ (7 - k) % 16 < 16 := by omega
    have hl : (hrow w k).length = 8 := by
      have hl : (hexT w).length = 8 := Go.Asm.hex_len w
      simp only [hrow, List.length_append, List.length_take, List.length_replicate, hl]; omega
    simp (maxSteps := 1000000) only [↓reduceIte, Option.getD_some, push_cast, reduceCtorEq, Nat.reduceAdd, Nat.reduceMul, Nat.reduceSub, Nat.reduceBEq, Nat.reduceGT, Nat.reduceLT, Int.toNat_zero, Nat.reduceLeDiff, Int.reduceEq, Int.reduceLT, Int.reduceLE, hP, hΓ, hL, hfin, String.reduceEq, not_false_eq_true, if_true, if_false, Int.toNat_one, Bool.not_not]
    ((first | with_reducible refine holds_of_ex X 400 _ _ _ ?_ | skip); simp (maxSteps := 1000000) only [push_cast, reduceCtorEq, Nat.reduceAdd, Nat.reduceMul, Nat.reduceSub, Nat.reduceBEq, Nat.reduceGT, Nat.reduceLT, Int.toNat_zero, Nat.reduceLeDiff, Int.reduceEq, Int.reduceLT, Int.reduceLE, hP, hΓ, hL, hfin, String.reduceEq, not_false_eq_true, if_true, if_false, Int.toNat_one, Bool.not_not, e1, e2, e3, e4, e5])
    refine ⟨by omega, ⟨by omega, by omega⟩, by omega, by omega, ⟨k + 1, by omega⟩, by simp only; omega, ?_⟩
    rw [wr_i64 ((k : Int) + 1) (by constructor <;> omega)]
    have e6 : List.take k (List.map byteAV (hrow w k)) ++ [AV.int IntKind.u8 ((hx w k).toNat : Int)] ++ List.drop (k + 1) (List.map byteAV (hrow w k)) = (hrow w (k + 1)).map byteAV := by
      rw [← hrow_set w k hk8, ← map_set, List.set_eq_take_append_cons_drop, if_pos (by rw [List.length_map]; omega)]
      simp [byteAV]
    rw [e6]
    exact Into.sameA
  · obtain rfl : k = 8 := by omega
    simp (maxSteps := 1000000) only [↓reduceIte, Option.getD_some, push_cast, reduceCtorEq, Nat.reduceAdd, Nat.reduceMul, Nat.reduceSub, Nat.reduceBEq, Nat.reduceGT, Nat.reduceLT, Int.toNat_zero, Nat.reduceLeDiff, Int.reduceEq, Int.reduceLT, Int.reduceLE, hP, hΓ, hL, hfin, String.reduceEq, not_false_eq_true, if_true, if_false, Int.toNat_one, Bool.not_not]
    refine Holds.arrStr (N := 8) (e' := 5) (e := 5) 0 rfl rfl rfl rfl rfl rfl (by rw [hP]; kernel_rfl) (by rw [hP]; kernel_rfl) (by rw [hP]; kernel_rfl) (by rw [hP]; kernel_rfl) (by rw [hP]; kernel_rfl) ?_
    refine ⟨0, 0, 8, hexT w, rfl, .inl ⟨rfl, rfl⟩, ⟨rfl, rfl⟩, Go.Asm.hex_len w, by decide, by simp only [List.length_cons]; omega, ?_, ?_⟩
    · rw [show rowOf [AObj.row (List.map byteAV (hrow w 8)) 8 0] 0 = List.map byteAV (hrow w 8) from rfl, hrow_all, List.take_of_length_le (by rw [List.length_map, Go.Asm.hex_len]; exact Nat.le_refl 8)]
    simp (maxSteps := 1000000) only [↓reduceIte, Option.getD_some, push_cast, reduceCtorEq, Nat.reduceAdd, Nat.reduceMul, Nat.reduceSub, Nat.reduceBEq, Nat.reduceGT, Nat.reduceLT, Int.toNat_zero, Nat.reduceLeDiff, Int.reduceEq, Int.reduceLT, Int.reduceLE, hP, hΓ, hL, hfin, String.reduceEq, not_false_eq_true, if_true, if_false, Int.toNat_one, Bool.not_not]
    ((first | with_reducible refine holds_of_ex X 400 _ _ _ ?_ | skip); simp (maxSteps := 1000000) only [push_cast, reduceCtorEq, Nat.reduceAdd, Nat.reduceMul, Nat.reduceSub, Nat.reduceBEq, Nat.reduceGT, Nat.reduceLT, Int.toNat_zero, Nat.reduceLeDiff, Int.reduceEq, Int.reduceLT, Int.reduceLE, hP, hΓ, hL, hfin, String.reduceEq, not_false_eq_true, if_true, if_false, Int.toNat_one, Bool.not_not])
    exact Into.one rfl rfl
theorem con18 {Γ : Env} (h : EnvOk Tryz.prog Γ)  : Con Tryz.prog 18 S18 :=
  funS_con h (fn := Tryz.f18) (by kernel_rfl) rfl (by kernel_rfl) inj18 (by first | (intro h; cases h; done) | exact fun _ _ => rfl) fun w h => body18 Γ w h
theorem hex_one (y : Nat) (h : y < 16) : List.drop y (48 :: List.take y ([49, 50, 51, 52, 53, 54, 55, 56, 57, 65, 66, 67, 68, 69, 70] : List UInt8)) = [hexC (y : Int)] := by
  have hc : y = 0 ∨ y = 1 ∨ y = 2 ∨ y = 3 ∨ y = 4 ∨ y = 5 ∨ y = 6 ∨ y = 7 ∨ y = 8 ∨ y = 9 ∨ y = 10 ∨ y = 11 ∨ y = 12 ∨ y = 13 ∨ y = 14 ∨ y = 15 := by omega
  rcases hc with rfl | rfl | rfl | rfl | rfl | rfl | rfl | rfl | rfl | rfl | rfl | rfl | rfl | rfl | rfl | rfl <;> rfl
theorem hexT_drop (w : Int) (k : Nat) (h : k < 8) : (hexT w).drop (8 - (k + 1)) = hx w (7 - k) :: (hexT w).drop (8 - k) := by
  have hl : (hexT w).length = 8 := Go.Asm.hex_len w
  rw [show 8 - (k + 1) = 7 - k by omega, ← hexT_get w (7 - k) (by omega), show 8 - k = 7 - k + 1 by omega]
  rw [List.drop_eq_getElem_cons (by omega)]
  simp [List.getD_eq_getElem?_getD, show 7 - k < (hexT w).length by omega]
def e27 : (Int) → List AV := fun w => [.int .u32 w]
def p27 : (Int) → Prop := fun w => 0 ≤ w ∧ w < 4294967296
def r27 : (Int) → AV := fun w => .str (hexT w)
def g27 : (Int) → Heap := fun w => []
theorem inj27 : ∀ a b, e27 a = e27 b → a = b := by
  rintro w w' h
  simp only [e27, mi_iff, ms_iff, mb_iff, my_iff, UInt8.toNat_inj, List.cons.injEq, AV.int.injEq, AV.str.injEq, AV.bool.injEq, AV.sl.injEq, AV.agg.injEq, AV.ip.injEq, AV.fn.injEq, AV.ifc.injEq, AV.mpr.injEq, Int.natCast_inj, and_true, true_and] at h
  simp_all only
noncomputable def S27 : FSpec := funS e27 p27 r27 g27 true
theorem ps27 (w : (Int)) : psel e27 p27 [.int .u32 w] = (0 ≤ w ∧ w < 4294967296) := psel_at inj27 p27 w
theorem rs27 (w : (Int)) : rsel e27 r27 .any [.int .u32 w] = (.str (hexT w)) := rsel_at inj27 r27 .any w
theorem hs27 (w : (Int)) : rsel e27 g27 [] [.int .u32 w] = ([]) := rsel_at inj27 g27 [] w
attribute [push_cast] S27 ps27 rs27 hs27
theorem body27 (Γ : Env) (w : Int) (hw : 0 ≤ w ∧ w < 4294967296) : BodyOk Tryz.prog Γ Tryz.f27 [.int .u32 w] [] (.str (hexT w)) [] := by
  (intro X hP hΓ hL hfin; refine ⟨_, rfl, ?_⟩; rw [show Tryz.f27.ntmps = 21 from rfl]; rw [show Tryz.f27.results.toList = [.tmp 2] from rfl] at hfin; apply holds_of_ex X 400; simp (maxSteps := 1000000) only [push_cast, reduceCtorEq, Nat.reduceAdd, Nat.reduceMul, Nat.reduceSub, Nat.reduceBEq, Nat.reduceGT, Nat.reduceLT, Int.toNat_zero, Nat.reduceLeDiff, Int.reduceEq, Int.reduceLT, Int.reduceLE, hP, hΓ, hL, hfin, String.reduceEq, not_false_eq_true, if_true, if_false, Int.toNat_one, Bool.not_not])
  refine Holds.loopM (ι := {k : Nat // k ≤ 8}) [false, false, true, false, false, false, false, false, false, false, false, false, false, false, false, false, false, false, false, false, false] (fun i => [(0, .int .u32 (w / 16 ^ i.1)), (3, .str ((hexT w).drop (8 - i.1))), (4, .int .i64 i.1)]) (fun i => []) (fun i => 8 - i.1) ⟨0, by decide⟩ ?_ ?_
  · rw [hL]; simp only [push_cast, Int.natCast_zero, Int.pow_zero, Int.ediv_one, Nat.sub_zero]
    rw [List.drop_of_length_le (by rw [Go.Asm.hex_len]; exact Nat.le_refl 8)]
    exact Into.sameA
  rintro ⟨k, hk⟩
  ((first | with_reducible refine holds_of_ex X 400 _ _ _ ?_ | skip); simp (maxSteps := 1000000) only [push_cast, reduceCtorEq, Nat.reduceAdd, Nat.reduceMul, Nat.reduceSub, Nat.reduceBEq, Nat.reduceGT, Nat.reduceLT, Int.toNat_zero, Nat.reduceLeDiff, Int.reduceEq, Int.reduceLT, Int.reduceLE, hP, hΓ, hL, hfin, String.reduceEq, not_false_eq_true, if_true, if_false, Int.toNat_one, Bool.not_not])
  ((with_reducible refine exB_split (fun h => ?_) (fun h => ?_)) <;> (try simp only [decide_eq_true_eq, decide_eq_false_iff_not, Bool.and_eq_true, Bool.or_eq_true, Bool.and_eq_false_iff, Bool.or_eq_false_iff, Bool.not_eq_true', Bool.not_eq_false', Bool.not_eq_true, Bool.not_eq_false, Int.not_lt, Int.not_le, beq_iff_eq, beq_eq_false_iff_ne, ne_eq] at h))
  · have hk8 : k < 8 := by omega
    have hx0 : 0 ≤ w / 16 ^ k ∧ w / 16 ^ k < 4294967296 := by
      have hp : (0 : Int) < 16 ^ k := Int.pow_pos (by decide)
      exact ⟨Int.ediv_nonneg hw.1 (Int.le_of_lt hp), Int.lt_of_le_of_lt (Int.ediv_le_self _ hw.1) hw.2⟩
    have e7 : w / 16 ^ k / 16 = w / 16 ^ (k + 1) := by
      rw [Int.ediv_ediv_of_nonneg (Int.le_of_lt (Int.pow_pos (by decide))), Int.pow_succ]
    have e8 : hx w (7 - k) = hexC (w / 16 ^ k % 16) := by rw [hx, show 7 - (7 - k) = k by omega]
    obtain ⟨x, hxe⟩ := Int.eq_ofNat_of_zero_le hx0.1
    rw [hxe] at hx0 e7 e8 ⊢
    have e0 : ((x : Nat) : Int).tmod 16 = ((x % 16 : Nat) : Int) := by rw [Int.tmod_eq_emod_of_nonneg (by omega)]; omega
    have e1 : IntKind.u32.wrap (((x % 16 : Nat) : Int) + 1) = ((x % 16 + 1 : Nat) : Int) := by rw [u32i _ (by omega)]; omega
    have e2 : IntKind.u32.wrap (((x : Nat) : Int).tdiv 16) = ((x / 16 : Nat) : Int) := by rw [Int.tdiv_eq_ediv_of_nonneg (by omega), u32i _ (by omega)]; omega
    have e3 := hex_one (x % 16) (Nat.mod_lt _ (by decide))
    have e9 : hexC ((x % 16 : Nat) : Int) = hx w (7 - k) := by rw [e8]; congr 1
    rw [e9] at e3
    have e10 : ((x / 16 : Nat) : Int) = w / 16 ^ (k + 1) := by rw [← e7]; omega
    have hy : x % 16 < 16 := Nat.mod_lt _ (by decide)
    have hz : x / 16 < 4294967296 := by omega
    have hl : (hexT w).length = 8 := Go.Asm.hex_len w
    generalize hyy : x % 16 = y at *
    generalize hzz : x / 16 = z at *
    ((first | with_reducible refine holds_of_ex X 400 _ _ _ ?_ | skip); simp (maxSteps := 1000000) only [push_cast, reduceCtorEq, Nat.reduceAdd, Nat.reduceMul, Nat.reduceSub, Nat.reduceBEq, Nat.reduceGT, Nat.reduceLT, Int.toNat_zero, Nat.reduceLeDiff, Int.reduceEq, Int.reduceLT, Int.reduceLE, hP, hΓ, hL, hfin, String.reduceEq, not_false_eq_true, if_true, if_false, Int.toNat_one, Bool.not_not, e0, e1, e2, e3, Int.toNat_natCast])
    refine ⟨by omega, by omega, ⟨k + 1, by omega⟩, by simp only; omega, ?_⟩
    dsimp only
    rw [wr_i64 ((k : Int) + 1) (by constructor <;> omega), e10, ← hexT_drop w k hk8]
    exact Into.sameA
  · obtain rfl : k = 8 := by omega
    ((first | with_reducible refine holds_of_ex X 400 _ _ _ ?_ | skip); simp (maxSteps := 1000000) only [push_cast, reduceCtorEq, Nat.reduceAdd, Nat.reduceMul, Nat.reduceSub, Nat.reduceBEq, Nat.reduceGT, Nat.reduceLT, Int.toNat_zero, Nat.reduceLeDiff, Int.reduceEq, Int.reduceLT, Int.reduceLE, hP, hΓ, hL, hfin, String.reduceEq, not_false_eq_true, if_true, if_false, Int.toNat_one, Bool.not_not])
    exact Into.one (by simp) rfl
theorem con27 {Γ : Env} (h : EnvOk Tryz.prog Γ)  : Con Tryz.prog 27 S27 :=
  funS_con h (fn := Tryz.f27) (by kernel_rfl) rfl (by kernel_rfl) inj27 (by first | (intro h; cases h; done) | exact fun _ _ => rfl) fun w h => body27 Γ w h
/-! numbers -/
theorem lit9 (y : Nat) (h : y < 10) : List.drop y (48 :: List.take y ([49, 50, 51, 52, 53, 54, 55, 56, 57] : List UInt8)) = [UInt8.ofNat (48 + y)] := by
  have : y = 0 ∨ y = 1 ∨ y = 2 ∨ y = 3 ∨ y = 4 ∨ y = 5 ∨ y = 6 ∨ y = 7 ∨ y = 8 ∨ y = 9 := by omega
  rcases this with rfl | rfl | rfl | rfl | rfl | rfl | rfl | rfl | rfl | rfl <;> rfl
/-- how far a number's digits are written -/
def Di (n k : Nat) (t : List UInt8) : Prop := (t = [] ∧ k = n) ∨ (t ≠ [] ∧ Lib.decDigits n = (if k = 0 then [] else Lib.decDigits k) ++ t)
theorem Di.step {n k : Nat} {t : List UInt8} (h : Di n k t) (hc : t = [] ∨ 0 < k) : Di n (k / 10) (UInt8.ofNat (48 + k % 10) :: t) := by
  right
  refine ⟨by simp, ?_⟩
  have e : Lib.decDigits k = (if k / 10 = 0 then [] else Lib.decDigits (k / 10)) ++ [UInt8.ofNat (48 + k % 10)] := by
    by_cases hk : k < 10
    · rw [Go.Asm.dec_small k hk, if_pos (by omega), Nat.mod_eq_of_lt hk]; rfl
    · rw [Go.Asm.dec_step k hk, if_neg (by omega)]
  rcases h with ⟨rfl, rfl⟩ | ⟨h1, h2⟩
  · exact e
  · rw [h2, if_neg (by rcases hc with h | h; exact absurd h h1; omega), e, List.append_assoc]; rfl
def e930 : (Int) → List AV := fun n => [.int .i64 n]
def p930 : (Int) → Prop := fun n => 0 ≤ n ∧ n ≤ 9999999999
def r930 : (Int) → AV := fun n => .str (Lib.itoa n)
def g930 : (Int) → Heap := fun n => []
theorem inj930 : ∀ a b, e930 a = e930 b → a = b := by
  rintro n n' h
  simp only [e930, mi_iff, ms_iff, mb_iff, my_iff, UInt8.toNat_inj, List.cons.injEq, AV.int.injEq, AV.str.injEq, AV.bool.injEq, AV.sl.injEq, AV.agg.injEq, AV.ip.injEq, AV.fn.injEq, AV.ifc.injEq, AV.mpr.injEq, Int.natCast_inj, and_true, true_and] at h
  simp_all only
noncomputable def S930 : FSpec := funS e930 p930 r930 g930 true
theorem ps930 (n : (Int)) : psel e930 p930 [.int .i64 n] = (0 ≤ n ∧ n ≤ 9999999999) := psel_at inj930 p930 n
theorem rs930 (n : (Int)) : rsel e930 r930 .any [.int .i64 n] = (.str (Lib.itoa n)) := rsel_at inj930 r930 .any n
theorem hs930 (n : (Int)) : rsel e930 g930 [] [.int .i64 n] = ([]) := rsel_at inj930 g930 [] n
attribute [push_cast] S930 ps930 rs930 hs930
theorem body930 (Γ : Env) (n : Int) (h : 0 ≤ n ∧ n ≤ 9999999999) : BodyOk Tryz.prog Γ Tryz.f30 [.int .i64 n] [] (.str (Lib.itoa n)) [] := by
  have hdl := dec_len n.toNat (by omega)
  have hn0 : ¬ n < 0 := by omega
  rw [show Lib.itoa n = Lib.decDigits n.toNat by rw [Lib.itoa, if_neg hn0]]
  obtain ⟨n, rfl⟩ := Int.eq_ofNat_of_zero_le h.1
  rw [Int.toNat_natCast] at hdl ⊢
  have hneg : decide (((n : Nat) : Int) < 0) = false := decide_eq_false (by omega)
  (intro X hP hΓ hL hfin; refine ⟨_, rfl, ?_⟩; rw [show Tryz.f30.ntmps = 27 from rfl]; rw [show Tryz.f30.results.toList = [.tmp 2] from rfl] at hfin; apply holds_of_ex X 400; simp (maxSteps := 1000000) only [push_cast, reduceCtorEq, Nat.reduceAdd, Nat.reduceMul, Nat.reduceSub, Nat.reduceBEq, Nat.reduceGT, Nat.reduceLT, Int.toNat_zero, Nat.reduceLeDiff, Int.reduceEq, Int.reduceLT, Int.reduceLE, hP, hΓ, hL, hfin, String.reduceEq, not_false_eq_true, if_true, if_false, Int.toNat_one, Bool.not_not, hneg])
  refine Holds.loopM (ι := {x : Nat × List UInt8 // x.1 ≤ n ∧ Di n x.1 x.2}) [false, false, true, false, false, false, false, false, false, false, false, false, false, false, false, false, false, false, false, false, false, false, false, false, false, false, false] (fun i => [(0, .int .i64 i.1.1), (3, .str i.1.2)]) (fun i => []) (fun i => 2 * i.1.1 + (if i.1.2 = [] then 1 else 0)) ⟨(n, []), Nat.le_refl _, .inl ⟨rfl, rfl⟩⟩ ?_ ?_
  · (rw [hL]; simp only [push_cast, Int.natCast_zero]; exact Into.sameA)
  rintro ⟨⟨m, s⟩, hm, hd⟩
  simp only at hm hd
  ((first | with_reducible refine holds_of_ex X 400 _ _ _ ?_ | skip); simp (maxSteps := 1000000) only [push_cast, reduceCtorEq, Nat.reduceAdd, Nat.reduceMul, Nat.reduceSub, Nat.reduceBEq, Nat.reduceGT, Nat.reduceLT, Int.toNat_zero, Nat.reduceLeDiff, Int.reduceEq, Int.reduceLT, Int.reduceLE, hP, hΓ, hL, hfin, String.reduceEq, not_false_eq_true, if_true, if_false, Int.toNat_one, Bool.not_not])
  ((with_reducible refine exB_split (fun h => ?_) (fun h => ?_)) <;> (try simp only [decide_eq_true_eq, decide_eq_false_iff_not, Bool.and_eq_true, Bool.or_eq_true, Bool.and_eq_false_iff, Bool.or_eq_false_iff, Bool.not_eq_true', Bool.not_eq_false', Bool.not_eq_true, Bool.not_eq_false, Int.not_lt, Int.not_le, beq_iff_eq, beq_eq_false_iff_ne, ne_eq] at h))
  · have hc : s = [] ∨ 0 < m := by
      rcases h with h | h
      · exact .inl h
      · exact .inr (by omega)
    have hs := hd.step hc
    have hx0 : m % 10 < 10 := Nat.mod_lt _ (by decide)
    have hsl : s.length ≤ 10 := by
      rcases hd with ⟨rfl, _⟩ | ⟨_, hd⟩
      · simp
      · rw [hd, List.length_append] at hdl; omega
    have e0 : (m : Int).tmod 10 = ((m % 10 : Nat) : Int) := by rw [Int.tmod_eq_emod_of_nonneg (by omega)]; omega
    have e1 : IntKind.i64.wrap (((m % 10 : Nat) : Int) + 1) = ((m % 10 + 1 : Nat) : Int) := by rw [wr_i64 _ (by constructor <;> omega)]; omega
    have e2 : IntKind.i64.wrap ((m : Int).tdiv 10) = ((m / 10 : Nat) : Int) := by
      rw [Int.tdiv_eq_ediv_of_nonneg (by omega), wr_i64 _ (by constructor <;> omega)]; omega
    have e3 := lit9 (m % 10) hx0
    generalize hy : m % 10 = y at *
    generalize hz : m / 10 = z at *
    ((first | with_reducible refine holds_of_ex X 400 _ _ _ ?_ | skip); simp (maxSteps := 1000000) only [push_cast, reduceCtorEq, Nat.reduceAdd, Nat.reduceMul, Nat.reduceSub, Nat.reduceBEq, Nat.reduceGT, Nat.reduceLT, Int.toNat_zero, Nat.reduceLeDiff, Int.reduceEq, Int.reduceLT, Int.reduceLE, hP, hΓ, hL, hfin, String.reduceEq, not_false_eq_true, if_true, if_false, Int.toNat_one, Bool.not_not, e0, e1, e2, e3, Int.toNat_natCast])
    refine ⟨⟨by omega, by omega⟩, by omega, ⟨(z, UInt8.ofNat (48 + y) :: s), by simp only; omega, hs⟩, ?_, ?_⟩
    · have : (UInt8.ofNat (48 + y) :: s = []) = False := by simp
      simp only [this, if_false]
      rcases hc with hc | hc
      · rw [if_pos hc]; omega
      · omega
    exact Into.sameA
  · have hf : Lib.decDigits n = s := by
      rcases hd with ⟨h1, _⟩ | ⟨_, hd⟩
      · exact absurd h1 h.1
      · rw [hd, if_pos (by omega)]; rfl
    ((first | with_reducible refine holds_of_ex X 400 _ _ _ ?_ | skip); simp (maxSteps := 1000000) only [push_cast, reduceCtorEq, Nat.reduceAdd, Nat.reduceMul, Nat.reduceSub, Nat.reduceBEq, Nat.reduceGT, Nat.reduceLT, Int.toNat_zero, Nat.reduceLeDiff, Int.reduceEq, Int.reduceLT, Int.reduceLE, hP, hΓ, hL, hfin, String.reduceEq, not_false_eq_true, if_true, if_false, Int.toNat_one, Bool.not_not])
    rw [hf]
    exact Into.sameA
theorem con930 {Γ : Env} (h : EnvOk Tryz.prog Γ) : Con Tryz.prog 30 S930 :=
  funS_con h (fn := Tryz.f30) (by kernel_rfl) rfl (by kernel_rfl) inj930 (by first | (intro h; cases h; done) | exact fun _ _ => rfl) fun n h => body930 Γ n h
def e30 : (Int) → List AV := fun n => [.int .i64 n]
def p30 : (Int) → Prop := fun n => -9999999999 ≤ n ∧ n ≤ 9999999999
def r30 : (Int) → AV := fun n => .str (Lib.itoa n)
def g30 : (Int) → Heap := fun n => []
theorem inj30 : ∀ a b, e30 a = e30 b → a = b := by
  rintro n n' h
  simp only [e30, mi_iff, ms_iff, mb_iff, my_iff, UInt8.toNat_inj, List.cons.injEq, AV.int.injEq, AV.str.injEq, AV.bool.injEq, AV.sl.injEq, AV.agg.injEq, AV.ip.injEq, AV.fn.injEq, AV.ifc.injEq, AV.mpr.injEq, Int.natCast_inj, and_true, true_and] at h
  simp_all only
noncomputable def S30 : FSpec := funS e30 p30 r30 g30 true
theorem ps30 (n : (Int)) : psel e30 p30 [.int .i64 n] = (-9999999999 ≤ n ∧ n ≤ 9999999999) := psel_at inj30 p30 n
theorem rs30 (n : (Int)) : rsel e30 r30 .any [.int .i64 n] = (.str (Lib.itoa n)) := rsel_at inj30 r30 .any n
theorem hs30 (n : (Int)) : rsel e30 g30 [] [.int .i64 n] = ([]) := rsel_at inj30 g30 [] n
attribute [push_cast] S30 ps30 rs30 hs30
theorem body30 (Γ : Env) (h30 : Γ 30 = some S930) (n : Int) (h : -9999999999 ≤ n ∧ n ≤ 9999999999) : BodyOk Tryz.prog Γ Tryz.f30 [.int .i64 n] [] (.str (Lib.itoa n)) [] := by
  by_cases hn : n < 0
  · have e1 : IntKind.i64.wrap (0 - n) = -n := by rw [wr_i64 _ (by constructor <;> omega)]; omega
    have e2 : Lib.itoa n = 45 :: Lib.itoa (-n) := by
      rw [Lib.itoa, if_pos hn, Lib.itoa, if_neg (by omega)]
      congr 2; omega
    have h2 : 0 ≤ -n ∧ -n ≤ 9999999999 := by omega
    have h3 := itoa_len (-n) (by omega)
    (intro X hP hΓ hL hfin; refine ⟨_, rfl, ?_⟩; rw [show Tryz.f30.ntmps = 27 from rfl]; rw [show Tryz.f30.results.toList = [.tmp 2] from rfl] at hfin; apply holds_of_ex X 400; simp (maxSteps := 1000000) only [push_cast, reduceCtorEq, Nat.reduceAdd, Nat.reduceMul, Nat.reduceSub, Nat.reduceBEq, Nat.reduceGT, Nat.reduceLT, Int.toNat_zero, Nat.reduceLeDiff, Int.reduceEq, Int.reduceLT, Int.reduceLE, hP, hΓ, hL, hfin, String.reduceEq, not_false_eq_true, if_true, if_false, Int.toNat_one, Bool.not_not, h30, hn, e1, h2, and_self])
    refine ⟨by omega, ?_⟩
    rw [e2]
    exact Into.one rfl rfl
  · exact body930 Γ n ⟨by omega, h.2⟩
theorem con30 {Γ : Env} (h : EnvOk Tryz.prog Γ) (h30 : Γ 30 = some S930) : Con Tryz.prog 30 S30 :=
  funS_con h (fn := Tryz.f30) (by kernel_rfl) rfl (by kernel_rfl) inj30 (by first | (intro h; cases h; done) | exact fun _ _ => rfl) fun n h => body30 Γ h30 n h
def e29 : (Int) → List AV := fun n => [.int .i64 n]
def p29 : (Int) → Prop := fun n => -9999999999 ≤ n ∧ n ≤ 9999999999
def r29 : (Int) → AV := fun n => .str (regT n)
def g29 : (Int) → Heap := fun n => []
theorem inj29 : ∀ a b, e29 a = e29 b → a = b := by
  rintro n n' h
  simp only [e29, mi_iff, ms_iff, mb_iff, my_iff, UInt8.toNat_inj, List.cons.injEq, AV.int.injEq, AV.str.injEq, AV.bool.injEq, AV.sl.injEq, AV.agg.injEq, AV.ip.injEq, AV.fn.injEq, AV.ifc.injEq, AV.mpr.injEq, Int.natCast_inj, and_true, true_and] at h
  simp_all only
noncomputable def S29 : FSpec := funS e29 p29 r29 g29 true
theorem ps29 (n : (Int)) : psel e29 p29 [.int .i64 n] = (-9999999999 ≤ n ∧ n ≤ 9999999999) := psel_at inj29 p29 n
theorem rs29 (n : (Int)) : rsel e29 r29 .any [.int .i64 n] = (.str (regT n)) := rsel_at inj29 r29 .any n
theorem hs29 (n : (Int)) : rsel e29 g29 [] [.int .i64 n] = ([]) := rsel_at inj29 g29 [] n
attribute [push_cast] S29 ps29 rs29 hs29
theorem body29 (Γ : Env) (h30 : Γ 30 = some S30) (n : Int) (h : -9999999999 ≤ n ∧ n ≤ 9999999999) : BodyOk Tryz.prog Γ Tryz.f29 [.int .i64 n] [] (.str (regT n)) [] := by
  have h3 := itoa_len n h
  (intro X hP hΓ hL hfin; refine ⟨_, rfl, ?_⟩; rw [show Tryz.f29.ntmps = 6 from rfl]; rw [show Tryz.f29.results.toList = [.tmp 2] from rfl] at hfin; apply holds_of_ex X 400; simp (maxSteps := 1000000) only [push_cast, reduceCtorEq, Nat.reduceAdd, Nat.reduceMul, Nat.reduceSub, Nat.reduceBEq, Nat.reduceGT, Nat.reduceLT, Int.toNat_zero, Nat.reduceLeDiff, Int.reduceEq, Int.reduceLT, Int.reduceLE, hP, hΓ, hL, hfin, String.reduceEq, not_false_eq_true, if_true, if_false, Int.toNat_one, Bool.not_not, h30, h, and_self])
  refine ⟨by omega, ?_⟩
  exact Into.one rfl rfl
theorem con29 {Γ : Env} (h : EnvOk Tryz.prog Γ) (h30 : Γ 30 = some S30) : Con Tryz.prog 29 S29 :=
  funS_con h (fn := Tryz.f29) (by kernel_rfl) rfl (by kernel_rfl) inj29 (by first | (intro h; cases h; done) | exact fun _ _ => rfl) fun n h => body29 Γ h30 n h
end Go.Proofs.YtgemeilncdmapaaGreatDoor.asmDone
end
section
namespace Go.Proofs.YtgemeilncdmapaaGreatDoor.asmDone
open Go Go.Eng Go.Proofs Go.RowKit
open Go.Asm (mayB in16 rightB laid sx In flds rightI laidI decB laid_lo ops cnds opT cnT regT sufT nameT hexC hexT sep lastT insT showF)
set_option linter.unusedVariables false
set_option linter.unusedSimpArgs false
set_option maxRecDepth 100000
set_option maxHeartbeats 4000000
theorem pow_tab {m : Mem} {L : Heap} {w : World} (hW : WRel m L w) : Lib.TabIs Tryz.prog w "internal/strconv.uint64pow10" .u64 Lib.pow10Tab := by
  obtain ⟨c, e, f, h1, h2⟩ := hW.glob.2 (0, (List.range 20).map fun i => Value.int .u64 ((10 ^ i : Nat) : Int)) (by simp [gTab])
  have h3 := hW.pobjs _ _ h1
  have hg : Tryz.prog.globalNamed "internal/strconv.uint64pow10" = some 0 := by kernel_rfl
  unfold Lib.TabIs World.var?
  rw [hg]
  simp only [Option.bind_some]
  simp only at h3
  rw [h3]
  simp only [Option.some.injEq]
  apply Array.ext'
  rw [h2]
  simp [Lib.pow10Tab]
theorem below_grow (w : World) (k : Nat) (os : Array Obj) : Below w.heap.size w (Sort.grow (w.drewN k) os) := ⟨rfl, rfl, rfl, by simp [Sort.grow, World.drewN], fun j hj => by
  simp only [Sort.grow, World.drewN]
  rw [Array.getElem?_append_left hj]⟩
def e23 : (Int) → List AV := fun n => [.int .i64 n]
def p23 : (Int) → Prop := fun n => -9999999999 ≤ n ∧ n ≤ 9999999999
def r23 : (Int) → AV := fun n => .str (Lib.itoa n)
def g23 : (Int) → Heap := fun n => []
theorem inj23 : ∀ a b, e23 a = e23 b → a = b := by
  rintro n n' h
  simp only [e23, mi_iff, ms_iff, mb_iff, my_iff, UInt8.toNat_inj, List.cons.injEq, AV.int.injEq, AV.str.injEq, AV.bool.injEq, AV.sl.injEq, AV.agg.injEq, AV.ip.injEq, AV.fn.injEq, AV.ifc.injEq, AV.mpr.injEq, Int.natCast_inj, and_true, true_and] at h
  simp_all only
noncomputable def S23 : FSpec := funS e23 p23 r23 g23 true
theorem ps23 (n : (Int)) : psel e23 p23 [.int .i64 n] = (-9999999999 ≤ n ∧ n ≤ 9999999999) := psel_at inj23 p23 n
theorem rs23 (n : (Int)) : rsel e23 r23 .any [.int .i64 n] = (.str (Lib.itoa n)) := rsel_at inj23 r23 .any n
theorem hs23 (n : (Int)) : rsel e23 g23 [] [.int .i64 n] = ([]) := rsel_at inj23 g23 [] n
attribute [push_cast] S23 ps23 rs23 hs23
theorem con23 : Con Tryz.prog 23 S23 := by
  refine funS_below (fn := Tryz.f23) (by kernel_rfl) rfl (by kernel_rfl) inj23 (fun _ => rfl) fun m w n vs hW hx hp => ?_
  obtain ⟨h0, h1⟩ := hp
  simp only [e23, CRel, VRel] at hx
  obtain ⟨_, _, rfl, rfl, rfl⟩ := hx
  refine Calls.mono (Tryz.strconv_Itoa n (by omega) (by omega) w (pow_tab hW)) ?_
  rintro e w' ⟨rfl, k, os, rfl⟩
  refine ⟨_, rfl, ?_, below_grow w k os⟩
  simp only [r23, VRel]
def e122 : (Int) → List AV := fun n => [.int .i64 n, .int .i64 10]
def p122 : (Int) → Prop := fun n => -9223372036854775808 ≤ n ∧ n ≤ 9223372036854775807
def r122 : (Int) → AV := fun n => .str (Lib.itoa n)
def g122 : (Int) → Heap := fun n => []
theorem inj122 : ∀ a b, e122 a = e122 b → a = b := by
  rintro n n' h
  simp only [e122, mi_iff, ms_iff, mb_iff, my_iff, UInt8.toNat_inj, List.cons.injEq, AV.int.injEq, AV.str.injEq, AV.bool.injEq, AV.sl.injEq, AV.agg.injEq, AV.ip.injEq, AV.fn.injEq, AV.ifc.injEq, AV.mpr.injEq, Int.natCast_inj, and_true, true_and] at h
  simp_all only
noncomputable def S122 : FSpec := funS e122 p122 r122 g122 true
theorem ps122 (n : (Int)) : psel e122 p122 [.int .i64 n, .int .i64 10] = (-9223372036854775808 ≤ n ∧ n ≤ 9223372036854775807) := psel_at inj122 p122 n
theorem rs122 (n : (Int)) : rsel e122 r122 .any [.int .i64 n, .int .i64 10] = (.str (Lib.itoa n)) := rsel_at inj122 r122 .any n
theorem hs122 (n : (Int)) : rsel e122 g122 [] [.int .i64 n, .int .i64 10] = ([]) := rsel_at inj122 g122 [] n
attribute [push_cast] S122 ps122 rs122 hs122
theorem con122 : Con Tryz.prog 122 S122 := by
  refine funS_below (fn := Tryz.f122) (by kernel_rfl) rfl (by kernel_rfl) inj122 (fun _ => rfl) fun m w n vs hW hx hp => ?_
  obtain ⟨h0, h1⟩ := hp
  simp only [e122, CRel, VRel] at hx
  obtain ⟨_, _, rfl, rfl, _, _, rfl, rfl, rfl⟩ := hx
  refine Calls.mono (Tryz.strconv_FormatInt_10 n h0 h1 w (pow_tab hW)) ?_
  rintro e w' ⟨rfl, k, os, rfl⟩
  refine ⟨_, rfl, ?_, below_grow w k os⟩
  simp only [r122, VRel]
/-- strconv.ParseInt -/
def e121 : (List UInt8) → List AV := fun s => [.str s, .int .i64 10, .int .i64 64]
def p121 : (List UInt8) → Prop := fun s => s.length ≤ 4194304
def r121 : (List UInt8) → AV := fun s => .tup [.int .i64 (Go.Asm.prgN s), match Lib.parseIntB 64 s with | .ok _ => .lit .nilIface | _ => .ifc 158 .any]
def g121 : (List UInt8) → Heap := fun s => []
theorem inj121 : ∀ a b, e121 a = e121 b → a = b := by
  rintro s s' h
  simp only [e121, mi_iff, ms_iff, mb_iff, my_iff, UInt8.toNat_inj, List.cons.injEq, AV.int.injEq, AV.str.injEq, AV.bool.injEq, AV.sl.injEq, AV.agg.injEq, AV.ip.injEq, AV.fn.injEq, AV.ifc.injEq, AV.mpr.injEq, Int.natCast_inj, and_true, true_and] at h
  simp_all only
noncomputable def S121 : FSpec := funS e121 p121 r121 g121 true
theorem ps121 (s : (List UInt8)) : psel e121 p121 [.str s, .int .i64 10, .int .i64 64] = (s.length ≤ 4194304) := psel_at inj121 p121 s
theorem rs121 (s : (List UInt8)) : rsel e121 r121 .any [.str s, .int .i64 10, .int .i64 64] = (.tup [.int .i64 (Go.Asm.prgN s), match Lib.parseIntB 64 s with | .ok _ => .lit .nilIface | _ => .ifc 158 .any]) := rsel_at inj121 r121 .any s
theorem hs121 (s : (List UInt8)) : rsel e121 g121 [] [.str s, .int .i64 10, .int .i64 64] = ([]) := rsel_at inj121 g121 [] s
attribute [push_cast] S121 ps121 rs121 hs121
theorem con121 : Con Tryz.prog 121 S121 := by
  refine funS_below (fn := Tryz.f121) (by kernel_rfl) rfl (by kernel_rfl) inj121 (fun _ => rfl) fun m w s vs hW hx hp => ?_
  simp only [e121, CRel, VRel] at hx
  obtain ⟨_, _, rfl, rfl, _, _, rfl, rfl, _, _, rfl, rfl, rfl⟩ := hx
  have hs : s.length ≤ 4194304 := hp
  cases hpi : Lib.parseIntB 64 s with
  | ok v =>
    refine Calls.mono (Tryz.strconv_ParseInt_10_at64_ok ⟨s.toArray⟩ (by simp [ByteArray.size]; omega) v (by simpa using hpi) w) ?_
    rintro e w' ⟨rfl, hw⟩
    refine ⟨_, rfl, ?_, ?_⟩
    · simp [r121, hpi, Go.Asm.prgN, VRel, CRel]
    · rcases hw with rfl | ⟨t, rfl⟩
      · exact Below.refl _ _
      · exact Lib.bytesWorld_below _ _ _
  | range =>
    obtain ⟨t, x, hg⟩ := glob_cell hW (g := 8) (by decide)
    refine Calls.mono (Tryz.strconv_ParseInt_10_at64_range ⟨s.toArray⟩ (by simp [ByteArray.size]; omega) (by simpa using hpi) _ w hg (.inr ⟨t, x, rfl⟩)) ?_
    rintro e w' ⟨N, rfl, _, _, hb⟩
    exact ⟨_, rfl, by simp [r121, hpi, Go.Asm.prgN, VRel, CRel]; exact ⟨_, _, ⟨rfl, rfl⟩, rfl, _, rfl, _, rfl⟩, hb⟩
  | _ =>
    obtain ⟨t, x, hg⟩ := glob_cell hW (g := 7) (by decide)
    refine Calls.mono (Tryz.strconv_ParseInt_10_at64_bad ⟨s.toArray⟩ (by simp [ByteArray.size]; omega) (by intro v; simp [hpi]) (by simp [hpi]) _ w hg (.inr ⟨t, x, rfl⟩)) ?_
    rintro e w' ⟨N, rfl, _, _, hb⟩
    exact ⟨_, rfl, by simp [r121, hpi, Go.Asm.prgN, VRel, CRel]; exact ⟨_, _, ⟨rfl, rfl⟩, rfl, _, rfl, _, rfl⟩, hb⟩
/-- strings.CutPrefix -/
def e98 : (List UInt8) × (List UInt8) → List AV := fun (s, p) => [.str s, .str p]
def p98 : (List UInt8) × (List UInt8) → Prop := fun (s, p) => True
def r98 : (List UInt8) × (List UInt8) → AV := fun (s, p) => .tup [.str (Lib.trimPrefix s p), .bool (Lib.hasPrefix s p)]
def g98 : (List UInt8) × (List UInt8) → Heap := fun (s, p) => []
theorem inj98 : ∀ a b, e98 a = e98 b → a = b := by
  rintro ⟨s, p⟩ ⟨s', p'⟩ h
  simp only [e98, mi_iff, ms_iff, mb_iff, my_iff, UInt8.toNat_inj, List.cons.injEq, AV.int.injEq, AV.str.injEq, AV.bool.injEq, AV.sl.injEq, AV.agg.injEq, AV.ip.injEq, AV.fn.injEq, AV.ifc.injEq, AV.mpr.injEq, Int.natCast_inj, and_true, true_and] at h
  simp_all only
noncomputable def S98 : FSpec := funS e98 p98 r98 g98 true
theorem ps98 (s : (List UInt8)) (p : (List UInt8)) : psel e98 p98 [.str s, .str p] = (True) := psel_at inj98 p98 (s, p)
theorem rs98 (s : (List UInt8)) (p : (List UInt8)) : rsel e98 r98 .any [.str s, .str p] = (.tup [.str (Lib.trimPrefix s p), .bool (Lib.hasPrefix s p)]) := rsel_at inj98 r98 .any (s, p)
theorem hs98 (s : (List UInt8)) (p : (List UInt8)) : rsel e98 g98 [] [.str s, .str p] = ([]) := rsel_at inj98 g98 [] (s, p)
attribute [push_cast] S98 ps98 rs98 hs98
theorem con98 : Con Tryz.prog 98 S98 := by
  refine funS_below (fn := Tryz.f98) (by kernel_rfl) rfl (by kernel_rfl) inj98 (fun _ => rfl) fun m w x vs hW hx hp => ?_
  obtain ⟨s, p⟩ := x
  simp only [e98, CRel, VRel] at hx
  obtain ⟨_, _, rfl, rfl, _, _, rfl, rfl, rfl⟩ := hx
  refine Calls.mono (Tryz.strings_CutPrefix ⟨s.toArray⟩ ⟨p.toArray⟩ w) ?_
  rintro e w' ⟨rfl, rfl⟩
  exact ⟨_, rfl, by simp [r98, VRel, CRel], Below.refl _ _⟩
theorem dropNil (p : UInt8 → Bool) (l : List UInt8) : l.dropWhile p = [] ↔ ∀ x ∈ l, p x = true := by
  induction l with
  | nil => simp
  | cons c r ih =>
    rw [List.dropWhile_cons]
    split
    · rename_i hc; rw [ih]; simp [hc]
    · rename_i hc; simp [hc]
theorem dropBack (p : UInt8 → Bool) (c : UInt8) (r : List UInt8) : ((c :: r).reverse.dropWhile p).reverse = if r.all p then (if p c then [] else [c]) else c :: (r.reverse.dropWhile p).reverse := by
  rw [List.reverse_cons, List.dropWhile_append]
  have hz : r.reverse.dropWhile p = [] ↔ r.all p = true := by
    rw [dropNil, List.all_eq_true]
    exact ⟨fun h x hx => h x (List.mem_reverse.2 hx), fun h x hx => h x (List.mem_reverse.1 hx)⟩
  by_cases ha : r.all p = true
  · rw [if_pos ha, hz.2 ha]
    cases hc : p c <;> simp [hc]
  · rw [if_neg ha]
    have : (List.dropWhile p r.reverse).isEmpty = false := by
      rw [List.isEmpty_eq_false_iff]; exact fun h => ha (hz.1 h)
    rw [this]
    simp
theorem dropBoth (p : UInt8 → Bool) (l : List UInt8) : ((l.reverse.dropWhile p).reverse).dropWhile p = ((l.dropWhile p).reverse.dropWhile p).reverse := by
  induction l with
  | nil => rfl
  | cons c r ih =>
    rw [dropBack]
    cases hc : p c
    · rw [List.dropWhile_cons, hc]
      simp only [Bool.false_eq_true, if_false]
      rw [dropBack, hc]
      split <;> simp [List.dropWhile_cons, hc]
    · rw [List.dropWhile_cons, hc]
      simp only [if_true]
      rw [← ih]
      split
      · rename_i h
        have : r.reverse.dropWhile p = [] := by
          rw [dropNil]; intro x hx; exact List.all_eq_true.1 h x (List.mem_reverse.1 hx)
        rw [this]; rfl
      · rw [List.dropWhile_cons, hc]; rfl
theorem trim_is (s : List UInt8) : Go.Asm.trimF s = Lib.trimS s [32, 9, 13] := by
  have : (fun b : UInt8 => ([32, 9, 13] : List UInt8).contains b) = Go.Asm.blk := by
    funext b
    simp only [Go.Asm.blk, Bool.or_assoc, List.contains_cons, List.contains_nil, Bool.or_false]
  unfold Lib.trimS Lib.trimLeftS Lib.trimRightS Go.Asm.trimF
  rw [this, dropBoth]
/-- strings.Trim -/
def e37 : (List UInt8) → List AV := fun s => [.str s, .str [32, 9, 13]]
def p37 : (List UInt8) → Prop := fun s => s.length ≤ 4194304
def r37 : (List UInt8) → AV := fun s => .str (Go.Asm.trimF s)
def g37 : (List UInt8) → Heap := fun s => []
theorem inj37 : ∀ a b, e37 a = e37 b → a = b := by
  rintro s s' h
  simp only [e37, mi_iff, ms_iff, mb_iff, my_iff, UInt8.toNat_inj, List.cons.injEq, AV.int.injEq, AV.str.injEq, AV.bool.injEq, AV.sl.injEq, AV.agg.injEq, AV.ip.injEq, AV.fn.injEq, AV.ifc.injEq, AV.mpr.injEq, Int.natCast_inj, and_true, true_and] at h
  simp_all only
noncomputable def S37 : FSpec := funS e37 p37 r37 g37 true
theorem ps37 (s : (List UInt8)) : psel e37 p37 [.str s, .str [32, 9, 13]] = (s.length ≤ 4194304) := psel_at inj37 p37 s
theorem rs37 (s : (List UInt8)) : rsel e37 r37 .any [.str s, .str [32, 9, 13]] = (.str (Go.Asm.trimF s)) := rsel_at inj37 r37 .any s
theorem hs37 (s : (List UInt8)) : rsel e37 g37 [] [.str s, .str [32, 9, 13]] = ([]) := rsel_at inj37 g37 [] s
attribute [push_cast] S37 ps37 rs37 hs37
theorem con37 : Con Tryz.prog 37 S37 := by
  refine funS_below (fn := Tryz.f37) (by kernel_rfl) rfl (by kernel_rfl) inj37 (fun _ => rfl) fun m w s vs hW hx hp => ?_
  simp only [e37, CRel, VRel] at hx
  obtain ⟨_, _, rfl, rfl, _, _, rfl, rfl, rfl⟩ := hx
  have hs : s.length ≤ 4194304 := hp
  have := Any.strings_Trim_laid Tryz.lays160 (by kernel_rfl) ⟨s.toArray⟩ ⟨#[32, 9, 13]⟩ w (by simp [ByteArray.size]; omega) (by decide) (ascii_of_all (by decide))
  refine Calls.mono (show Calls Tryz.prog 37 #[.string ⟨s.toArray⟩, .string ⟨#[32, 9, 13]⟩] w _ from this) ?_
  rintro e w' ⟨rfl, hb⟩
  refine ⟨_, rfl, ?_, hb⟩
  simp only [r37, VRel]
  rw [trim_is]
/-- strconv.FormatUint -/
def e81 : (Int) → List AV := fun n => [.int .i64 n]
def p81 : (Int) → Prop := fun n => 0 ≤ n ∧ n < 100
def r81 : (Int) → AV := fun n => .str (Lib.itoa n)
def g81 : (Int) → Heap := fun n => []
theorem inj81 : ∀ a b, e81 a = e81 b → a = b := by
  rintro n n' h
  simp only [e81, mi_iff, ms_iff, mb_iff, my_iff, UInt8.toNat_inj, List.cons.injEq, AV.int.injEq, AV.str.injEq, AV.bool.injEq, AV.sl.injEq, AV.agg.injEq, AV.ip.injEq, AV.fn.injEq, AV.ifc.injEq, AV.mpr.injEq, Int.natCast_inj, and_true, true_and] at h
  simp_all only
noncomputable def S81 : FSpec := funS e81 p81 r81 g81 true
theorem ps81 (n : (Int)) : psel e81 p81 [.int .i64 n] = (0 ≤ n ∧ n < 100) := psel_at inj81 p81 n
theorem rs81 (n : (Int)) : rsel e81 r81 .any [.int .i64 n] = (.str (Lib.itoa n)) := rsel_at inj81 r81 .any n
theorem hs81 (n : (Int)) : rsel e81 g81 [] [.int .i64 n] = ([]) := rsel_at inj81 g81 [] n
attribute [push_cast] S81 ps81 rs81 hs81
theorem itoa_pos {n : Int} (h : 0 ≤ n) : Lib.itoa n = Lib.decDigits n.toNat := by rw [Lib.itoa, if_neg (by omega)]
theorem con81 : Con Tryz.prog 81 S81 := by
  refine funS_below (fn := Tryz.f81) (by kernel_rfl) rfl (by kernel_rfl) inj81 (fun _ => rfl) fun m w n vs hW hx hp => ?_
  obtain ⟨h0, h1⟩ := hp
  simp only [e81, CRel, VRel] at hx
  obtain ⟨_, _, rfl, rfl, rfl⟩ := hx
  have := Tryz.internal_strconv_small n.toNat (by omega) w
  rw [Int.toNat_of_nonneg h0] at this
  refine Calls.mono this ?_
  rintro e w' ⟨rfl, rfl⟩
  refine ⟨_, rfl, ?_, Below.refl _ _⟩
  simp only [r81, VRel, itoa_pos h0]
def e82 : (Int) → List AV := fun n => [.int .u64 n]
def p82 : (Int) → Prop := fun n => 1 ≤ n ∧ n ≤ 9999999999
def r82 : (Int) → AV := fun n => .int .i64 (Lib.nDigits n.toNat : Nat)
def g82 : (Int) → Heap := fun n => []
theorem inj82 : ∀ a b, e82 a = e82 b → a = b := by
  rintro n n' h
  simp only [e82, mi_iff, ms_iff, mb_iff, my_iff, UInt8.toNat_inj, List.cons.injEq, AV.int.injEq, AV.str.injEq, AV.bool.injEq, AV.sl.injEq, AV.agg.injEq, AV.ip.injEq, AV.fn.injEq, AV.ifc.injEq, AV.mpr.injEq, Int.natCast_inj, and_true, true_and] at h
  simp_all only
noncomputable def S82 : FSpec := funS e82 p82 r82 g82 true
theorem ps82 (n : (Int)) : psel e82 p82 [.int .u64 n] = (1 ≤ n ∧ n ≤ 9999999999) := psel_at inj82 p82 n
theorem rs82 (n : (Int)) : rsel e82 r82 .any [.int .u64 n] = (.int .i64 (Lib.nDigits n.toNat : Nat)) := rsel_at inj82 r82 .any n
theorem hs82 (n : (Int)) : rsel e82 g82 [] [.int .u64 n] = ([]) := rsel_at inj82 g82 [] n
attribute [push_cast] S82 ps82 rs82 hs82
theorem con82 : Con Tryz.prog 82 S82 := by
  refine funS_below (fn := Tryz.f82) (by kernel_rfl) rfl (by kernel_rfl) inj82 (fun _ => rfl) fun m w n vs hW hx hp => ?_
  obtain ⟨h0, h1⟩ := hp
  simp only [e82, CRel, VRel] at hx
  obtain ⟨_, _, rfl, rfl, rfl⟩ := hx
  have := Tryz.internal_strconv_numDigits n.toNat (by omega) (by omega) w (pow_tab hW)
  rw [Int.toNat_of_nonneg (by omega)] at this
  refine Calls.mono this ?_
  rintro e w' ⟨rfl, rfl⟩
  refine ⟨_, rfl, ?_, Below.refl _ _⟩
  simp only [r82, VRel]
abbrev bvE : UInt8 → Value := fun b => .int .u8 (b.toNat : Int)
/-- the digits are laid -/
theorem out_fmt {X : Cx} (hP : X.P = Tryz.prog) {fr : List AV} {L : Heap} {id bk u nd : Nat} {x y : Operand} (hx : opd fr x = .lit (.slice (some ⟨bk, 0, none⟩) nd 24)) (hy : opd fr y = .int .u64 ((u : Nat) : Int))
    (hL : L[id]? = some (.raw (.obj (some bk) (.cells (Array.replicate 24 (.int .u8 0)) 108 (0, 0))))) (hnd : nd ≤ 24) (hu : u < 10 ^ nd) (hu64 : u < 18446744073709551616) :
    ∀ m a w, RS X.B fr L m a w → Calls X.P 83 (#[x, y].map a.eval) w fun e w' => ∃ v u' m' L', e = .returned u' ∧ VRel m' L' v u' ∧ WRel m' L' w' ∧ Ext m L w m' L' w' ∧
      (v = .tup [] ∧ ∃ v' dk, Lib.FmtInv nd u 0 v' dk ∧ L' = L.set id (.raw (.obj (some bk) (.cells (Go.Sort.putCells bvE 0 dk (Array.replicate 24 (.int .u8 0))) 108 (0, 0))))) := by
  intro m a w hR
  have hxv : a.eval x = .slice (some ⟨bk, 0, none⟩) nd 24 := by
    have := opd_rel hR.frel x
    rw [hx] at this
    simpa only [VRel] using this
  have hyv : a.eval y = .int .u64 ((u : Nat) : Int) := by
    have := opd_rel hR.frel y
    rw [hy] at this
    simpa only [VRel] using this
  obtain ⟨_, hb, hbb, rfl⟩ := hR.wrel.iters id _ hL
  have hbe := hbb bk rfl
  have hb' := hb
  rw [hbe] at hb'
  have hlt : bk < w.heap.size := by
    rcases Nat.lt_or_ge bk w.heap.size with h | h
    · exact h
    · rw [Array.getElem?_eq_none h] at hb'; cases hb'
  have hH : Go.Sort.Holds bvE w bk 0 (Array.replicate nd 0) := by
    intro j hj
    rw [Array.size_replicate] at hj
    constructor
    · have : j < 24 := by omega
      simp [World.cell?, hb', this, hj]
    · simp [World.frozen?, hb']
  have := Tryz.internal_strconv_formatBase10 bk 0 24 u (Array.replicate nd 0) w hH (by rw [Array.size_replicate]; exact hu) hu64 (by rw [Array.size_replicate]; omega)
  rw [Array.size_replicate] at this
  rw [show #[x, y].map a.eval = #[.slice (some ⟨bk, 0, none⟩) nd 24, .int .u64 ((u : Nat) : Int)] by simp [hxv, hyv], hP]
  refine Calls.mono this ?_
  rintro e w' ⟨rfl, k, v', dk, rfl, hF⟩
  have hC : Chg w ((Go.Sort.putRow bvE w bk 0 dk).drewN k) (m.blk id) (.cells (Go.Sort.putCells bvE 0 dk (Array.replicate 24 (.int .u8 0))) 108 (0, 0)) := by
    rw [hbe]
    refine ⟨?_, fun g' hne _ => ?_, ?_, ⟨rfl, rfl, rfl⟩⟩
    · simp [Go.Sort.putRow, Go.Sort.mapBlock, World.drewN, Array.getElem?_modify, hb', Go.Sort.onCells]
    · simp [Go.Sort.putRow, Go.Sort.mapBlock, World.drewN, Array.getElem?_modify, hne.symm]
    · simp [Go.Sort.putRow, Go.Sort.mapBlock, World.drewN]
  obtain ⟨t1, t2⟩ := turn_raw (r := .obj (some bk) (.cells (Go.Sort.putCells bvE 0 dk (Array.replicate 24 (.int .u8 0))) 108 (0, 0))) hR.wrel hL hC ⟨fun x hx => by cases hx; exact hbe, rfl⟩
  exact ⟨.tup [], _, m, _, rfl, by simp [VRel, CRel], t1, t2, rfl, v', dk, hF, rfl⟩
def e46 : (Int) → List AV := fun n => [.int .u64 n, .int .i64 10]
def p46 : (Int) → Prop := fun n => 0 ≤ n ∧ n ≤ 9999999999
def r46 : (Int) → AV := fun n => .str (Lib.itoa n)
def g46 : (Int) → Heap := fun n => []
theorem inj46 : ∀ a b, e46 a = e46 b → a = b := by
  rintro n n' h
  simp only [e46, mi_iff, ms_iff, mb_iff, my_iff, UInt8.toNat_inj, List.cons.injEq, AV.int.injEq, AV.str.injEq, AV.bool.injEq, AV.sl.injEq, AV.agg.injEq, AV.ip.injEq, AV.fn.injEq, AV.ifc.injEq, AV.mpr.injEq, Int.natCast_inj, and_true, true_and] at h
  simp_all only
noncomputable def S46 : FSpec := funS e46 p46 r46 g46 true
theorem ps46 (n : (Int)) : psel e46 p46 [.int .u64 n, .int .i64 10] = (0 ≤ n ∧ n ≤ 9999999999) := psel_at inj46 p46 n
theorem rs46 (n : (Int)) : rsel e46 r46 .any [.int .u64 n, .int .i64 10] = (.str (Lib.itoa n)) := rsel_at inj46 r46 .any n
theorem hs46 (n : (Int)) : rsel e46 g46 [] [.int .u64 n, .int .i64 10] = ([]) := rsel_at inj46 g46 [] n
attribute [push_cast] S46 ps46 rs46 hs46
theorem body46 (Γ : Env) (h81 : Γ 81 = some S81) (h82 : Γ 82 = some S82) (n : Int) (h : 0 ≤ n ∧ n ≤ 9999999999) : BodyOk Tryz.prog Γ Tryz.f46 [.int .u64 n, .int .i64 10] [] (.str (Lib.itoa n)) [] := by
  have hk : IntKind.i64.wrap n = n := wr_i64 _ (by constructor <;> omega)
  by_cases h100 : n < 100
  · (intro X hP hΓ hL hfin; refine ⟨_, rfl, ?_⟩; rw [show Tryz.f46.ntmps = 32 from rfl]; rw [show Tryz.f46.results.toList = [.tmp 4] from rfl] at hfin; apply holds_of_ex X 400; simp (maxSteps := 1000000) only [push_cast, reduceCtorEq, Nat.reduceAdd, Nat.reduceMul, Nat.reduceSub, Nat.reduceBEq, Nat.reduceGT, Nat.reduceLT, Int.toNat_zero, Nat.reduceLeDiff, Int.reduceEq, Int.reduceLT, Int.reduceLE, hP, hΓ, hL, hfin, String.reduceEq, not_false_eq_true, if_true, if_false, Int.toNat_one, Bool.not_not, h81, h100, hk, h, and_self])
    exact Into.sameA
  have hnd : (Lib.decDigits n.toNat).length ≤ 10 := dec_len n.toNat (by omega)
  have hdl : (Lib.decDigits n.toNat).length = Lib.nDigits n.toNat := Lib.decDigits_length n.toNat
  have h1 : 1 ≤ n := by omega
  (intro X hP hΓ hL hfin; refine ⟨_, rfl, ?_⟩; rw [show Tryz.f46.ntmps = 32 from rfl]; rw [show Tryz.f46.results.toList = [.tmp 4] from rfl] at hfin; apply holds_of_ex X 11; simp (maxSteps := 1000000) only [push_cast, reduceCtorEq, Nat.reduceAdd, Nat.reduceMul, Nat.reduceSub, Nat.reduceBEq, Nat.reduceGT, Nat.reduceLT, Int.toNat_zero, Nat.reduceLeDiff, Int.reduceEq, Int.reduceLT, Int.reduceLE, hP, hΓ, hL, hfin, String.reduceEq, not_false_eq_true, if_true, if_false, Int.toNat_one, Bool.not_not, h81, h82, h100, hk, h, h1, and_self])
  (repeat (first | refine Holds.peel ?_ | refine Holds.peelB ?_ | refine Holds.peelS ?_ | refine Holds.peelL ?_ | refine Holds.peelN ?_))
  refine Holds.opIn 0 rfl rfl ?_
  simp (maxSteps := 1000000) only [↓reduceIte, Option.getD_some, push_cast, reduceCtorEq, Nat.reduceAdd, Nat.reduceMul, Nat.reduceSub, Nat.reduceBEq, Nat.reduceGT, Nat.reduceLT, Int.toNat_zero, Nat.reduceLeDiff, Int.reduceEq, Int.reduceLT, Int.reduceLE, hP, hΓ, hL, hfin, String.reduceEq, not_false_eq_true, if_true, if_false, Int.toNat_one, Bool.not_not]
  refine ⟨_, out_alloc rfl (z := .agg (Array.replicate 24 (.int .u8 0))) (by rw [hP]; kernel_rfl) rfl, ?_⟩
  rintro v L' ⟨bk, rfl, rfl⟩
  simp (maxSteps := 1000000) only [↓reduceIte, Option.getD_some, push_cast, reduceCtorEq, Nat.reduceAdd, Nat.reduceMul, Nat.reduceSub, Nat.reduceBEq, Nat.reduceGT, Nat.reduceLT, Int.toNat_zero, Nat.reduceLeDiff, Int.reduceEq, Int.reduceLT, Int.reduceLE, hP, hΓ, hL, hfin, String.reduceEq, not_false_eq_true, if_true, if_false, Int.toNat_one, Bool.not_not]
  ((first | with_reducible refine holds_of_ex X 2 _ _ _ ?_ | skip); simp (maxSteps := 1000000) only [push_cast, reduceCtorEq, Nat.reduceAdd, Nat.reduceMul, Nat.reduceSub, Nat.reduceBEq, Nat.reduceGT, Nat.reduceLT, Int.toNat_zero, Nat.reduceLeDiff, Int.reduceEq, Int.reduceLT, Int.reduceLE, hP, hΓ, hL, hfin, String.reduceEq, not_false_eq_true, if_true, if_false, Int.toNat_one, Bool.not_not,  h82, h1, h.2, and_self])
  (repeat (first | refine Holds.peel ?_ | refine Holds.peelB ?_ | refine Holds.peelS ?_ | refine Holds.peelL ?_ | refine Holds.peelN ?_))
  refine Holds.reg ?_
  refine RestIn.ev 1 ?_
  simp (maxSteps := 1000000) only [↓reduceIte, Option.getD_some, push_cast, reduceCtorEq, Nat.reduceAdd, Nat.reduceMul, Nat.reduceSub, Nat.reduceBEq, Nat.reduceGT, Nat.reduceLT, Int.toNat_zero, Nat.reduceLeDiff, Int.reduceEq, Int.reduceLT, Int.reduceLE, hP, hΓ, hL, hfin, String.reduceEq, not_false_eq_true, if_true, if_false, Int.toNat_one, Bool.not_not]
  have hnd24 : Lib.nDigits n.toNat ≤ 24 := by omega
  have hun : ((n.toNat : Nat) : Int) = n := Int.toNat_of_nonneg h.1
  have hz24 : (Value.agg (Array.replicate 24 (Value.int IntKind.u8 0))).cells = Array.replicate 24 (Value.int IntKind.u8 0) := rfl
  refine RestIn.op rfl (out_slice (N := 24) (e' := 5) (j := Lib.nDigits n.toNat) rfl (by rw [hP]; kernel_rfl) (by rw [hP]; kernel_rfl) (id := 0) (b := bk) rfl rfl hnd24 rfl) ?_
  rintro v L' ⟨rfl, rfl⟩
  refine RestIn.ev 1 ?_
  simp (maxSteps := 1000000) only [↓reduceIte, Option.getD_some, push_cast, reduceCtorEq, Nat.reduceAdd, Nat.reduceMul, Nat.reduceSub, Nat.reduceBEq, Nat.reduceGT, Nat.reduceLT, Int.toNat_zero, Nat.reduceLeDiff, Int.reduceEq, Int.reduceLT, Int.reduceLE, hP, hΓ, hL, hfin, String.reduceEq, not_false_eq_true, if_true, if_false, Int.toNat_one, Bool.not_not]
  refine RestIn.call (fn := Tryz.f83) rfl rfl (by rw [hP]; kernel_rfl) rfl (by kernel_rfl) (out_fmt hP (id := 0) (bk := bk) (u := n.toNat) (nd := Lib.nDigits n.toNat) rfl (by rw [hun]; rfl) (by rw [hz24]; rfl) hnd24 (Lib.lt_pow_nDigits _) (by omega)) ?_
  rintro v L' ⟨rfl, v', dk, hF, rfl⟩
  refine RestIn.nil ?_
  simp (maxSteps := 1000000) only [↓reduceIte, Option.getD_some, push_cast, reduceCtorEq, Nat.reduceAdd, Nat.reduceMul, Nat.reduceSub, Nat.reduceBEq, Nat.reduceGT, Nat.reduceLT, Int.toNat_zero, Nat.reduceLeDiff, Int.reduceEq, Int.reduceLT, Int.reduceLE, hP, hΓ, hL, hfin, String.reduceEq, not_false_eq_true, if_true, if_false, Int.toNat_one, Bool.not_not]
  (repeat (first | refine Holds.peel ?_ | refine Holds.peelB ?_ | refine Holds.peelS ?_ | refine Holds.peelL ?_ | refine Holds.peelN ?_))
  refine Holds.reg ?_
  refine RestIn.ev 1 ?_
  simp (maxSteps := 1000000) only [↓reduceIte, Option.getD_some, push_cast, reduceCtorEq, Nat.reduceAdd, Nat.reduceMul, Nat.reduceSub, Nat.reduceBEq, Nat.reduceGT, Nat.reduceLT, Int.toNat_zero, Nat.reduceLeDiff, Int.reduceEq, Int.reduceLT, Int.reduceLE, hP, hΓ, hL, hfin, String.reduceEq, not_false_eq_true, if_true, if_false, Int.toNat_one, Bool.not_not]
  refine RestIn.op rfl (out_slice (N := 24) (e' := 5) (j := Lib.nDigits n.toNat) rfl (by rw [hP]; kernel_rfl) (by rw [hP]; kernel_rfl) (id := 0) (b := bk) rfl rfl hnd24 rfl) ?_
  rintro v L' ⟨rfl, rfl⟩
  refine RestIn.op rfl (out_conv (l := Lib.decDigits n.toNat) (e := 5) rfl (by rw [hP]; kernel_rfl) (by rw [hP]; kernel_rfl) (by rw [hP]; kernel_rfl) (id := 0) (b := bk) rfl rfl hdl ?_) ?_
  · intro q hq
    rw [Lib.row_is_numeral hF q hq]
    have hq2 : q < dk.size := by rw [hF.size]; omega
    have hq3 : q < 24 := by omega
    simp [Go.Sort.putCells, hq2, hq3]
  rintro v L' ⟨rfl, rfl⟩
  refine RestIn.ev 1 ?_
  simp (maxSteps := 1000000) only [↓reduceIte, Option.getD_some, push_cast, reduceCtorEq, Nat.reduceAdd, Nat.reduceMul, Nat.reduceSub, Nat.reduceBEq, Nat.reduceGT, Nat.reduceLT, Int.toNat_zero, Nat.reduceLeDiff, Int.reduceEq, Int.reduceLT, Int.reduceLE, hP, hΓ, hL, hfin, String.reduceEq, not_false_eq_true, if_true, if_false, Int.toNat_one, Bool.not_not]
  refine RestIn.nil ?_
  rw [itoa_pos h.1] at hfin
  ((first | with_reducible refine holds_of_ex X 400 _ _ _ ?_ | skip); simp (maxSteps := 1000000) only [push_cast, reduceCtorEq, Nat.reduceAdd, Nat.reduceMul, Nat.reduceSub, Nat.reduceBEq, Nat.reduceGT, Nat.reduceLT, Int.toNat_zero, Nat.reduceLeDiff, Int.reduceEq, Int.reduceLT, Int.reduceLE, hP, hΓ, hL, hfin, String.reduceEq, not_false_eq_true, if_true, if_false, Int.toNat_one, Bool.not_not])
  exact Into.one rfl rfl
theorem con46 {Γ : Env} (h : EnvOk Tryz.prog Γ) (h81 : Γ 81 = some S81) (h82 : Γ 82 = some S82) : Con Tryz.prog 46 S46 :=
  funS_con h (fn := Tryz.f46) (by kernel_rfl) rfl (by kernel_rfl) inj46 (by first | (intro h; cases h; done) | exact fun _ _ => rfl) fun n h => body46 Γ h81 h82 n h
def e20 : (Int) → List AV := fun n => [.int .u64 n, .int .i64 10]
def p20 : (Int) → Prop := fun n => 0 ≤ n ∧ n ≤ 9999999999
def r20 : (Int) → AV := fun n => .str (Lib.itoa n)
def g20 : (Int) → Heap := fun n => []
theorem inj20 : ∀ a b, e20 a = e20 b → a = b := by
  rintro n n' h
  simp only [e20, mi_iff, ms_iff, mb_iff, my_iff, UInt8.toNat_inj, List.cons.injEq, AV.int.injEq, AV.str.injEq, AV.bool.injEq, AV.sl.injEq, AV.agg.injEq, AV.ip.injEq, AV.fn.injEq, AV.ifc.injEq, AV.mpr.injEq, Int.natCast_inj, and_true, true_and] at h
  simp_all only
noncomputable def S20 : FSpec := funS e20 p20 r20 g20 true
theorem ps20 (n : (Int)) : psel e20 p20 [.int .u64 n, .int .i64 10] = (0 ≤ n ∧ n ≤ 9999999999) := psel_at inj20 p20 n
theorem rs20 (n : (Int)) : rsel e20 r20 .any [.int .u64 n, .int .i64 10] = (.str (Lib.itoa n)) := rsel_at inj20 r20 .any n
theorem hs20 (n : (Int)) : rsel e20 g20 [] [.int .u64 n, .int .i64 10] = ([]) := rsel_at inj20 g20 [] n
attribute [push_cast] S20 ps20 rs20 hs20
theorem body20 (Γ : Env) (h46 : Γ 46 = some S46) (n : Int) (h : 0 ≤ n ∧ n ≤ 9999999999) : BodyOk Tryz.prog Γ Tryz.f20 [.int .u64 n, .int .i64 10] [] (.str (Lib.itoa n)) [] := by
  (intro X hP hΓ hL hfin; refine ⟨_, rfl, ?_⟩; rw [show Tryz.f20.ntmps = 8 from rfl]; rw [show Tryz.f20.results.toList = [.tmp 4] from rfl] at hfin; apply holds_of_ex X 400; simp (maxSteps := 1000000) only [push_cast, reduceCtorEq, Nat.reduceAdd, Nat.reduceMul, Nat.reduceSub, Nat.reduceBEq, Nat.reduceGT, Nat.reduceLT, Int.toNat_zero, Nat.reduceLeDiff, Int.reduceEq, Int.reduceLT, Int.reduceLE, hP, hΓ, hL, hfin, String.reduceEq, not_false_eq_true, if_true, if_false, Int.toNat_one, Bool.not_not, h46, h, and_self])
  exact Into.sameA
theorem con20 {Γ : Env} (h : EnvOk Tryz.prog Γ) (h46 : Γ 46 = some S46) : Con Tryz.prog 20 S20 :=
  funS_con h (fn := Tryz.f20) (by kernel_rfl) rfl (by kernel_rfl) inj20 (by first | (intro h; cases h; done) | exact fun _ _ => rfl) fun n h => body20 Γ h46 n h
end Go.Proofs.YtgemeilncdmapaaGreatDoor.asmDone
end
