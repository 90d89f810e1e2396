/- Of sources: the scanner's walk. Conditions stand in each. -/
import Derived.Test.YtlehfbdkjkgaeaaGreatDoorSL
import Derived.Test.YtlehfbdkjkgaeaaGreatDoorEng20
namespace Go.Proofs.YtlehfbdkjkgaeaaGreatDoor.scanDone
open Go Go.Eng Go.Proofs Go.Scan Go.RowKit
set_option linter.unusedVariables false
set_option linter.unusedSimpArgs false
set_option maxRecDepth 100000
set_option maxHeartbeats 4000000

def e23 : (Int) → List AV := fun n => [.int .i32 n]
def p23 : (Int) → Prop := fun n => True
def r23 : (Int) → AV := fun n => .bool (lett n)
def g23 : (Int) → Heap := fun n => []
theorem inj23 : ∀ a b, e23 a = e23 b → a = b := by
  rintro n n' h
  simp only [e23, mi_iff, ms_iff, mb_iff, my_iff, UInt8.toNat_inj, List.cons.injEq, AV.int.injEq, AV.str.injEq, AV.bool.injEq, AV.sl.injEq, AV.agg.injEq, AV.ip.injEq, AV.fn.injEq, AV.ifc.injEq, AV.mpr.injEq, Int.natCast_inj, and_true, true_and] at h
  simp_all only
noncomputable def S23 : FSpec := funS e23 p23 r23 g23 true
theorem ps23 (n : (Int)) : psel e23 p23 [.int .i32 n] = (True) := psel_at inj23 p23 n
theorem rs23 (n : (Int)) : rsel e23 r23 .any [.int .i32 n] = (.bool (lett n)) := rsel_at inj23 r23 .any n
theorem hs23 (n : (Int)) : rsel e23 g23 [] [.int .i32 n] = ([]) := rsel_at inj23 g23 [] n
attribute [push_cast] S23 ps23 rs23 hs23
theorem body23 (Γ : Env) (n : Int) : BodyOk Tryz.prog Γ Tryz.f21 (e23 n) [] (.bool (lett n)) [] := by
  (intro X hP hΓ hL hfin; refine ⟨_, rfl, ?_⟩; rw [show Tryz.f21.ntmps = 17 from rfl]; rw [show Tryz.f21.results.toList = [.tmp 2] from rfl] at hfin; apply holds_of_ex X 400; simp (maxSteps := 1000000) only [push_cast, reduceCtorEq, Nat.reduceAdd, Nat.reduceMul, Nat.reduceSub, Nat.reduceBEq, Nat.reduceGT, Nat.reduceLT, Int.toNat_zero, Nat.reduceLeDiff, Int.reduceEq, Int.reduceLT, Int.reduceLE, hP, hΓ, hL, hfin, String.reduceEq, not_false_eq_true, if_true, e23])
  exact Into.one rfl rfl
theorem con23 {Γ : Env} (h : EnvOk Tryz.prog Γ)  : Con Tryz.prog 21 S23 :=
  funS_con h (fn := Tryz.f21) (by kernel_rfl) rfl (by kernel_rfl) inj23 (by first | (intro h; cases h; done) | exact fun _ _ => rfl) fun n _ => body23 Γ n
def e25 : (Int) → List AV := fun n => [.int .i32 n]
def p25 : (Int) → Prop := fun n => True
def r25 : (Int) → AV := fun n => .bool (digi n)
def g25 : (Int) → Heap := fun n => []
theorem inj25 : ∀ a b, e25 a = e25 b → a = b := by
  rintro n n' h
  simp only [e25, mi_iff, ms_iff, mb_iff, my_iff, UInt8.toNat_inj, List.cons.injEq, AV.int.injEq, AV.str.injEq, AV.bool.injEq, AV.sl.injEq, AV.agg.injEq, AV.ip.injEq, AV.fn.injEq, AV.ifc.injEq, AV.mpr.injEq, Int.natCast_inj, and_true, true_and] at h
  simp_all only
noncomputable def S25 : FSpec := funS e25 p25 r25 g25 true
theorem ps25 (n : (Int)) : psel e25 p25 [.int .i32 n] = (True) := psel_at inj25 p25 n
theorem rs25 (n : (Int)) : rsel e25 r25 .any [.int .i32 n] = (.bool (digi n)) := rsel_at inj25 r25 .any n
theorem hs25 (n : (Int)) : rsel e25 g25 [] [.int .i32 n] = ([]) := rsel_at inj25 g25 [] n
attribute [push_cast] S25 ps25 rs25 hs25
theorem body25 (Γ : Env) (n : Int) : BodyOk Tryz.prog Γ Tryz.f23 (e25 n) [] (.bool (digi n)) [] := by
  (intro X hP hΓ hL hfin; refine ⟨_, rfl, ?_⟩; rw [show Tryz.f23.ntmps = 9 from rfl]; rw [show Tryz.f23.results.toList = [.tmp 2] from rfl] at hfin; apply holds_of_ex X 400; simp (maxSteps := 1000000) only [push_cast, reduceCtorEq, Nat.reduceAdd, Nat.reduceMul, Nat.reduceSub, Nat.reduceBEq, Nat.reduceGT, Nat.reduceLT, Int.toNat_zero, Nat.reduceLeDiff, Int.reduceEq, Int.reduceLT, Int.reduceLE, hP, hΓ, hL, hfin, String.reduceEq, not_false_eq_true, if_true, e25])
  exact Into.one rfl rfl
theorem con25 {Γ : Env} (h : EnvOk Tryz.prog Γ)  : Con Tryz.prog 23 S25 :=
  funS_con h (fn := Tryz.f23) (by kernel_rfl) rfl (by kernel_rfl) inj25 (by first | (intro h; cases h; done) | exact fun _ _ => rfl) fun n _ => body25 Γ n
def e24 : (Bytes) → List AV := fun l => [.str l]
def p24 : (Bytes) → Prop := fun l => True
def r24 : (Bytes) → AV := fun l => .bool (kws.contains l)
def g24 : (Bytes) → Heap := fun l => []
theorem inj24 : ∀ a b, e24 a = e24 b → a = b := by
  rintro l l' h
  simp only [e24, mi_iff, ms_iff, mb_iff, my_iff, UInt8.toNat_inj, List.cons.injEq, AV.int.injEq, AV.str.injEq, AV.bool.injEq, AV.sl.injEq, AV.agg.injEq, AV.ip.injEq, AV.fn.injEq, AV.ifc.injEq, AV.mpr.injEq, Int.natCast_inj, and_true, true_and] at h
  simp_all only
noncomputable def S24 : FSpec := funS e24 p24 r24 g24 true
theorem ps24 (l : (Bytes)) : psel e24 p24 [.str l] = (True) := psel_at inj24 p24 l
theorem rs24 (l : (Bytes)) : rsel e24 r24 .any [.str l] = (.bool (kws.contains l)) := rsel_at inj24 r24 .any l
theorem hs24 (l : (Bytes)) : rsel e24 g24 [] [.str l] = ([]) := rsel_at inj24 g24 [] l
attribute [push_cast] S24 ps24 rs24 hs24
theorem body24 (Γ : Env) (l : Bytes) : BodyOk Tryz.prog Γ Tryz.f22 (e24 l) [] (.bool (kws.contains l)) [] := by
  (intro X hP hΓ hL hfin; refine ⟨_, rfl, ?_⟩; rw [show Tryz.f22.ntmps = 37 from rfl]; rw [show Tryz.f22.results.toList = [.tmp 2] from rfl] at hfin; apply holds_of_ex X 400; simp (maxSteps := 1000000) only [push_cast, reduceCtorEq, Nat.reduceAdd, Nat.reduceMul, Nat.reduceSub, Nat.reduceBEq, Nat.reduceGT, Nat.reduceLT, Int.toNat_zero, Nat.reduceLeDiff, Int.reduceEq, Int.reduceLT, Int.reduceLE, hP, hΓ, hL, hfin, String.reduceEq, not_false_eq_true, if_true, e24])
  iterate 32
    refine exB_split (fun h => ?_) (fun h => ?_)
    · ((first | with_reducible refine holds_of_ex X 400 _ _ _ ?_ | skip); simp (maxSteps := 1000000) only [push_cast, reduceCtorEq, Nat.reduceAdd, Nat.reduceMul, Nat.reduceSub, Nat.reduceBEq, Nat.reduceGT, Nat.reduceLT, Int.toNat_zero, Nat.reduceLeDiff, Int.reduceEq, Int.reduceLT, Int.reduceLE, hP, hΓ, hL, hfin, String.reduceEq, not_false_eq_true, if_true, h])
      have e := eq_of_beq h
      subst e
      refine Into.one ?_ (by rfl)
      kernel_rfl
    ((first | with_reducible refine holds_of_ex X 400 _ _ _ ?_ | skip); simp (maxSteps := 1000000) only [push_cast, reduceCtorEq, Nat.reduceAdd, Nat.reduceMul, Nat.reduceSub, Nat.reduceBEq, Nat.reduceGT, Nat.reduceLT, Int.toNat_zero, Nat.reduceLeDiff, Int.reduceEq, Int.reduceLT, Int.reduceLE, hP, hΓ, hL, hfin, String.reduceEq, not_false_eq_true, if_true, h])
  refine Into.one ?_ (by rfl)
  simp only [kws, List.contains_cons, *, Bool.false_or]; rfl
theorem con24 {Γ : Env} (h : EnvOk Tryz.prog Γ)  : Con Tryz.prog 22 S24 :=
  funS_con h (fn := Tryz.f22) (by kernel_rfl) rfl (by kernel_rfl) inj24 (by first | (intro h; cases h; done) | exact fun _ _ => rfl) fun l _ => body24 Γ l
def e22 : (Bytes) → List AV := fun l => [.str l]
def p22 : (Bytes) → Prop := fun l => l.length ≤ 4194304
def r22 : (Bytes) → AV := fun l => .str (l.takeWhile alnum)
def g22 : (Bytes) → Heap := fun l => []
theorem inj22 : ∀ a b, e22 a = e22 b → a = b := by
  rintro l l' h
  simp only [e22, mi_iff, ms_iff, mb_iff, my_iff, UInt8.toNat_inj, List.cons.injEq, AV.int.injEq, AV.str.injEq, AV.bool.injEq, AV.sl.injEq, AV.agg.injEq, AV.ip.injEq, AV.fn.injEq, AV.ifc.injEq, AV.mpr.injEq, Int.natCast_inj, and_true, true_and] at h
  simp_all only
noncomputable def S22 : FSpec := funS e22 p22 r22 g22 true
theorem ps22 (l : (Bytes)) : psel e22 p22 [.str l] = (l.length ≤ 4194304) := psel_at inj22 p22 l
theorem rs22 (l : (Bytes)) : rsel e22 r22 .any [.str l] = (.str (l.takeWhile alnum)) := rsel_at inj22 r22 .any l
theorem hs22 (l : (Bytes)) : rsel e22 g22 [] [.str l] = ([]) := rsel_at inj22 g22 [] l
attribute [push_cast] S22 ps22 rs22 hs22
theorem body22 (Γ : Env) (h23 : Γ 21 = some S23) (h25 : Γ 23 = some S25) (l : Bytes) (hl : l.length ≤ 4194304) : BodyOk Tryz.prog Γ Tryz.f20 (e22 l) [] (.str (l.takeWhile alnum)) [] := by
  (intro X hP hΓ hL hfin; refine ⟨_, rfl, ?_⟩; rw [show Tryz.f20.ntmps = 23 from rfl]; rw [show Tryz.f20.results.toList = [.tmp 2] from rfl] at hfin; apply holds_of_ex X 400; simp (maxSteps := 1000000) only [push_cast, reduceCtorEq, Nat.reduceAdd, Nat.reduceMul, Nat.reduceSub, Nat.reduceBEq, Nat.reduceGT, Nat.reduceLT, Int.toNat_zero, Nat.reduceLeDiff, Int.reduceEq, Int.reduceLT, Int.reduceLE, hP, hΓ, hL, hfin, String.reduceEq, not_false_eq_true, if_true, e22, h23, h25])
  refine Holds.loopM (ι := {k : Nat // k ≤ l.length ∧ ∀ j < k, alnum (l.getD j 0) = true}) [true, false, false, false, false, false, true, false, false, false, false, false, false, false, false, false, false, false, false, false, false, false, false] (fun i => [(6, .ref 0 0 0)]) (fun i => [.raw (.iter l i.1)]) (fun i => l.length - i.1) ⟨0, Nat.zero_le _, by simp⟩ ?_ ?_
  · (rw [hL]; simp only [push_cast, Int.natCast_zero]; exact Into.sameA)
  rintro ⟨k, hk, hg⟩
  ((first | with_reducible refine holds_of_ex X 400 _ _ _ ?_ | skip); simp (maxSteps := 1000000) only [push_cast, reduceCtorEq, Nat.reduceAdd, Nat.reduceMul, Nat.reduceSub, Nat.reduceBEq, Nat.reduceGT, Nat.reduceLT, Int.toNat_zero, Nat.reduceLeDiff, Int.reduceEq, Int.reduceLT, Int.reduceLE, hP, hΓ, hL, hfin, String.reduceEq, not_false_eq_true, if_true])
  ((with_reducible refine exB_split (fun h => ?_) (fun h => ?_)) <;> (try simp only [decide_eq_true_eq, decide_eq_false_iff_not, Bool.and_eq_true, Bool.or_eq_true, Bool.and_eq_false_iff, Bool.or_eq_false_iff, Bool.not_eq_true', Bool.not_eq_false', Bool.not_eq_true, Bool.not_eq_false, Int.not_lt, Int.not_le, beq_iff_eq, beq_eq_false_iff_ne, ne_eq] at h))
  · have hk' : k < l.length := by omega
    have hcut : alnum (l.getD k 0) = false → l.take k = l.takeWhile alnum := fun h => by
      have := (tw_at hg hk' h).1
      rw [← this]
      exact (List.prefix_iff_eq_take.1 (List.takeWhile_prefix _)).symm
    by_cases hc : (l.getD k 0).toNat < 128
    · have hr := rune_lo hk' hc
      ((first | with_reducible refine holds_of_ex X 400 _ _ _ ?_ | skip); simp (maxSteps := 1000000) only [push_cast, reduceCtorEq, Nat.reduceAdd, Nat.reduceMul, Nat.reduceSub, Nat.reduceBEq, Nat.reduceGT, Nat.reduceLT, Int.toNat_zero, Nat.reduceLeDiff, Int.reduceEq, Int.reduceLT, Int.reduceLE, hP, hΓ, hL, hfin, String.reduceEq, not_false_eq_true, if_true, h23, h25, hr, hk'])
      ((with_reducible refine exB_split (fun h => ?_) (fun h => ?_)) <;> (try simp only [decide_eq_true_eq, decide_eq_false_iff_not, Bool.and_eq_true, Bool.or_eq_true, Bool.and_eq_false_iff, Bool.or_eq_false_iff, Bool.not_eq_true', Bool.not_eq_false', Bool.not_eq_true, Bool.not_eq_false, Int.not_lt, Int.not_le, beq_iff_eq, beq_eq_false_iff_ne, ne_eq] at h))
      · have ha : alnum (l.getD k 0) = false := by rw [alnum, h.1, h.2]; rfl
        ((first | with_reducible refine holds_of_ex X 400 _ _ _ ?_ | skip); simp (maxSteps := 1000000) only [push_cast, reduceCtorEq, Nat.reduceAdd, Nat.reduceMul, Nat.reduceSub, Nat.reduceBEq, Nat.reduceGT, Nat.reduceLT, Int.toNat_zero, Nat.reduceLeDiff, Int.reduceEq, Int.reduceLT, Int.reduceLE, hP, hΓ, hL, hfin, String.reduceEq, not_false_eq_true, if_true])
        refine ⟨by omega, ?_⟩
        rw [hcut ha]
        exact Into.keep0A
      · have ha : alnum (l.getD k 0) = true := by
          rw [alnum]; revert h
          cases lett ↑(l.getD k 0).toNat <;> cases digi ↑(l.getD k 0).toNat <;> simp
        ((first | with_reducible refine holds_of_ex X 400 _ _ _ ?_ | skip); simp (maxSteps := 1000000) only [push_cast, reduceCtorEq, Nat.reduceAdd, Nat.reduceMul, Nat.reduceSub, Nat.reduceBEq, Nat.reduceGT, Nat.reduceLT, Int.toNat_zero, Nat.reduceLeDiff, Int.reduceEq, Int.reduceLT, Int.reduceLE, hP, hΓ, hL, hfin, String.reduceEq, not_false_eq_true, if_true, hk'])
        refine ⟨⟨k + 1, hk', fun j hj => ?_⟩, by simp only; omega, ?_⟩
        · rcases Nat.lt_succ_iff_lt_or_eq.1 hj with h' | rfl
          · exact hg j h'
          · exact ha
        exact Into.sameA
    · have hr := rune_hi hk' (by omega)
      have h1 : lett ((runeAt l k).1 : Int) = false := by simp [lett]; omega
      have h2 : digi ((runeAt l k).1 : Int) = false := by simp [digi]; omega
      have ha : alnum (l.getD k 0) = false := by
        generalize l.getD k 0 = c at hc ⊢
        simp [alnum, lett, digi]; omega
      ((first | with_reducible refine holds_of_ex X 400 _ _ _ ?_ | skip); simp (maxSteps := 1000000) only [push_cast, reduceCtorEq, Nat.reduceAdd, Nat.reduceMul, Nat.reduceSub, Nat.reduceBEq, Nat.reduceGT, Nat.reduceLT, Int.toNat_zero, Nat.reduceLeDiff, Int.reduceEq, Int.reduceLT, Int.reduceLE, hP, hΓ, hL, hfin, String.reduceEq, not_false_eq_true, if_true, h23, h25, h1, h2, hk'])
      refine ⟨by omega, ?_⟩
      rw [hcut ha]
      exact Into.keep0A
  · ((first | with_reducible refine holds_of_ex X 400 _ _ _ ?_ | skip); simp (maxSteps := 1000000) only [push_cast, reduceCtorEq, Nat.reduceAdd, Nat.reduceMul, Nat.reduceSub, Nat.reduceBEq, Nat.reduceGT, Nat.reduceLT, Int.toNat_zero, Nat.reduceLeDiff, Int.reduceEq, Int.reduceLT, Int.reduceLE, hP, hΓ, hL, hfin, String.reduceEq, not_false_eq_true, if_true])
    obtain rfl : k = l.length := by omega
    have hall : l.all alnum = true := by
      rw [List.all_eq_true]
      intro c hc
      obtain ⟨i, hi, e⟩ := List.mem_iff_getElem.1 hc
      have := hg i hi
      rw [← e]; simpa [List.getD, hi] using this
    have hself : l.takeWhile alnum = l := by simpa using tw_app (rest := []) hall (by intro c r h; cases h)
    rw [hself]
    exact Into.keep0A
theorem con22 {Γ : Env} (h : EnvOk Tryz.prog Γ) (h23 : Γ 21 = some S23) (h25 : Γ 23 = some S25) : Con Tryz.prog 20 S22 :=
  funS_con h (fn := Tryz.f20) (by kernel_rfl) rfl (by kernel_rfl) inj22 (by first | (intro h; cases h; done) | exact fun _ _ => rfl) fun l hl => body22 Γ h23 h25 l hl
/-- a number's token -/
def rN (w : Bytes) : AV := match numb w with
  | some (k, n) => .tup [.agg [.int .i64 k, .str [], .int .i64 n, .int .i64 0], .int .i64 0]
  | none => .tup [.agg [.int .i64 0, .str [], .int .i64 0, .int .i64 0], .int .i64 82]
theorem suf1 (s : Bytes) (c : UInt8) : sufB s [c] = decide (s.getLast? = some c) := suf_last s c
theorem al_ascii {s : Bytes} (h : s.all alnum = true) : ∀ c ∈ s, c.toNat < 128 := by
  intro c hc
  have := (List.all_eq_true.1 h) c hc
  simp only [alnum, lett, digi, Bool.or_eq_true, Bool.and_eq_true, decide_eq_true_eq] at this
  omega
theorem pux0 (n : Nat) : puX (n, 0) = .lit .nilIface := rfl
theorem pux1 (n e : Nat) (h : e ≠ 0) : puX (n, e) = .ifc 103 .any := by simp [puX, h]
def pN (w : Bytes) : Prop := w.length ≤ 4194304 ∧ w.all alnum = true ∧ ∃ c r, w = c :: r ∧ digi c.toNat = true
theorem dl_ne {w : Bytes} (h : pN w) {c : UInt8} (hc : w.getLast? = some c) (hd : digi c.toNat = false) : w.dropLast ≠ [] := by
  obtain ⟨_, _, x, r, rfl, hx⟩ := h
  intro e
  cases r with
  | nil => simp at hc; subst hc; rw [hd] at hx; cases hx
  | cons y r => simp at e
theorem all_dl {w : Bytes} (h : w.all alnum = true) : w.dropLast.all alnum = true := by
  rw [List.all_eq_true] at *
  intro c hc
  exact h c (List.dropLast_subset w hc)
theorem i32_sgn (n : Nat) (h : n ≤ 4294967295) : IntKind.i32.wrap (n : Int) = sgn32 n := by
  simp only [sgn32]
  split <;> (simp [IntKind.wrap, IntKind.bits, IntKind.signed]; omega)
theorem sgn_in (n : Nat) (h : n ≤ 4294967295) : IntKind.i64.wrap (sgn32 n) = sgn32 n := by
  simp only [sgn32]
  split <;> (rw [wr_i64 _ (by constructor <;> omega)])
theorem body26H (Γ : Env) (h32 : Γ 40 = some S32) (h33 : Γ 41 = some S33) (h34 : Γ 42 = some S34) (w : Bytes) (hw : pN w) (hH : w.getLast? = some 72) : BodyOk Tryz.prog Γ Tryz.f24 [.str w] [] (rN w) [] := by
  have hne := dl_ne hw hH (by decide)
  have hs : sufB w [72] = true := by rw [suf1, hH]; rfl
  have ht : w.take (w.length - 1) = w.dropLast := (List.dropLast_eq_take).symm
  have hl : w.dropLast.length ≤ 4194304 := by have := hw.1; rw [List.length_dropLast]; omega
  have hasc := al_ascii (all_dl hw.2.1)
  have hr : rN w = match numM hexD 16 4294967295 w.dropLast with
    | some n => .tup [.agg [.int .i64 3, .str [], .int .i64 (sgn32 n), .int .i64 0], .int .i64 0]
    | none => .tup [.agg [.int .i64 0, .str [], .int .i64 0, .int .i64 0], .int .i64 82] := by
    unfold rN numb
    rw [if_pos hH]
    cases numM hexD 16 4294967295 (w.dropLast) <;> rfl
  rw [num16 _ hne _ (by decide)] at hr
  generalize hx : puR (w.dropLast) 16 = x at hr
  obtain ⟨n, e⟩ := x
  have hV : (puR (w.dropLast) 16).1 = n := by rw [hx]
  have hX : puX (puR (w.dropLast) 16) = puX (n, e) := by rw [hx]
  have i16 : (16 : Int).toNat = 16 := rfl
  have i10 : (10 : Int).toNat = 10 := rfl
  simp only at hr
  by_cases he : e = 0
  · subst he
    (intro X hP hΓ hL hfin; refine ⟨_, rfl, ?_⟩; rw [show Tryz.f24.ntmps = 65 from rfl]; rw [show Tryz.f24.results.toList = [.cell 2 29, .tmp 3] from rfl] at hfin; apply holds_of_ex X 400; simp (maxSteps := 1000000) only [push_cast, reduceCtorEq, Nat.reduceAdd, Nat.reduceMul, Nat.reduceSub, Nat.reduceBEq, Nat.reduceGT, Nat.reduceLT, Int.toNat_zero, Nat.reduceLeDiff, Int.reduceEq, Int.reduceLT, Int.reduceLE, hP, hΓ, hL, hfin, String.reduceEq, not_false_eq_true, if_true, h32, h33, h34, hs, ht, eq_self, if_true, i16, i10, hV, hX, pux0])
    refine ⟨hw.1, hl, fun _ => ⟨hl, hasc⟩, ?_⟩
    ((with_reducible refine exB_split (fun h => ?_) (fun h => ?_)) <;> (try simp only [decide_eq_true_eq, decide_eq_false_iff_not, Bool.and_eq_true, Bool.or_eq_true, Bool.and_eq_false_iff, Bool.or_eq_false_iff, Bool.not_eq_true', Bool.not_eq_false', Bool.not_eq_true, Bool.not_eq_false, Int.not_lt, Int.not_le, beq_iff_eq, beq_eq_false_iff_ne, ne_eq] at h))
    · rw [if_neg (by rintro ⟨_, h2, h3⟩; rcases h with h | h; omega; exact h h3)] at hr
      ((first | with_reducible refine holds_of_ex X 400 _ _ _ ?_ | skip); simp (maxSteps := 1000000) only [push_cast, reduceCtorEq, Nat.reduceAdd, Nat.reduceMul, Nat.reduceSub, Nat.reduceBEq, Nat.reduceGT, Nat.reduceLT, Int.toNat_zero, Nat.reduceLeDiff, Int.reduceEq, Int.reduceLT, Int.reduceLE, hP, hΓ, hL, hfin, String.reduceEq, not_false_eq_true, if_true])
      rw [hr]
      exact Into.keep0A
    · rw [if_pos ⟨rfl, by omega, by first | exact h.2 | exact Classical.byContradiction fun hh => h.2 hh⟩] at hr
      have hn : n ≤ 4294967295 := by omega
      ((first | with_reducible refine holds_of_ex X 400 _ _ _ ?_ | skip); simp (maxSteps := 1000000) only [push_cast, reduceCtorEq, Nat.reduceAdd, Nat.reduceMul, Nat.reduceSub, Nat.reduceBEq, Nat.reduceGT, Nat.reduceLT, Int.toNat_zero, Nat.reduceLeDiff, Int.reduceEq, Int.reduceLT, Int.reduceLE, hP, hΓ, hL, hfin, String.reduceEq, not_false_eq_true, if_true, i32_sgn n hn, sgn_in n hn, wr_i64 (n : Int) (by constructor <;> omega)])
      rw [hr]
      exact Into.keep0A
  · have hp := pux1 n e he
    rw [if_neg (fun h => he h.1)] at hr
    (intro X hP hΓ hL hfin; refine ⟨_, rfl, ?_⟩; rw [show Tryz.f24.ntmps = 65 from rfl]; rw [show Tryz.f24.results.toList = [.cell 2 29, .tmp 3] from rfl] at hfin; apply holds_of_ex X 400; simp (maxSteps := 1000000) only [push_cast, reduceCtorEq, Nat.reduceAdd, Nat.reduceMul, Nat.reduceSub, Nat.reduceBEq, Nat.reduceGT, Nat.reduceLT, Int.toNat_zero, Nat.reduceLeDiff, Int.reduceEq, Int.reduceLT, Int.reduceLE, hP, hΓ, hL, hfin, String.reduceEq, not_false_eq_true, if_true, h32, h33, h34, hs, ht, eq_self, if_true, i16, i10, hV, hX, hp])
    refine ⟨hw.1, hl, ?_⟩
    rw [hr]
    exact Into.keep0A
theorem body26X (Γ : Env) (h32 : Γ 40 = some S32) (h33 : Γ 41 = some S33) (h34 : Γ 42 = some S34) (w : Bytes) (hw : pN w) (hH : w.getLast? = some 88) : BodyOk Tryz.prog Γ Tryz.f24 [.str w] [] (rN w) [] := by
  have hne := dl_ne hw hH (by decide)
  have hs0 : sufB w [72] = false := by rw [suf1, hH]; rfl
  have hs : sufB w [88] = true := by rw [suf1, hH]; rfl
  have ht : w.take (w.length - 1) = w.dropLast := (List.dropLast_eq_take).symm
  have hl : w.dropLast.length ≤ 4194304 := by have := hw.1; rw [List.length_dropLast]; omega
  have hasc := al_ascii (all_dl hw.2.1)
  have hr : rN w = match numM hexD 16 255 w.dropLast with
    | some n => .tup [.agg [.int .i64 4, .str [], .int .i64 (n : Int), .int .i64 0], .int .i64 0]
    | none => .tup [.agg [.int .i64 0, .str [], .int .i64 0, .int .i64 0], .int .i64 82] := by
    unfold rN numb
    rw [if_neg (by rw [hH]; decide), if_pos hH]
    cases numM hexD 16 255 (w.dropLast) <;> rfl
  rw [num16 _ hne _ (by decide)] at hr
  generalize hx : puR (w.dropLast) 16 = x at hr
  obtain ⟨n, e⟩ := x
  have hV : (puR (w.dropLast) 16).1 = n := by rw [hx]
  have hX : puX (puR (w.dropLast) 16) = puX (n, e) := by rw [hx]
  have i16 : (16 : Int).toNat = 16 := rfl
  have i10 : (10 : Int).toNat = 10 := rfl
  simp only at hr
  by_cases he : e = 0
  · subst he
    (intro X hP hΓ hL hfin; refine ⟨_, rfl, ?_⟩; rw [show Tryz.f24.ntmps = 65 from rfl]; rw [show Tryz.f24.results.toList = [.cell 2 29, .tmp 3] from rfl] at hfin; apply holds_of_ex X 400; simp (maxSteps := 1000000) only [push_cast, reduceCtorEq, Nat.reduceAdd, Nat.reduceMul, Nat.reduceSub, Nat.reduceBEq, Nat.reduceGT, Nat.reduceLT, Int.toNat_zero, Nat.reduceLeDiff, Int.reduceEq, Int.reduceLT, Int.reduceLE, hP, hΓ, hL, hfin, String.reduceEq, not_false_eq_true, if_true, h32, h33, h34, hs0, hs, ht, Bool.false_eq_true, if_false, eq_self, if_true, i16, i10, hV, hX, pux0])
    refine ⟨hw.1, hw.1, hl, fun _ => ⟨hl, hasc⟩, ?_⟩
    ((with_reducible refine exB_split (fun h => ?_) (fun h => ?_)) <;> (try simp only [decide_eq_true_eq, decide_eq_false_iff_not, Bool.and_eq_true, Bool.or_eq_true, Bool.and_eq_false_iff, Bool.or_eq_false_iff, Bool.not_eq_true', Bool.not_eq_false', Bool.not_eq_true, Bool.not_eq_false, Int.not_lt, Int.not_le, beq_iff_eq, beq_eq_false_iff_ne, ne_eq] at h))
    · rw [if_neg (by rintro ⟨_, h2, h3⟩; rcases h with h | h; omega; exact h h3)] at hr
      ((first | with_reducible refine holds_of_ex X 400 _ _ _ ?_ | skip); simp (maxSteps := 1000000) only [push_cast, reduceCtorEq, Nat.reduceAdd, Nat.reduceMul, Nat.reduceSub, Nat.reduceBEq, Nat.reduceGT, Nat.reduceLT, Int.toNat_zero, Nat.reduceLeDiff, Int.reduceEq, Int.reduceLT, Int.reduceLE, hP, hΓ, hL, hfin, String.reduceEq, not_false_eq_true, if_true])
      rw [hr]
      exact Into.keep0A
    · rw [if_pos ⟨rfl, by omega, by first | exact h.2 | exact Classical.byContradiction fun hh => h.2 hh⟩] at hr
      have hn : n ≤ 255 := by omega
      ((first | with_reducible refine holds_of_ex X 400 _ _ _ ?_ | skip); simp (maxSteps := 1000000) only [push_cast, reduceCtorEq, Nat.reduceAdd, Nat.reduceMul, Nat.reduceSub, Nat.reduceBEq, Nat.reduceGT, Nat.reduceLT, Int.toNat_zero, Nat.reduceLeDiff, Int.reduceEq, Int.reduceLT, Int.reduceLE, hP, hΓ, hL, hfin, String.reduceEq, not_false_eq_true, if_true, wr_i64 (n : Int) (by constructor <;> omega)])
      rw [hr]
      exact Into.keep0A
  · have hp := pux1 n e he
    rw [if_neg (fun h => he h.1)] at hr
    (intro X hP hΓ hL hfin; refine ⟨_, rfl, ?_⟩; rw [show Tryz.f24.ntmps = 65 from rfl]; rw [show Tryz.f24.results.toList = [.cell 2 29, .tmp 3] from rfl] at hfin; apply holds_of_ex X 400; simp (maxSteps := 1000000) only [push_cast, reduceCtorEq, Nat.reduceAdd, Nat.reduceMul, Nat.reduceSub, Nat.reduceBEq, Nat.reduceGT, Nat.reduceLT, Int.toNat_zero, Nat.reduceLeDiff, Int.reduceEq, Int.reduceLT, Int.reduceLE, hP, hΓ, hL, hfin, String.reduceEq, not_false_eq_true, if_true, h32, h33, h34, hs0, hs, ht, Bool.false_eq_true, if_false, eq_self, if_true, i16, i10, hV, hX, hp])
    refine ⟨hw.1, hw.1, hl, ?_⟩
    rw [hr]
    exact Into.keep0A
theorem body26D (Γ : Env) (h32 : Γ 40 = some S32) (h33 : Γ 41 = some S33) (h34 : Γ 42 = some S34) (w : Bytes) (hw : pN w) (hH : w.getLast? ≠ some 72) (hX : w.getLast? ≠ some 88) : BodyOk Tryz.prog Γ Tryz.f24 [.str w] [] (rN w) [] := by
  have hne : w ≠ [] := by obtain ⟨_, _, c, r, rfl, _⟩ := hw; simp
  have hs0 : sufB w [72] = false := by rw [suf1]; simp [hH]
  have hs : sufB w [88] = false := by rw [suf1]; simp [hX]
  have hl := hw.1
  have hasc := al_ascii hw.2.1
  have hr : rN w = match numM decD 10 2147483647 w with
    | some n => .tup [.agg [.int .i64 3, .str [], .int .i64 (n : Int), .int .i64 0], .int .i64 0]
    | none => .tup [.agg [.int .i64 0, .str [], .int .i64 0, .int .i64 0], .int .i64 82] := by
    unfold rN numb
    rw [if_neg hH, if_neg hX]
    cases numM decD 10 2147483647 (w) <;> rfl
  rw [num10 _ hne _ (by decide)] at hr
  generalize hx : puR (w) 10 = x at hr
  obtain ⟨n, e⟩ := x
  have hV : (puR (w) 10).1 = n := by rw [hx]
  have hX : puX (puR (w) 10) = puX (n, e) := by rw [hx]
  have i16 : (16 : Int).toNat = 16 := rfl
  have i10 : (10 : Int).toNat = 10 := rfl
  simp only at hr
  by_cases he : e = 0
  · subst he
    (intro X hP hΓ hL hfin; refine ⟨_, rfl, ?_⟩; rw [show Tryz.f24.ntmps = 65 from rfl]; rw [show Tryz.f24.results.toList = [.cell 2 29, .tmp 3] from rfl] at hfin; apply holds_of_ex X 400; simp (maxSteps := 1000000) only [push_cast, reduceCtorEq, Nat.reduceAdd, Nat.reduceMul, Nat.reduceSub, Nat.reduceBEq, Nat.reduceGT, Nat.reduceLT, Int.toNat_zero, Nat.reduceLeDiff, Int.reduceEq, Int.reduceLT, Int.reduceLE, hP, hΓ, hL, hfin, String.reduceEq, not_false_eq_true, if_true, h32, h33, h34, hs0, hs, Bool.false_eq_true, if_false, eq_self, if_true, i16, i10, hV, hX, pux0])
    refine ⟨hw.1, hw.1, hl, fun _ => ⟨hl, hasc⟩, ?_⟩
    ((with_reducible refine exB_split (fun h => ?_) (fun h => ?_)) <;> (try simp only [decide_eq_true_eq, decide_eq_false_iff_not, Bool.and_eq_true, Bool.or_eq_true, Bool.and_eq_false_iff, Bool.or_eq_false_iff, Bool.not_eq_true', Bool.not_eq_false', Bool.not_eq_true, Bool.not_eq_false, Int.not_lt, Int.not_le, beq_iff_eq, beq_eq_false_iff_ne, ne_eq] at h))
    · rw [if_neg (by rintro ⟨_, h2, h3⟩; rcases h with h | h; omega; exact h h3)] at hr
      ((first | with_reducible refine holds_of_ex X 400 _ _ _ ?_ | skip); simp (maxSteps := 1000000) only [push_cast, reduceCtorEq, Nat.reduceAdd, Nat.reduceMul, Nat.reduceSub, Nat.reduceBEq, Nat.reduceGT, Nat.reduceLT, Int.toNat_zero, Nat.reduceLeDiff, Int.reduceEq, Int.reduceLT, Int.reduceLE, hP, hΓ, hL, hfin, String.reduceEq, not_false_eq_true, if_true])
      rw [hr]
      exact Into.keep0A
    · rw [if_pos ⟨rfl, by omega, by first | exact h.2 | exact Classical.byContradiction fun hh => h.2 hh⟩] at hr
      have hn : n ≤ 2147483647 := by omega
      ((first | with_reducible refine holds_of_ex X 400 _ _ _ ?_ | skip); simp (maxSteps := 1000000) only [push_cast, reduceCtorEq, Nat.reduceAdd, Nat.reduceMul, Nat.reduceSub, Nat.reduceBEq, Nat.reduceGT, Nat.reduceLT, Int.toNat_zero, Nat.reduceLeDiff, Int.reduceEq, Int.reduceLT, Int.reduceLE, hP, hΓ, hL, hfin, String.reduceEq, not_false_eq_true, if_true, wr_i64 (n : Int) (by constructor <;> omega)])
      rw [hr]
      exact Into.keep0A
  · have hp := pux1 n e he
    rw [if_neg (fun h => he h.1)] at hr
    (intro X hP hΓ hL hfin; refine ⟨_, rfl, ?_⟩; rw [show Tryz.f24.ntmps = 65 from rfl]; rw [show Tryz.f24.results.toList = [.cell 2 29, .tmp 3] from rfl] at hfin; apply holds_of_ex X 400; simp (maxSteps := 1000000) only [push_cast, reduceCtorEq, Nat.reduceAdd, Nat.reduceMul, Nat.reduceSub, Nat.reduceBEq, Nat.reduceGT, Nat.reduceLT, Int.toNat_zero, Nat.reduceLeDiff, Int.reduceEq, Int.reduceLT, Int.reduceLE, hP, hΓ, hL, hfin, String.reduceEq, not_false_eq_true, if_true, h32, h33, h34, hs0, hs, Bool.false_eq_true, if_false, eq_self, if_true, i16, i10, hV, hX, hp])
    refine ⟨hw.1, hw.1, hl, ?_⟩
    rw [hr]
    exact Into.keep0A
theorem body26 (Γ : Env) (h32 : Γ 40 = some S32) (h33 : Γ 41 = some S33) (h34 : Γ 42 = some S34) (w : Bytes) (hw : pN w) : BodyOk Tryz.prog Γ Tryz.f24 [.str w] [] (rN w) [] := by
  by_cases hH : w.getLast? = some 72
  · exact body26H Γ h32 h33 h34 w hw hH
  by_cases hX : w.getLast? = some 88
  · exact body26X Γ h32 h33 h34 w hw hX
  · exact body26D Γ h32 h33 h34 w hw hH hX
end Go.Proofs.YtlehfbdkjkgaeaaGreatDoor.scanDone
