/- Of directories: what is free; a sector taken, given; all entries. Conditions stand in each. Of directories: names compared, found. Conditions stand in each. Of directories: those of some sectors that are of a mark; rows that are the same. Conditions stand in each. -/
import Derived.Test.YtbnnhffkbcekcaaGreatDoorPd
import Derived.Test.YtbnnhffkbcekcaaGreatDoorEg
set_option linter.unusedVariables false
set_option linter.unusedSimpArgs false
set_option maxRecDepth 100000
set_option maxHeartbeats 4000000
section
namespace Go.Proofs.YtbnnhffkbcekcaaGreatDoor.dirDone
open Go Go.Eng Go.Proofs Go.Lib
def e19 : (List Fl) × (List Int) × (List Int) × (List Sec) × (List Wr) → List AV × Heap := fun (F, Lv, U, S, W) => ([.ref 0 0 0], dirZ F Lv U S W)
def p19 : (List Fl) × (List Int) × (List Int) × (List Sec) × (List Wr) → Prop := fun (F, Lv, U, S, W) => U.length ≤ 1048576
def r19 : (List Fl) × (List Int) × (List Int) × (List Sec) × (List Wr) → AV := fun (F, Lv, U, S, W) => .int .i64 (U.count 0 : Nat)
def g19 : (List Fl) × (List Int) × (List Int) × (List Sec) × (List Wr) → Heap := fun (F, Lv, U, S, W) => dirZ F Lv U S W
theorem inj19 : ∀ a b, e19 a = e19 b → a = b := by
  rintro ⟨F, Lv, U, S, W⟩ ⟨F', Lv', U', S', W'⟩ h
  simp only [e19, mi_iff, ms_iff, mb_iff, my_iff, UInt8.toNat_inj, secs_iff, wrs_iff, fl_iff, dskH, dskK, dirH, dirK, dirZ, avinj, List.cons.injEq] at h
  simp_all only
noncomputable def S19 : FSpec := heapE true e19 p19 r19 g19
theorem ps19 (F : (List Fl)) (Lv : (List Int)) (U : (List Int)) (S : (List Sec)) (W : (List Wr)) : pselK e19 p19 ([.ref 0 0 0], dirZ F Lv U S W) = (U.length ≤ 1048576) := pselK_at inj19 p19 (F, Lv, U, S, W)
theorem rs19 (F : (List Fl)) (Lv : (List Int)) (U : (List Int)) (S : (List Sec)) (W : (List Wr)) : rselK e19 r19 .any ([.ref 0 0 0], dirZ F Lv U S W) = (.int .i64 (U.count 0 : Nat)) := rselK_at inj19 r19 .any (F, Lv, U, S, W)
theorem hs19 (F : (List Fl)) (Lv : (List Int)) (U : (List Int)) (S : (List Sec)) (W : (List Wr)) : rselK e19 g19 [] ([.ref 0 0 0], dirZ F Lv U S W) = (dirZ F Lv U S W) := rselK_at inj19 g19 [] (F, Lv, U, S, W)
attribute [push_cast] S19 ps19 rs19 hs19
theorem body19 (Γ : Env) (F : List Fl) (Lv U : List Int) (S : List Sec) (W : List Wr) (hU : U.length ≤ 1048576) : BodyOk Tryz.prog Γ Tryz.f19 [.ref 0 0 0] (dirZ F Lv U S W) (.int .i64 (U.count 0 : Nat)) (dirZ F Lv U S W) := by
  unfold dirZ
  (intro X hP hΓ hL hfin; refine ⟨_, rfl, ?_⟩; rw [show Tryz.f19.ntmps = 23 from rfl]; rw [show Tryz.f19.results.toList = [.tmp 2] from rfl] at hfin; refine gxq0 ?_)
  refine Holds.loopM (ι := {k : Nat // k ≤ U.length}) [ff,ff,tt,ff,ff,ff,ff,ff,ff,ff,ff,tt,tt,ff,ff,ff,ff,ff,ff,ff,ff,ff,ff] (fun i => [(13, .int .i64 i.1), (3, .int .i64 ((U.take i.1).count 0 : Nat))]) (fun i => dirZ F Lv U S W) (fun i => U.length - i.1) ⟨0, Nat.zero_le _⟩ ?_ ?_
  · rw [hL]
    unfold dirZ
    simp only [push_cast, List.take_zero, List.count_nil]
    exact Into.sameA
  rintro ⟨k, hk⟩
  unfold dirZ
  (refine gxq0 ?_)
  ((with_reducible refine exB_split (fun h => ?_) (fun h => ?_)) <;> (try simp only [decide_eq_true_eq, decide_eq_false_iff_not, Bool.and_eq_true, Bool.or_eq_true, Bool.and_eq_false_iff, Bool.or_eq_false_iff, Bool.not_eq_true', Bool.not_eq_false', Bool.not_eq_true, Bool.not_eq_false, Int.not_lt, Int.not_le, beq_iff_eq, beq_eq_false_iff_ne, ne_eq] at h))
  · have hk' : k < U.length := by omega
    have e1 : (U.take (k + 1)).count 0 = (U.take k).count 0 + (if U.getD k default = 0 then 1 else 0) := by
      rw [List.take_succ_eq_append_getElem hk', List.count_append]
      congr 1
      simp only [List.getD, hk', List.getElem?_eq_getElem, Option.getD_some]
      rw [List.count_singleton]
      simp
    have e2 : (U.take k).count 0 ≤ k := Nat.le_trans List.count_le_length (by rw [List.length_take]; omega)
    (refine gxq hk' ?_)
    refine ⟨by omega, ⟨by omega, by omega⟩, ?_⟩
    ((with_reducible refine exB_split (fun h => ?_) (fun h => ?_)) <;> (try simp only [decide_eq_true_eq, decide_eq_false_iff_not, Bool.and_eq_true, Bool.or_eq_true, Bool.and_eq_false_iff, Bool.or_eq_false_iff, Bool.not_eq_true', Bool.not_eq_false', Bool.not_eq_true, Bool.not_eq_false, Int.not_lt, Int.not_le, beq_iff_eq, beq_eq_false_iff_ne, ne_eq] at h))
    · rw [if_pos h] at e1
      (refine gxq0 ?_)
      refine ⟨⟨k + 1, hk'⟩, by simp only; omega, ?_⟩
      dsimp only
      rw [wr_i64 ((k : Int) + 1) (by constructor <;> omega), wr_i64 _ (by constructor <;> omega), e1]
      exact Into.sameA
    · rw [if_neg h, Nat.add_zero] at e1
      (refine gxq0 ?_)
      refine ⟨⟨k + 1, hk'⟩, by simp only; omega, ?_⟩
      dsimp only
      rw [wr_i64 ((k : Int) + 1) (by constructor <;> omega), e1]
      exact Into.sameA
  · obtain rfl : k = U.length := by omega
    rw [List.take_length]
    (refine gxq0 ?_)
    exact Into.sameA
theorem con19 {Γ : Env} (h : EnvOk Tryz.prog Γ)  : Con Tryz.prog 19 S19 :=
  heapE_con h (fn := Tryz.f19) (by kernel_rfl) rfl (by kernel_rfl) inj19 fun ⟨F, Lv, U, S, W⟩ h => body19 Γ F Lv U S W h
def tkR (U : List Int) : AV := if idxN U 0 < 0 then .tup [.int .i64 0, .int .i64 174] else .tup [.int .i64 (idxN U 0), .int .i64 0]
def tkU (U : List Int) : List Int := if idxN U 0 < 0 then U else U.set (idxN U 0).toNat 2
theorem tkU_len (U : List Int) : (tkU U).length = U.length := by
  unfold tkU; split
  · rfl
  · exact List.length_set
theorem idxN_lt (l : List Int) (n : Int) : idxN l n < l.length := by
  unfold idxN
  split
  · rename_i h; have := List.idxOf_lt_length_of_mem h; omega
  · have : (0 : Int) ≤ l.length := Int.natCast_nonneg _; omega
def e33 : (List Fl) × (List Int) × (List Int) × (List Sec) × (List Wr) → List AV × Heap := fun (F, Lv, U, S, W) => ([.ref 0 0 0], dirZ F Lv U S W)
def p33 : (List Fl) × (List Int) × (List Int) × (List Sec) × (List Wr) → Prop := fun (F, Lv, U, S, W) => U.length ≤ 1048576
def r33 : (List Fl) × (List Int) × (List Int) × (List Sec) × (List Wr) → AV := fun (F, Lv, U, S, W) => tkR U
def g33 : (List Fl) × (List Int) × (List Int) × (List Sec) × (List Wr) → Heap := fun (F, Lv, U, S, W) => dirZ F Lv (tkU U) S W
theorem inj33 : ∀ a b, e33 a = e33 b → a = b := by
  rintro ⟨F, Lv, U, S, W⟩ ⟨F', Lv', U', S', W'⟩ h
  simp only [e33, mi_iff, ms_iff, mb_iff, my_iff, UInt8.toNat_inj, secs_iff, wrs_iff, fl_iff, dskH, dskK, dirH, dirK, dirZ, avinj, List.cons.injEq] at h
  simp_all only
noncomputable def S33 : FSpec := heapE true e33 p33 r33 g33
theorem ps33 (F : (List Fl)) (Lv : (List Int)) (U : (List Int)) (S : (List Sec)) (W : (List Wr)) : pselK e33 p33 ([.ref 0 0 0], dirZ F Lv U S W) = (U.length ≤ 1048576) := pselK_at inj33 p33 (F, Lv, U, S, W)
theorem rs33 (F : (List Fl)) (Lv : (List Int)) (U : (List Int)) (S : (List Sec)) (W : (List Wr)) : rselK e33 r33 .any ([.ref 0 0 0], dirZ F Lv U S W) = (tkR U) := rselK_at inj33 r33 .any (F, Lv, U, S, W)
theorem hs33 (F : (List Fl)) (Lv : (List Int)) (U : (List Int)) (S : (List Sec)) (W : (List Wr)) : rselK e33 g33 [] ([.ref 0 0 0], dirZ F Lv U S W) = (dirZ F Lv (tkU U) S W) := rselK_at inj33 g33 [] (F, Lv, U, S, W)
attribute [push_cast] S33 ps33 rs33 hs33
theorem body33 (Γ : Env) (h79 : Γ 79 = some S79) (F : List Fl) (Lv U : List Int) (S : List Sec) (W : List Wr) (hU : U.length ≤ 1048576) : BodyOk Tryz.prog Γ Tryz.f33 [.ref 0 0 0] (dirZ F Lv U S W) (tkR U) (dirZ F Lv (tkU U) S W) := by
  have ps := ps79 U 0
  have rs := rs79 U 0
  have hlt := idxN_lt U 0
  have htk : List.take U.length (U.map (AV.int .i64)) = U.map (AV.int .i64) := List.take_of_length_le (by rw [List.length_map]; exact Nat.le_refl _)
  by_cases h : idxN U 0 < 0
  · have e1 : tkR U = .tup [.int .i64 0, .int .i64 174] := by unfold tkR; rw [if_pos h]
    have e2 : tkU U = U := by unfold tkU; rw [if_pos h]
    have d0 : decide (idxN U 0 < 0) = true := decide_eq_true h
    rw [e1, e2]
    unfold dirZ
    (intro X hP hΓ hL hfin; refine ⟨_, rfl, ?_⟩; rw [show Tryz.f33.ntmps = 21 from rfl]; rw [show Tryz.f33.results.toList = [.tmp 2, .tmp 3] from rfl] at hfin; refine gxq (cj5 h79 ps rs d0 htk) ?_)
    refine ⟨by omega, ?_⟩
    exact Into.sameA
  · obtain ⟨k, hk⟩ := Int.eq_ofNat_of_zero_le (show 0 ≤ idxN U 0 by omega)
    have e1 : tkR U = .tup [.int .i64 k, .int .i64 0] := by unfold tkR; rw [if_neg h, hk]
    have e2 : tkU U = U.set k 2 := by unfold tkU; rw [if_neg h, hk]; rfl
    rw [hk] at rs hlt
    have d0 : decide ((k : Int) < 0) = false := decide_eq_false (by omega)
    rw [e1, e2]
    unfold dirZ
    rw [List.length_set]
    (intro X hP hΓ hL hfin; refine ⟨_, rfl, ?_⟩; rw [show Tryz.f33.ntmps = 21 from rfl]; rw [show Tryz.f33.results.toList = [.tmp 2, .tmp 3] from rfl] at hfin; refine gxq (cj5 h79 ps rs d0 htk) ?_)
    refine ⟨by omega, by omega, by omega, ?_⟩
    rw [set_row U k 2 (by omega)]
    exact Into.sameA
theorem con33 {Γ : Env} (h : EnvOk Tryz.prog Γ) (h79 : Γ 79 = some S79) : Con Tryz.prog 33 S33 :=
  heapE_con h (fn := Tryz.f33) (by kernel_rfl) rfl (by kernel_rfl) inj33 fun ⟨F, Lv, U, S, W⟩ h => body33 Γ h79 F Lv U S W h
def e32 : (List Fl) × (List Int) × (List Int) × (List Sec) × (List Wr) × (Int) → List AV × Heap := fun (F, Lv, U, S, W, n) => ([.ref 0 0 0, .int .i64 n], dirZ F Lv U S W)
def p32 : (List Fl) × (List Int) × (List Int) × (List Sec) × (List Wr) × (Int) → Prop := fun (F, Lv, U, S, W, n) => U.length ≤ 1048576
def r32 : (List Fl) × (List Int) × (List Int) × (List Sec) × (List Wr) × (Int) → AV := fun (F, Lv, U, S, W, n) => .int .i64 (if tOk U 2 [n] then 0 else 2)
def g32 : (List Fl) × (List Int) × (List Int) × (List Sec) × (List Wr) × (Int) → Heap := fun (F, Lv, U, S, W, n) => dirZ F Lv (tRes U 2 0 [n]) S W
theorem inj32 : ∀ a b, e32 a = e32 b → a = b := by
  rintro ⟨F, Lv, U, S, W, n⟩ ⟨F', Lv', U', S', W', n'⟩ h
  simp only [e32, mi_iff, ms_iff, mb_iff, my_iff, UInt8.toNat_inj, secs_iff, wrs_iff, fl_iff, dskH, dskK, dirH, dirK, dirZ, avinj, List.cons.injEq] at h
  simp_all only
noncomputable def S32 : FSpec := heapE true e32 p32 r32 g32
theorem ps32 (F : (List Fl)) (Lv : (List Int)) (U : (List Int)) (S : (List Sec)) (W : (List Wr)) (n : (Int)) : pselK e32 p32 ([.ref 0 0 0, .int .i64 n], dirZ F Lv U S W) = (U.length ≤ 1048576) := pselK_at inj32 p32 (F, Lv, U, S, W, n)
theorem rs32 (F : (List Fl)) (Lv : (List Int)) (U : (List Int)) (S : (List Sec)) (W : (List Wr)) (n : (Int)) : rselK e32 r32 .any ([.ref 0 0 0, .int .i64 n], dirZ F Lv U S W) = (.int .i64 (if tOk U 2 [n] then 0 else 2)) := rselK_at inj32 r32 .any (F, Lv, U, S, W, n)
theorem hs32 (F : (List Fl)) (Lv : (List Int)) (U : (List Int)) (S : (List Sec)) (W : (List Wr)) (n : (Int)) : rselK e32 g32 [] ([.ref 0 0 0, .int .i64 n], dirZ F Lv U S W) = (dirZ F Lv (tRes U 2 0 [n]) S W) := rselK_at inj32 g32 [] (F, Lv, U, S, W, n)
attribute [push_cast] S32 ps32 rs32 hs32
theorem tRes_len (U : List Int) (a b : Int) (l : List Int) : (tRes U a b l).length = U.length := by
  unfold tRes; split
  · exact tSet_len _ _ _
  · rfl
theorem body32 (Γ : Env) (h78 : Γ 78 = some S78) (F : List Fl) (Lv U : List Int) (S : List Sec) (W : List Wr) (n : Int) (hU : U.length ≤ 1048576) : BodyOk Tryz.prog Γ Tryz.f32 [.ref 0 0 0, .int .i64 n] (dirZ F Lv U S W) (.int .i64 (if tOk U 2 [n] then 0 else 2)) (dirZ F Lv (tRes U 2 0 [n]) S W) := by
  have pt := ps78_1 U 0 [n] 0 2 0
  have rt := rs78_1 U 0 [n] 0 2 0
  have ht := hs78_1 U 0 [n] 0 2 0
  simp only [List.map_cons, List.map_nil, List.length_singleton] at pt rt ht
  have hl := tRes_len U 2 0 [n]
  unfold dirZ
  rw [hl]
  generalize tRes U 2 0 [n] = V at *
  by_cases h : tOk U 2 [n]
  · have d0 : decide (tOk U 2 [n]) = true := decide_eq_true h
    rw [if_pos h]
    (intro X hP hΓ hL hfin; refine ⟨_, rfl, ?_⟩; rw [show Tryz.f32.ntmps = 17 from rfl]; rw [show Tryz.f32.results.toList = [.tmp 4] from rfl] at hfin; refine gxq (cj5 h78 pt rt ht d0) ?_)
    refine ⟨⟨by decide, by omega⟩, ?_⟩
    exact Into.keep6A
  · have d0 : decide (tOk U 2 [n]) = false := decide_eq_false h
    rw [if_neg h]
    (intro X hP hΓ hL hfin; refine ⟨_, rfl, ?_⟩; rw [show Tryz.f32.ntmps = 17 from rfl]; rw [show Tryz.f32.results.toList = [.tmp 4] from rfl] at hfin; refine gxq (cj5 h78 pt rt ht d0) ?_)
    refine ⟨⟨by decide, by omega⟩, ?_⟩
    exact Into.keep6A
theorem con32 {Γ : Env} (h : EnvOk Tryz.prog Γ) (h78 : Γ 78 = some S78) : Con Tryz.prog 32 S32 :=
  heapE_con h (fn := Tryz.f32) (by kernel_rfl) rfl (by kernel_rfl) inj32 fun ⟨F, Lv, U, S, W, n⟩ h => body32 Γ h78 F Lv U S W n h
def e38 : (List Fl) × (List Int) × (List Int) × (List Sec) × (List Wr) → List AV × Heap := fun (F, Lv, U, S, W) => ([.ref 0 0 0], dirZ F Lv U S W)
def p38 : (List Fl) × (List Int) × (List Int) × (List Sec) × (List Wr) → Prop := fun (F, Lv, U, S, W) => True
def r38 : (List Fl) × (List Int) × (List Int) × (List Sec) × (List Wr) → AV := fun (F, Lv, U, S, W) => .ref 1 0 0
def g38 : (List Fl) × (List Int) × (List Int) × (List Sec) × (List Wr) → Heap := fun (F, Lv, U, S, W) => dirZ F Lv U S W
theorem inj38 : ∀ a b, e38 a = e38 b → a = b := by
  rintro ⟨F, Lv, U, S, W⟩ ⟨F', Lv', U', S', W'⟩ h
  simp only [e38, mi_iff, ms_iff, mb_iff, my_iff, UInt8.toNat_inj, secs_iff, wrs_iff, fl_iff, dskH, dskK, dirH, dirK, dirZ, avinj, List.cons.injEq] at h
  simp_all only
noncomputable def S38 : FSpec := heapE true e38 p38 r38 g38
theorem ps38 (F : (List Fl)) (Lv : (List Int)) (U : (List Int)) (S : (List Sec)) (W : (List Wr)) : pselK e38 p38 ([.ref 0 0 0], dirZ F Lv U S W) = (True) := pselK_at inj38 p38 (F, Lv, U, S, W)
theorem rs38 (F : (List Fl)) (Lv : (List Int)) (U : (List Int)) (S : (List Sec)) (W : (List Wr)) : rselK e38 r38 .any ([.ref 0 0 0], dirZ F Lv U S W) = (.ref 1 0 0) := rselK_at inj38 r38 .any (F, Lv, U, S, W)
theorem hs38 (F : (List Fl)) (Lv : (List Int)) (U : (List Int)) (S : (List Sec)) (W : (List Wr)) : rselK e38 g38 [] ([.ref 0 0 0], dirZ F Lv U S W) = (dirZ F Lv U S W) := rselK_at inj38 g38 [] (F, Lv, U, S, W)
attribute [push_cast] S38 ps38 rs38 hs38
theorem body38 (Γ : Env) (F : List Fl) (Lv U : List Int) (S : List Sec) (W : List Wr) : BodyOk Tryz.prog Γ Tryz.f38 [.ref 0 0 0] (dirZ F Lv U S W) (.ref 1 0 0) (dirZ F Lv U S W) := by
  unfold dirZ
  (intro X hP hΓ hL hfin; refine ⟨_, rfl, ?_⟩; rw [show Tryz.f38.ntmps = 9 from rfl]; rw [show Tryz.f38.results.toList = [.tmp 2] from rfl] at hfin; refine gxq0 ?_)
  exact Into.sameA
theorem con38 {Γ : Env} (h : EnvOk Tryz.prog Γ)  : Con Tryz.prog 38 S38 :=
  heapE_con h (fn := Tryz.f38) (by kernel_rfl) rfl (by kernel_rfl) inj38 fun ⟨F, Lv, U, S, W⟩ _ => body38 Γ F Lv U S W
def etC (f : Fl) : List AV := [.str f.nm, .int .i64 f.hd, .int .i64 f.ln]
instance : Width etC 3 := ⟨fun _ => rfl⟩
instance : PureC etC := ⟨fun x => by simp only [etC, pureL, pureA, Bool.and_self], fun x => rfl⟩
def e29 : (List Fl) × (List Int) × (List Int) × (List Sec) × (List Wr) → List AV × Heap := fun (F, Lv, U, S, W) => ([.ref 0 0 0], dirZ F Lv U S W)
def p29 : (List Fl) × (List Int) × (List Int) × (List Sec) × (List Wr) → Prop := fun (F, Lv, U, S, W) => F.length ≤ 4194304
def r29 : (List Fl) × (List Int) × (List Int) × (List Sec) × (List Wr) → AV := fun (F, Lv, U, S, W) => .msl 6 F.length 0 F.length
def g29 : (List Fl) × (List Int) × (List Int) × (List Sec) × (List Wr) → Heap := fun (F, Lv, U, S, W) => dirZ F Lv U S W ++ [.row (F.flatMap etC) 3 F.length]
theorem inj29 : ∀ a b, e29 a = e29 b → a = b := by
  rintro ⟨F, Lv, U, S, W⟩ ⟨F', Lv', U', S', W'⟩ h
  simp only [e29, mi_iff, ms_iff, mb_iff, my_iff, UInt8.toNat_inj, secs_iff, wrs_iff, fl_iff, dskH, dskK, dirH, dirK, dirZ, avinj, List.cons.injEq] at h
  simp_all only
noncomputable def S29 : FSpec := heapE true e29 p29 r29 g29
theorem ps29 (F : (List Fl)) (Lv : (List Int)) (U : (List Int)) (S : (List Sec)) (W : (List Wr)) : pselK e29 p29 ([.ref 0 0 0], dirZ F Lv U S W) = (F.length ≤ 4194304) := pselK_at inj29 p29 (F, Lv, U, S, W)
theorem rs29 (F : (List Fl)) (Lv : (List Int)) (U : (List Int)) (S : (List Sec)) (W : (List Wr)) : rselK e29 r29 .any ([.ref 0 0 0], dirZ F Lv U S W) = (.msl 6 F.length 0 F.length) := rselK_at inj29 r29 .any (F, Lv, U, S, W)
theorem hs29 (F : (List Fl)) (Lv : (List Int)) (U : (List Int)) (S : (List Sec)) (W : (List Wr)) : rselK e29 g29 [] ([.ref 0 0 0], dirZ F Lv U S W) = (dirZ F Lv U S W ++ [.row (F.flatMap etC) 3 F.length]) := rselK_at inj29 g29 [] (F, Lv, U, S, W)
attribute [push_cast] S29 ps29 rs29 hs29
theorem body29 (Γ : Env) (F : List Fl) (Lv U : List Int) (S : List Sec) (W : List Wr) (hF : F.length ≤ 4194304) : BodyOk Tryz.prog Γ Tryz.f29 [.ref 0 0 0] (dirZ F Lv U S W) (.msl 6 F.length 0 F.length) (dirZ F Lv U S W ++ [.row (F.flatMap etC) 3 F.length]) := by
  unfold dirZ
  (intro X hP hΓ hL hfin; refine ⟨_, rfl, ?_⟩; rw [show Tryz.f29.ntmps = 24 from rfl]; rw [show Tryz.f29.results.toList = [.tmp 2] from rfl] at hfin; refine gxq0 ?_)
  refine Holds.loopM (ι := {k : Nat // k ≤ F.length}) [ff,ff,tt,ff,ff,ff,ff,ff,ff,ff,ff,tt,tt,ff,ff,ff,ff,ff,ff,ff,ff,ff,ff,ff] (fun i => [(13, .int .i64 i.1), (3, .msl 6 i.1 0 i.1)]) (fun i => dirZ F Lv U S W ++ [.row ((F.take i.1).flatMap etC) 3 i.1]) (fun i => F.length - i.1) ⟨0, Nat.zero_le _⟩ ?_ ?_
  · rw [hL]
    unfold dirZ
    simp only [push_cast, List.take_zero, List.flatMap_nil]
    (refine IntoF.nil 3  3 rfl (gsq ?_))
    exact Into.sameA
  rintro ⟨k, hk⟩
  unfold dirZ
  by_cases ck : k < F.length
  case neg =>
    have dk : decide ((k : Int) < (F.length : Int)) = false := decide_eq_false (by omega)
    obtain rfl : k = F.length := by omega
    rw [List.take_length]
    (refine gxq dk ?_)
    exact Into.sameA
  have dk : decide ((k : Int) < (F.length : Int)) = true := decide_eq_true (by omega)
  obtain ⟨f, hf⟩ : ∃ f, f = F.getD k default := ⟨_, rfl⟩
  have hh : List.take 4 (List.drop (k * 4) (F.flatMap flC)) = [.str f.nm, .int .i64 f.hd, .int .i64 f.ln, .sl (f.se.map (AV.int .i64)) f.se.length] := by rw [head_fm' (n := 4) F k ck, ← hf]; rfl
  have h4 : min 4 (F.length * 4 - k * 4) = 4 := by omega
  have hs : (F.take (k + 1)).flatMap etC = (F.take k).flatMap etC ++ [.str f.nm, .int .i64 f.hd, .int .i64 f.ln] := by
    rw [List.take_succ_eq_append_getElem ck, List.flatMap_append, hf]
    simp [etC, List.getD, ck]
  (refine gxq (cj3 dk hh h4) ?_)
  refine ⟨by omega, by omega, ⟨by omega, by omega⟩, ⟨k + 1, ck⟩, by simp only; omega, ?_⟩
  rw [wr_i64 ((k : Int) + 1) (by constructor <;> omega)]
  simp only [push_cast, hs]
  exact Into.keep7A
theorem con29 {Γ : Env} (h : EnvOk Tryz.prog Γ)  : Con Tryz.prog 29 S29 :=
  heapE_con h (fn := Tryz.f29) (by kernel_rfl) rfl (by kernel_rfl) inj29 fun ⟨F, Lv, U, S, W⟩ h => body29 Γ F Lv U S W h
end Go.Proofs.YtbnnhffkbcekcaaGreatDoor.dirDone
end
section
namespace Go.Proofs.YtbnnhffkbcekcaaGreatDoor.dirDone
open Go Go.Eng Go.Proofs Go.Lib
theorem bl_cons (a b : UInt8) (x y : List UInt8) : Op.bytesLess (a :: x) (b :: y) = true ↔ a < b ∨ (a = b ∧ Op.bytesLess x y = true) := by
  rw [Op.bytesLess]; simp
theorem bl_nil (x : List UInt8) : Op.bytesLess x [] = false := by cases x <;> rfl
theorem bl_trans : ∀ {x y z : List UInt8}, Op.bytesLess x y = true → Op.bytesLess y z = true → Op.bytesLess x z = true
  | x, y, [], _, h => by rw [bl_nil] at h; cases h
  | x, [], _ :: _, h, _ => by rw [bl_nil] at h; cases h
  | [], _ :: _, _ :: _, _, _ => rfl
  | a :: x, b :: y, c :: z, h1, h2 => by
    rw [bl_cons] at h1 h2 ⊢
    simp only [UInt8.lt_iff_toNat_lt, ← UInt8.toNat_inj] at *
    rcases h1 with h1 | ⟨h1, h1'⟩ <;> rcases h2 with h2 | ⟨h2, h2'⟩
    · exact .inl (by omega)
    · exact .inl (by omega)
    · exact .inl (by omega)
    · exact .inr ⟨by omega, bl_trans h1' h2'⟩
theorem bl_tri : ∀ (x y : List UInt8), Op.bytesLess x y = true ∨ x = y ∨ Op.bytesLess y x = true
  | [], [] => .inr (.inl rfl)
  | [], _ :: _ => .inl rfl
  | _ :: _, [] => .inr (.inr rfl)
  | a :: x, b :: y => by
    rw [bl_cons, bl_cons]
    simp only [UInt8.lt_iff_toNat_lt, List.cons.injEq, ← UInt8.toNat_inj]
    rcases Nat.lt_trichotomy a.toNat b.toNat with h | h | h
    · exact .inl (.inl h)
    · rcases bl_tri x y with k | k | k
      · exact .inl (.inr ⟨h, k⟩)
      · exact .inr (.inl ⟨h, k⟩)
      · exact .inr (.inr (.inr ⟨h.symm, k⟩))
    · exact .inr (.inr (.inl h))
theorem cmp_neg : ∀ (x y : List UInt8), compareBytes x y < 0 ↔ Op.bytesLess x y = true
  | [], [] => by simp [compareBytes, Op.bytesLess]
  | [], _ :: _ => by simp [compareBytes, Op.bytesLess]
  | _ :: _, [] => by simp [compareBytes, Op.bytesLess]
  | a :: x, b :: y => by
    rw [bl_cons, compareBytes, ← cmp_neg x y]
    by_cases h1 : a < b
    · simp [h1]
    · rw [if_neg h1]
      by_cases h2 : b < a
      · rw [if_pos h2]
        simp only [UInt8.lt_iff_toNat_lt, ← UInt8.toNat_inj] at *
        constructor
        · intro h; omega
        · rintro (h | ⟨h, _⟩) <;> omega
      · rw [if_neg h2]
        have e : a = b := by simp only [UInt8.lt_iff_toNat_lt, ← UInt8.toNat_inj] at *; omega
        simp [h1, e]
theorem cmp_zero : ∀ (x y : List UInt8), compareBytes x y = 0 ↔ x = y
  | [], [] => by simp [compareBytes]
  | [], _ :: _ => by simp [compareBytes]
  | _ :: _, [] => by simp [compareBytes]
  | a :: x, b :: y => by
    rw [compareBytes, List.cons.injEq, ← cmp_zero x y]
    simp only [UInt8.lt_iff_toNat_lt, ← UInt8.toNat_inj]
    by_cases h1 : a.toNat < b.toNat
    · rw [if_pos h1]; omega
    · rw [if_neg h1]
      by_cases h2 : b.toNat < a.toNat
      · rw [if_pos h2]; omega
      · rw [if_neg h2]
        have : a.toNat = b.toNat := by omega
        simp [this]
def cmpP (xs : List AV) : Prop := match xs with
  | [.str _, .str _] => True
  | _ => False
def cmpR (xs : List AV) : AV := match xs with
  | [.str a, .str b] => .int .i64 (compareBytes a b)
  | _ => .any
def cmpS : FSpec := lift0 cmpP cmpR (fun _ => []) true
attribute [push_cast] cmpP cmpR cmpS
theorem con154 : Con Tryz.prog 154 cmpS := by
  refine Con.ofExt (fun xs hx => ?_) fun m w xs vs hc hx => ?_
  · unfold cmpP at hx
    split at hx
    · exact ⟨_, _, rfl⟩
    · exact hx.elim
  · unfold cmpP at hx
    split at hx
    · rename_i l n
      simp only [CRel, VRel] at hc
      obtain ⟨v1, vs, rfl, rfl, v2, vs, rfl, rfl, rfl⟩ := hc
      refine ⟨.int .i64 (compareBytes l n), ?_, by simp [cmpR, VRel]⟩
      rw [run_callFunc_extern Tryz.func154 (by kernel_rfl) (by kernel_rfl) (by kernel_rfl) (e := Extern.BytealgCompare.compare) (by kernel_rfl), Lib.run_compareString]
      rfl
    · exact hx.elim
theorem body134 (Γ : Env) (h : Γ 154 = some cmpS) (a b : List UInt8) : BodyOk Tryz.prog Γ Tryz.f134 [.str a, .str b] [] (.int .i64 (compareBytes a b)) [] := by
  (intro X hP hΓ hL hfin; refine ⟨_, rfl, ?_⟩; rw [show Tryz.f134.ntmps = 8 from rfl]; rw [show Tryz.f134.results.toList = [.tmp 4] from rfl] at hfin; apply holds_of_ex X 400; simp only [push_cast, reduceCtorEq, Nat.reduceAdd, Nat.reduceMul, Nat.reduceSub, Nat.reduceBEq, Nat.reduceGT, Nat.reduceLT, Int.toNat_zero, Nat.reduceLeDiff, Int.reduceEq, Int.reduceLT, Int.reduceLE, hP, hΓ, hL, hfin, h])
  exact Into.one rfl rfl
theorem con134 {Γ : Env} (h : EnvOk Tryz.prog Γ) (hf : Γ 154 = some cmpS) : Con Tryz.prog 134 cmpS := by
  refine Con.of_body h (fn := Tryz.f134) (by kernel_rfl) rfl (by kernel_rfl) (fun _ _ => rfl) fun xs hx => ?_
  unfold cmpP at hx
  split at hx
  · rename_i l n
    exact body134 Γ hf l n
  · exact hx.elim
theorem body89 (Γ : Env) (h : Γ 134 = some cmpS) (a b : List UInt8) : BodyOk Tryz.prog Γ Tryz.f89 [.str a, .str b] [] (.int .i64 (compareBytes a b)) [] := by
  (intro X hP hΓ hL hfin; refine ⟨_, rfl, ?_⟩; rw [show Tryz.f89.ntmps = 8 from rfl]; rw [show Tryz.f89.results.toList = [.tmp 4] from rfl] at hfin; apply holds_of_ex X 400; simp only [push_cast, reduceCtorEq, Nat.reduceAdd, Nat.reduceMul, Nat.reduceSub, Nat.reduceBEq, Nat.reduceGT, Nat.reduceLT, Int.toNat_zero, Nat.reduceLeDiff, Int.reduceEq, Int.reduceLT, Int.reduceLE, hP, hΓ, hL, hfin, h])
  exact Into.one rfl rfl
theorem con89 {Γ : Env} (h : EnvOk Tryz.prog Γ) (hf : Γ 134 = some cmpS) : Con Tryz.prog 89 cmpS := by
  refine Con.of_body h (fn := Tryz.f89) (by kernel_rfl) rfl (by kernel_rfl) (fun _ _ => rfl) fun xs hx => ?_
  unfold cmpP at hx
  split at hx
  · rename_i l n
    exact body89 Γ hf l n
  · exact hx.elim
def e125 : (List UInt8) × (Int) × (Int) × (List Int) × (List UInt8) → List AV := fun (a, h, n, l, nm) => [.agg [.str a, .int .i64 h, .int .i64 n, .sl (l.map (AV.int .i64)) l.length], .str nm]
def p125 : (List UInt8) × (Int) × (Int) × (List Int) × (List UInt8) → Prop := fun (a, h, n, l, nm) => True
def r125 : (List UInt8) × (Int) × (Int) × (List Int) × (List UInt8) → AV := fun (a, h, n, l, nm) => .int .i64 (compareBytes a nm)
def g125 : (List UInt8) × (Int) × (Int) × (List Int) × (List UInt8) → Heap := fun (a, h, n, l, nm) => []
theorem inj125 : ∀ a b, e125 a = e125 b → a = b := by
  rintro ⟨a, h, n, l, nm⟩ ⟨a', h', n', l', nm'⟩ h
  simp only [e125, mi_iff, ms_iff, mb_iff, my_iff, UInt8.toNat_inj, secs_iff, wrs_iff, fl_iff, dskH, dskK, dirH, dirK, dirZ, avinj, List.cons.injEq] at h
  simp_all only
noncomputable def S125 : FSpec := funS e125 p125 r125 g125 true
theorem ps125 (a : (List UInt8)) (h : (Int)) (n : (Int)) (l : (List Int)) (nm : (List UInt8)) : psel e125 p125 [.agg [.str a, .int .i64 h, .int .i64 n, .sl (l.map (AV.int .i64)) l.length], .str nm] = (True) := psel_at inj125 p125 (a, h, n, l, nm)
theorem rs125 (a : (List UInt8)) (h : (Int)) (n : (Int)) (l : (List Int)) (nm : (List UInt8)) : rsel e125 r125 .any [.agg [.str a, .int .i64 h, .int .i64 n, .sl (l.map (AV.int .i64)) l.length], .str nm] = (.int .i64 (compareBytes a nm)) := rsel_at inj125 r125 .any (a, h, n, l, nm)
theorem hs125 (a : (List UInt8)) (h : (Int)) (n : (Int)) (l : (List Int)) (nm : (List UInt8)) : rsel e125 g125 [] [.agg [.str a, .int .i64 h, .int .i64 n, .sl (l.map (AV.int .i64)) l.length], .str nm] = ([]) := rsel_at inj125 g125 [] (a, h, n, l, nm)
attribute [push_cast] S125 ps125 rs125 hs125
theorem body125 (Γ : Env) (h89 : Γ 89 = some cmpS) (a : List UInt8) (h n : Int) (l : List Int) (nm : List UInt8) : BodyOk Tryz.prog Γ Tryz.f125 [.agg [.str a, .int .i64 h, .int .i64 n, .sl (l.map (AV.int .i64)) l.length], .str nm] [] (.int .i64 (compareBytes a nm)) [] := by
  (intro X hP hΓ hL hfin; refine ⟨_, rfl, ?_⟩; rw [show Tryz.f125.ntmps = 10 from rfl]; rw [show Tryz.f125.results.toList = [.tmp 4] from rfl] at hfin; refine gxq h89 ?_)
  exact Into.keep0A
theorem con125 {Γ : Env} (h : EnvOk Tryz.prog Γ) (h89 : Γ 89 = some cmpS) : Con Tryz.prog 125 S125 :=
  funS_con h (fn := Tryz.f125) (by kernel_rfl) rfl (by kernel_rfl) inj125 (by first | (intro h; cases h; done) | exact fun _ _ => rfl) fun ⟨a, h, n, l, nm⟩ _ => body125 Γ h89 a h n l nm
def srt (F : List Fl) : Prop := F.Pairwise fun a b => Op.bytesLess a.nm b.nm = true
def fiN : List Fl → List UInt8 → Nat
  | [], _ => 0
  | f :: F, nm => if Op.bytesLess f.nm nm = true then fiN F nm + 1 else 0
def fiB (F : List Fl) (nm : List UInt8) : Bool := decide (fiN F nm < F.length ∧ (F.getD (fiN F nm) default).nm = nm)
theorem fiN_le : ∀ (F : List Fl) (nm : List UInt8), fiN F nm ≤ F.length
  | [], _ => Nat.le_refl _
  | f :: F, nm => by
    unfold fiN; split
    · have := fiN_le F nm; simp only [List.length_cons]; omega
    · exact Nat.zero_le _
theorem fiN_at : ∀ (F : List Fl) (nm : List UInt8) (i : Nat), i ≤ F.length → (∀ q, q < i → Op.bytesLess (F.getD q default).nm nm = true) → (i < F.length → Op.bytesLess (F.getD i default).nm nm = false) → fiN F nm = i
  | [], _, i, hi, _, _ => by have : i = 0 := by simpa using hi
                             subst this; rfl
  | f :: F, nm, 0, _, _, h => by
    have := h (Nat.succ_pos _)
    unfold fiN
    rw [if_neg (by simpa using this)]
  | f :: F, nm, i + 1, hi, hl, h => by
    have h0 := hl 0 (Nat.succ_pos _)
    unfold fiN
    rw [if_pos (by simpa using h0), fiN_at F nm i (by simpa using hi) (fun q hq => by simpa using hl (q + 1) (by omega)) (fun hlt => by simpa using h (by simpa using hlt))]
theorem srt_lt {F : List Fl} (h : srt F) {i j : Nat} (hij : i < j) (hj : j < F.length) : Op.bytesLess (F.getD i default).nm (F.getD j default).nm = true := by
  have := List.pairwise_iff_getElem.1 h i j (by omega) hj hij
  simpa [List.getD, hj, show i < F.length by omega] using this
def e124 : (List Fl) × (List UInt8) → List AV := fun (F, nm) => [.sl (F.flatMap flC) F.length, .str nm, .fn (.func 125) [] []]
def p124 : (List Fl) × (List UInt8) → Prop := fun (F, nm) => F.length ≤ 4194304 ∧ srt F
def r124 : (List Fl) × (List UInt8) → AV := fun (F, nm) => .tup [.int .i64 (fiN F nm), .bool (fiB F nm)]
def g124 : (List Fl) × (List UInt8) → Heap := fun (F, nm) => []
theorem inj124 : ∀ a b, e124 a = e124 b → a = b := by
  rintro ⟨F, nm⟩ ⟨F', nm'⟩ h
  simp only [e124, mi_iff, ms_iff, mb_iff, my_iff, UInt8.toNat_inj, secs_iff, wrs_iff, fl_iff, dskH, dskK, dirH, dirK, dirZ, avinj, List.cons.injEq] at h
  simp_all only
noncomputable def S124 : FSpec := funS e124 p124 r124 g124 true
theorem ps124 (F : (List Fl)) (nm : (List UInt8)) : psel e124 p124 [.sl (F.flatMap flC) F.length, .str nm, .fn (.func 125) [] []] = (F.length ≤ 4194304 ∧ srt F) := psel_at inj124 p124 (F, nm)
theorem rs124 (F : (List Fl)) (nm : (List UInt8)) : rsel e124 r124 .any [.sl (F.flatMap flC) F.length, .str nm, .fn (.func 125) [] []] = (.tup [.int .i64 (fiN F nm), .bool (fiB F nm)]) := rsel_at inj124 r124 .any (F, nm)
theorem hs124 (F : (List Fl)) (nm : (List UInt8)) : rsel e124 g124 [] [.sl (F.flatMap flC) F.length, .str nm, .fn (.func 125) [] []] = ([]) := rsel_at inj124 g124 [] (F, nm)
attribute [push_cast] S124 ps124 rs124 hs124
theorem body124 (Γ : Env) (h125 : Γ 125 = some S125) (F : List Fl) (nm : List UInt8) (hF : F.length ≤ 4194304) (hs : srt F) : BodyOk Tryz.prog Γ Tryz.f124 [.sl (F.flatMap flC) F.length, .str nm, .fn (.func 125) [] []] [] (.tup [.int .i64 (fiN F nm), .bool (fiB F nm)]) [] := by
  (intro X hP hΓ hL hfin; refine ⟨_, rfl, ?_⟩; rw [show Tryz.f124.ntmps = 49 from rfl]; rw [show Tryz.f124.results.toList = [.tmp 6, .tmp 7] from rfl] at hfin; refine gxq h125 ?_)
  refine Holds.loopM (ι := {p : Nat × Nat // p.1 ≤ p.2 ∧ p.2 ≤ F.length ∧ (∀ q, q < p.1 → Op.bytesLess (F.getD q default).nm nm = true) ∧ (∀ q, p.2 ≤ q → q < F.length → Op.bytesLess (F.getD q default).nm nm = false)}) [tt,tt,tt,ff,ff,ff,tt,tt,tt,ff,ff,ff,ff,ff,ff,ff,ff,ff,ff,ff,ff,ff,ff,ff,ff,ff,ff,ff,ff,ff,ff,ff,ff,ff,ff,ff,ff,ff,ff,ff,ff,ff,ff,ff,ff,ff,ff,ff,ff] (fun i => [(9, .int .i64 i.1.1), (10, .int .i64 i.1.2)]) (fun i => []) (fun i => i.1.2 - i.1.1) ⟨(0, F.length), Nat.zero_le _, Nat.le_refl _, fun q h => absurd h (Nat.not_lt_zero q), fun q h h' => absurd h' (Nat.not_lt.2 h)⟩ ?_ ?_
  · rw [hL]
    simp only [push_cast]
    exact Into.sameA
  rintro ⟨⟨i, j⟩, hij, hj, hlo, hhi⟩
  dsimp only at hij hj hlo hhi
  by_cases c0 : i < j
  case neg =>
    obtain rfl : i = j := by omega
    have d0 : decide ((i : Int) < (i : Int)) = false := decide_eq_false (by omega)
    have hn : fiN F nm = i := fiN_at F nm i hj hlo (fun h => hhi i (Nat.le_refl _) h)
    by_cases hl : i < F.length
    · have dl : decide ((i : Int) < (F.length : Int)) = true := decide_eq_true (by omega)
      obtain ⟨f, hf⟩ : ∃ f, f = F.getD i default := ⟨_, rfl⟩
      have hh : List.take 4 (List.drop (i * 4) (F.flatMap flC)) = [.str f.nm, .int .i64 f.hd, .int .i64 f.ln, .sl (f.se.map (AV.int .i64)) f.se.length] := by rw [head_fm' (n := 4) F i hl, ← hf]; rfl
      have h4 : min 4 (F.length * 4 - i * 4) = 4 := by omega
      have hb : fiB F nm = decide (compareBytes f.nm nm = 0) := by
        unfold fiB
        rw [hn, decide_eq_decide, cmp_zero, ← hf]
        exact ⟨fun h => h.2, fun h => ⟨hl, h⟩⟩
      (refine gxq (cj7 d0 hn dl hh h4 h125 hb) ?_)
      refine ⟨by omega, by omega, ?_⟩
      exact Into.sameA
    · have dl : decide ((i : Int) < (F.length : Int)) = false := decide_eq_false (by omega)
      have hb : fiB F nm = false := by
        unfold fiB
        rw [hn]
        exact decide_eq_false (fun h => hl h.1)
      (refine gnq 6 d0 ?_)
      refine Holds.reg ?_
      (refine RestIn.ev 5 (gzq dl ?_))
      (refine RestIn.skips 8 (gzq0 ?_))
      (refine RestIn.ev 3 (gzq0 ?_))
      refine RestIn.nil ?_
      (refine gxq (cj2 hn hb) ?_)
      exact Into.sameA
  have d0 : decide ((i : Int) < (j : Int)) = true := decide_eq_true (by omega)
  obtain ⟨s, hs1⟩ : ∃ s, s = i + j := ⟨_, rfl⟩
  obtain ⟨h, hh1⟩ : ∃ h, h = s / 2 := ⟨_, rfl⟩
  have w1 : IntKind.i64.wrap ((i : Int) + (j : Int)) = (s : Int) := by rw [wr_i64 _ (by constructor <;> omega)]; omega
  have w2 : IntKind.u64.wrap (s : Int) = (s : Int) := by
    have : s < 18446744073709551616 := by omega
    simp [IntKind.wrap, IntKind.bits, IntKind.signed]; omega
  have w3 : (s : Int).fdiv (2 ^ min 1 IntKind.u64.bits) = (h : Int) := by rw [hh1]; exact shr_nat s 1
  have w4 : IntKind.u64.wrap (h : Int) = (h : Int) := by
    have : h < 18446744073709551616 := by omega
    simp [IntKind.wrap, IntKind.bits, IntKind.signed]; omega
  have w5 : IntKind.i64.wrap (h : Int) = (h : Int) := wr_i64 _ (by constructor <;> omega)
  have hlt : h < F.length := by omega
  obtain ⟨f, hf⟩ : ∃ f, f = F.getD h default := ⟨_, rfl⟩
  have hh : List.take 4 (List.drop (h * 4) (F.flatMap flC)) = [.str f.nm, .int .i64 f.hd, .int .i64 f.ln, .sl (f.se.map (AV.int .i64)) f.se.length] := by rw [head_fm' (n := 4) F h hlt, ← hf]; rfl
  have h4 : min 4 (F.length * 4 - h * 4) = 4 := by omega
  have hc : decide (compareBytes f.nm nm < 0) = Op.bytesLess f.nm nm := by rw [Bool.eq_iff_iff, decide_eq_true_eq, cmp_neg]
  cases hB : Op.bytesLess f.nm nm with
  | true =>
    ((first | with_reducible refine holds_of_ex X 400 _ _ _ ?_ | skip); simp (maxSteps := 1000000) only [push_cast, reduceCtorEq, Nat.reduceAdd, Nat.reduceMul, Nat.reduceSub, Nat.reduceBEq, Nat.reduceGT, Nat.reduceLT, Int.toNat_zero, Nat.reduceLeDiff, Int.reduceEq, Int.reduceLT, Int.reduceLE, hP, hΓ, hL, hfin, String.reduceEq, Int.toNat_one, Bool.not_not, d0, w1, w2, w3, w4, w5, hh, h4, h125, hc, hB])
    refine ⟨by omega, by omega, ⟨(h + 1, j), by simp only; omega, hj, fun q hq => ?_, hhi⟩, by simp only; omega, ?_⟩
    · rcases Nat.lt_succ_iff_lt_or_eq.1 hq with h' | rfl
      · exact bl_trans (srt_lt hs h' hlt) (by rw [← hf]; exact hB)
      · rw [← hf]; exact hB
    rw [wr_i64 ((h : Int) + 1) (by constructor <;> omega)]
    simp only [push_cast]
    exact Into.sameA
  | false =>
    ((first | with_reducible refine holds_of_ex X 400 _ _ _ ?_ | skip); simp (maxSteps := 1000000) only [push_cast, reduceCtorEq, Nat.reduceAdd, Nat.reduceMul, Nat.reduceSub, Nat.reduceBEq, Nat.reduceGT, Nat.reduceLT, Int.toNat_zero, Nat.reduceLeDiff, Int.reduceEq, Int.reduceLT, Int.reduceLE, hP, hΓ, hL, hfin, String.reduceEq, Int.toNat_one, Bool.not_not, d0, w1, w2, w3, w4, w5, hh, h4, h125, hc, hB])
    refine ⟨by omega, by omega, ⟨(i, h), by simp only; omega, by simp only; omega, hlo, fun q hq hq2 => ?_⟩, by simp only; omega, ?_⟩
    · rcases Nat.lt_or_eq_of_le hq with h' | h'
      · rw [Bool.eq_false_iff]
        intro hx
        have := bl_trans (srt_lt hs h' hq2) hx
        rw [← hf, hB] at this
        cases this
      · rw [← h', ← hf]; exact hB
    exact Into.sameA
theorem con124 {Γ : Env} (h : EnvOk Tryz.prog Γ) (h125 : Γ 125 = some S125) : Con Tryz.prog 124 S124 :=
  funS_con h (fn := Tryz.f124) (by kernel_rfl) rfl (by kernel_rfl) inj124 (by first | (intro h; cases h; done) | exact fun _ _ => rfl) fun ⟨F, nm⟩ h => body124 Γ h125 F nm h.1 h.2
def e77 : (List Fl) × (List Int) × (List Int) × (List Sec) × (List Wr) × (List UInt8) → List AV × Heap := fun (F, Lv, U, S, W, nm) => ([.ref 0 0 0, .str nm], dirZ F Lv U S W)
def p77 : (List Fl) × (List Int) × (List Int) × (List Sec) × (List Wr) × (List UInt8) → Prop := fun (F, Lv, U, S, W, nm) => F.length ≤ 4194304 ∧ srt F
def r77 : (List Fl) × (List Int) × (List Int) × (List Sec) × (List Wr) × (List UInt8) → AV := fun (F, Lv, U, S, W, nm) => .tup [.int .i64 (fiN F nm), .bool (fiB F nm)]
def g77 : (List Fl) × (List Int) × (List Int) × (List Sec) × (List Wr) × (List UInt8) → Heap := fun (F, Lv, U, S, W, nm) => dirZ F Lv U S W
theorem inj77 : ∀ a b, e77 a = e77 b → a = b := by
  rintro ⟨F, Lv, U, S, W, nm⟩ ⟨F', Lv', U', S', W', nm'⟩ h
  simp only [e77, mi_iff, ms_iff, mb_iff, my_iff, UInt8.toNat_inj, secs_iff, wrs_iff, fl_iff, dskH, dskK, dirH, dirK, dirZ, avinj, List.cons.injEq] at h
  simp_all only
noncomputable def S77 : FSpec := heapE true e77 p77 r77 g77
theorem ps77 (F : (List Fl)) (Lv : (List Int)) (U : (List Int)) (S : (List Sec)) (W : (List Wr)) (nm : (List UInt8)) : pselK e77 p77 ([.ref 0 0 0, .str nm], dirZ F Lv U S W) = (F.length ≤ 4194304 ∧ srt F) := pselK_at inj77 p77 (F, Lv, U, S, W, nm)
theorem rs77 (F : (List Fl)) (Lv : (List Int)) (U : (List Int)) (S : (List Sec)) (W : (List Wr)) (nm : (List UInt8)) : rselK e77 r77 .any ([.ref 0 0 0, .str nm], dirZ F Lv U S W) = (.tup [.int .i64 (fiN F nm), .bool (fiB F nm)]) := rselK_at inj77 r77 .any (F, Lv, U, S, W, nm)
theorem hs77 (F : (List Fl)) (Lv : (List Int)) (U : (List Int)) (S : (List Sec)) (W : (List Wr)) (nm : (List UInt8)) : rselK e77 g77 [] ([.ref 0 0 0, .str nm], dirZ F Lv U S W) = (dirZ F Lv U S W) := rselK_at inj77 g77 [] (F, Lv, U, S, W, nm)
attribute [push_cast] S77 ps77 rs77 hs77
theorem body77 (Γ : Env) (h124 : Γ 124 = some S124) (F : List Fl) (Lv U : List Int) (S : List Sec) (W : List Wr) (nm : List UInt8) (hF : F.length ≤ 4194304) (hs : srt F) : BodyOk Tryz.prog Γ Tryz.f77 [.ref 0 0 0, .str nm] (dirZ F Lv U S W) (.tup [.int .i64 (fiN F nm), .bool (fiB F nm)]) (dirZ F Lv U S W) := by
  have ps := ps124 F nm
  have rs := rs124 F nm
  unfold dirZ
  (intro X hP hΓ hL hfin; refine ⟨_, rfl, ?_⟩; rw [show Tryz.f77.ntmps = 14 from rfl]; rw [show Tryz.f77.results.toList = [.tmp 4, .tmp 5] from rfl] at hfin; refine gxq (cj3 h124 ps rs) ?_)
  refine ⟨⟨hF, hs⟩, ?_⟩
  exact Into.sameA
theorem con77 {Γ : Env} (h : EnvOk Tryz.prog Γ) (h124 : Γ 124 = some S124) : Con Tryz.prog 77 S77 :=
  heapE_con h (fn := Tryz.f77) (by kernel_rfl) rfl (by kernel_rfl) inj77 fun ⟨F, Lv, U, S, W, nm⟩ h => body77 Γ h124 F Lv U S W nm h.1 h.2
end Go.Proofs.YtbnnhffkbcekcaaGreatDoor.dirDone
end
section
namespace Go.Proofs.YtbnnhffkbcekcaaGreatDoor.dirDone
open Go Go.Eng Go.Proofs Go.Lib
def e81 : (List Int) × (List Int) → List AV := fun (a, b) => [.sl (a.map (AV.int .i64)) a.length, .sl (b.map (AV.int .i64)) b.length]
def p81 : (List Int) × (List Int) → Prop := fun (a, b) => a.length ≤ 4194304 ∧ b.length ≤ 4194304
def r81 : (List Int) × (List Int) → AV := fun (a, b) => .bool (decide (a = b))
def g81 : (List Int) × (List Int) → Heap := fun (a, b) => []
theorem inj81 : ∀ a b, e81 a = e81 b → a = b := by
  rintro ⟨a, b⟩ ⟨a', b'⟩ h
  simp only [e81, mi_iff, ms_iff, mb_iff, my_iff, UInt8.toNat_inj, secs_iff, wrs_iff, fl_iff, dskH, dskK, dirH, dirK, dirZ, avinj, List.cons.injEq] at h
  simp_all only
noncomputable def S81 : FSpec := funS e81 p81 r81 g81 true
theorem ps81 (a : (List Int)) (b : (List Int)) : psel e81 p81 [.sl (a.map (AV.int .i64)) a.length, .sl (b.map (AV.int .i64)) b.length] = (a.length ≤ 4194304 ∧ b.length ≤ 4194304) := psel_at inj81 p81 (a, b)
theorem rs81 (a : (List Int)) (b : (List Int)) : rsel e81 r81 .any [.sl (a.map (AV.int .i64)) a.length, .sl (b.map (AV.int .i64)) b.length] = (.bool (decide (a = b))) := rsel_at inj81 r81 .any (a, b)
theorem hs81 (a : (List Int)) (b : (List Int)) : rsel e81 g81 [] [.sl (a.map (AV.int .i64)) a.length, .sl (b.map (AV.int .i64)) b.length] = ([]) := rsel_at inj81 g81 [] (a, b)
attribute [push_cast] S81 ps81 rs81 hs81
theorem body81 (Γ : Env) (a b : List Int) (ha : a.length ≤ 4194304) (hb : b.length ≤ 4194304) : BodyOk Tryz.prog Γ Tryz.f81 [.sl (a.map (AV.int .i64)) a.length, .sl (b.map (AV.int .i64)) b.length] [] (.bool (decide (a = b))) [] := by
  by_cases hl : a.length = b.length
  case neg =>
    have d0 : decide ((a.length : Int) = (b.length : Int)) = false := decide_eq_false (by omega)
    have e : decide (a = b) = false := decide_eq_false (fun h => hl (by rw [h]))
    rw [e]
    (intro X hP hΓ hL hfin; refine ⟨_, rfl, ?_⟩; rw [show Tryz.f81.ntmps = 26 from rfl]; rw [show Tryz.f81.results.toList = [.tmp 4] from rfl] at hfin; refine gxq d0 ?_)
    exact Into.sameA
  have d0 : decide ((a.length : Int) = (b.length : Int)) = true := decide_eq_true (by omega)
  (intro X hP hΓ hL hfin; refine ⟨_, rfl, ?_⟩; rw [show Tryz.f81.ntmps = 26 from rfl]; rw [show Tryz.f81.results.toList = [.tmp 4] from rfl] at hfin; refine gxq d0 ?_)
  refine Holds.loopM (ι := {k : Nat // k ≤ a.length ∧ a.take k = b.take k}) [tt,tt,ff,ff,ff,ff,ff,ff,ff,ff,ff,ff,tt,ff,ff,ff,ff,ff,ff,ff,ff,ff,ff,ff,ff,ff] (fun i => [(12, .int .i64 a.length), (13, .int .i64 i.1)]) (fun i => []) (fun i => a.length - i.1) ⟨0, Nat.zero_le _, rfl⟩ ?_ ?_
  · (rw [hL]; simp only [push_cast, Int.natCast_zero, ]; exact Into.sameA)
  rintro ⟨k, hk, he⟩
  by_cases ck : k < a.length
  case neg =>
    have dk : decide ((k : Int) < (a.length : Int)) = false := decide_eq_false (by omega)
    have e : decide (a = b) = true := by
      rw [List.take_of_length_le (by omega), List.take_of_length_le (by omega)] at he
      exact decide_eq_true he
    (refine gxq (cj2 dk e) ?_)
    exact Into.sameA
  have dk : decide ((k : Int) < (a.length : Int)) = true := decide_eq_true (by omega)
  (refine gxq dk ?_)
  by_cases cv : a.getD k default = b.getD k default
  · have dv : decide (a.getD k default = b.getD k default) = true := decide_eq_true cv
    (refine Holds.drawnQ smp (by kernel_rfl) (gwq dv ?_))
    refine ⟨by omega, by omega, by omega, by omega, ⟨k + 1, ck, ?_⟩, by simp only; omega, ?_⟩
    · rw [List.take_succ_eq_append_getElem ck, List.take_succ_eq_append_getElem (show k < b.length by omega), he]
      congr 1
      simpa [List.getD, ck, show k < b.length by omega] using cv
    rw [wr_i64 ((k : Int) + 1) (by constructor <;> omega)]
    simp only [push_cast]
    exact Into.sameA
  · have dv : decide (a.getD k default = b.getD k default) = false := decide_eq_false cv
    have e : decide (a = b) = false := decide_eq_false (fun h => cv (by rw [h]))
    (refine Holds.drawnQ smp (by kernel_rfl) (gwq (cj2 dv e) ?_))
    refine ⟨by omega, by omega, by omega, by omega, ?_⟩
    exact Into.sameA
theorem con81 {Γ : Env} (h : EnvOk Tryz.prog Γ)  : Con Tryz.prog 81 S81 :=
  funS_con h (fn := Tryz.f81) (by kernel_rfl) rfl (by kernel_rfl) inj81 (by first | (intro h; cases h; done) | exact fun _ _ => rfl) fun ⟨a, b⟩ h => body81 Γ a b h.1 h.2
def alK (U : List Int) (use : Int) (l : List Int) : Nat → List Int
  | 0 => []
  | k + 1 => if tAt U use l k then alK U use l k ++ [l.getD k default] else alK U use l k
theorem alK_len (U : List Int) (use : Int) (l : List Int) : ∀ k, (alK U use l k).length ≤ k
  | 0 => Nat.le_refl _
  | k + 1 => by
    have := alK_len U use l k
    unfold alK; split
    · rw [List.length_append]; simp only [List.length_singleton]; omega
    · omega
theorem alK_all (U : List Int) (use : Int) (l : List Int) : ∀ k, k ≤ l.length → (alK U use l k).length = k → (∀ i, i < k → tAt U use l i) ∧ alK U use l k = l.take k
  | 0, _, _ => ⟨fun i h => absurd h (Nat.not_lt_zero i), rfl⟩
  | k + 1, hk, h => by
    have hl := alK_len U use l k
    unfold alK at h ⊢
    split at h
    · rename_i ht
      rw [List.length_append] at h
      simp only [List.length_singleton] at h
      obtain ⟨h1, h2⟩ := alK_all U use l k (by omega) (by omega)
      refine ⟨fun i hi => ?_, ?_⟩
      · rcases Nat.lt_succ_iff_lt_or_eq.1 hi with h' | rfl
        · exact h1 i h'
        · exact ht
      · rw [if_pos ht, h2, List.take_succ_eq_append_getElem (by omega)]
        simp [List.getD, show k < l.length by omega]
    · omega
theorem alK_of (U : List Int) (use : Int) (l : List Int) : ∀ k, k ≤ l.length → (∀ i, i < k → tAt U use l i) → alK U use l k = l.take k
  | 0, _, _ => rfl
  | k + 1, hk, h => by
    unfold alK
    rw [if_pos (h k (Nat.lt_succ_self k)), alK_of U use l k (by omega) (fun i hi => h i (by omega)), List.take_succ_eq_append_getElem (by omega)]
    simp [List.getD, show k < l.length by omega]
theorem alK_iff (U : List Int) (use : Int) (l : List Int) : alK U use l l.length = l ↔ tOk U use l := by
  constructor
  · intro h
    exact (alK_all U use l l.length (Nat.le_refl _) (by rw [h])).1
  · intro h
    rw [alK_of U use l l.length (Nat.le_refl _) h, List.take_length]
def e82 : (List Fl) × (List Int) × (List Int) × (List Sec) × (List Wr) × (List Int) × (Int) → List AV × Heap := fun (F, Lv, U, S, W, l, use) => ([.ref 0 0 0, .sl (l.map (AV.int .i64)) l.length, .int .i64 use], dirZ F Lv U S W)
def p82 : (List Fl) × (List Int) × (List Int) × (List Sec) × (List Wr) × (List Int) × (Int) → Prop := fun (F, Lv, U, S, W, l, use) => l.length ≤ 4194304 ∧ U.length ≤ 4194304
def r82 : (List Fl) × (List Int) × (List Int) × (List Sec) × (List Wr) × (List Int) × (Int) → AV := fun (F, Lv, U, S, W, l, use) => .sl ((alK U use l l.length).map (AV.int .i64)) (alK U use l l.length).length
def g82 : (List Fl) × (List Int) × (List Int) × (List Sec) × (List Wr) × (List Int) × (Int) → Heap := fun (F, Lv, U, S, W, l, use) => dirZ F Lv U S W
theorem inj82 : ∀ a b, e82 a = e82 b → a = b := by
  rintro ⟨F, Lv, U, S, W, l, use⟩ ⟨F', Lv', U', S', W', l', use'⟩ h
  simp only [e82, mi_iff, ms_iff, mb_iff, my_iff, UInt8.toNat_inj, secs_iff, wrs_iff, fl_iff, dskH, dskK, dirH, dirK, dirZ, avinj, List.cons.injEq] at h
  simp_all only
noncomputable def S82 : FSpec := heapE true e82 p82 r82 g82
theorem ps82 (F : (List Fl)) (Lv : (List Int)) (U : (List Int)) (S : (List Sec)) (W : (List Wr)) (l : (List Int)) (use : (Int)) : pselK e82 p82 ([.ref 0 0 0, .sl (l.map (AV.int .i64)) l.length, .int .i64 use], dirZ F Lv U S W) = (l.length ≤ 4194304 ∧ U.length ≤ 4194304) := pselK_at inj82 p82 (F, Lv, U, S, W, l, use)
theorem rs82 (F : (List Fl)) (Lv : (List Int)) (U : (List Int)) (S : (List Sec)) (W : (List Wr)) (l : (List Int)) (use : (Int)) : rselK e82 r82 .any ([.ref 0 0 0, .sl (l.map (AV.int .i64)) l.length, .int .i64 use], dirZ F Lv U S W) = (.sl ((alK U use l l.length).map (AV.int .i64)) (alK U use l l.length).length) := rselK_at inj82 r82 .any (F, Lv, U, S, W, l, use)
theorem hs82 (F : (List Fl)) (Lv : (List Int)) (U : (List Int)) (S : (List Sec)) (W : (List Wr)) (l : (List Int)) (use : (Int)) : rselK e82 g82 [] ([.ref 0 0 0, .sl (l.map (AV.int .i64)) l.length, .int .i64 use], dirZ F Lv U S W) = (dirZ F Lv U S W) := rselK_at inj82 g82 [] (F, Lv, U, S, W, l, use)
attribute [push_cast] S82 ps82 rs82 hs82
theorem body82 (Γ : Env) (h126 : Γ 126 = some S126) (F : List Fl) (Lv U : List Int) (S : List Sec) (W : List Wr) (l : List Int) (use : Int) (hl : l.length ≤ 4194304) (hU : U.length ≤ 4194304) :
    BodyOk Tryz.prog Γ Tryz.f82 [.ref 0 0 0, .sl (l.map (AV.int .i64)) l.length, .int .i64 use] (dirZ F Lv U S W) (.sl ((alK U use l l.length).map (AV.int .i64)) (alK U use l l.length).length) (dirZ F Lv U S W) := by
  unfold dirZ
  (intro X hP hΓ hL hfin; refine ⟨_, rfl, ?_⟩; rw [show Tryz.f82.ntmps = 53 from rfl]; rw [show Tryz.f82.results.toList = [.tmp 6] from rfl] at hfin; refine gxq0 ?_)
  refine Holds.loopM (ι := {k : Nat // k ≤ l.length}) [tt,tt,tt,ff,ff,ff,tt,ff,ff,ff,tt,tt,ff,ff,ff,ff,ff,ff,ff,ff,ff,ff,ff,ff,ff,ff,ff,ff,ff,ff,ff,ff,ff,ff,ff,ff,ff,ff,ff,ff,ff,ff,ff,ff,ff,ff,ff,ff,ff,ff,ff,ff,ff] (fun i => [(11, .int .i64 l.length), (12, .int .i64 i.1), (7, .msl 6 (alK U use l i.1).length 0 (alK U use l i.1).length)]) (fun i => dirZ F Lv U S W ++ [.row ((alK U use l i.1).map (AV.int .i64)) 1 (alK U use l i.1).length]) (fun i => l.length - i.1) ⟨0, Nat.zero_le _⟩ ?_ ?_
  · rw [hL]
    unfold dirZ
    simp only [push_cast, alK, List.map_nil, List.length_nil]
    (refine IntoF.nil 7  1 rfl (gsq ?_))
    exact Into.sameA
  rintro ⟨k, hk⟩
  unfold dirZ
  have hal := alK_len U use l k
  by_cases ck : k < l.length
  case neg =>
    have dk : decide ((k : Int) < (l.length : Int)) = false := decide_eq_false (by omega)
    obtain rfl : k = l.length := by omega
    (refine gxq dk ?_)
    (refine IntoF.frz 6 smo smf (gsq ?_))
    rw [tk_map]
    exact Into.keep6A
  have dk : decide ((k : Int) < (l.length : Int)) = true := decide_eq_true (by omega)
  have hkl : (l.take k).length = k := by rw [List.length_take]; omega
  have htk : List.take k (l.map (AV.int .i64)) = (l.take k).map (AV.int .i64) := by rw [List.map_take]
  have hks : k - 0 = k := Nat.sub_zero k
  have ps := ps126 (l.take k) (l.getD k default)
  have rs := rs126 (l.take k) (l.getD k default)
  have gs := hs126 (l.take k) (l.getD k default)
  rw [hkl] at ps rs gs
  have hc : (decide (0 ≤ l.getD k default) && decide (l.getD k default < (U.length : Int)) && decide (U.getD (l.getD k default).toNat default = use) && !decide (l.getD k default ∈ l.take k)) = decide (tAt U use l k) := by
    rw [Bool.eq_iff_iff]
    simp [tAt, and_assoc]
  by_cases ct : tAt U use l k
  · have dt : decide (tAt U use l k) = true := decide_eq_true ct
    have ea : alK U use l (k + 1) = alK U use l k ++ [l.getD k default] := by rw [alK, if_pos ct]
    ((first | with_reducible refine holds_of_ex X 400 _ _ _ ?_ | skip); simp (maxSteps := 1000000) only [push_cast, reduceCtorEq, Nat.reduceAdd, Nat.reduceMul, Nat.reduceSub, Nat.reduceBEq, Nat.reduceGT, Nat.reduceLT, Int.toNat_zero, Nat.reduceLeDiff, Int.reduceEq, Int.reduceLT, Int.reduceLE, hP, hΓ, hL, hfin, String.reduceEq, Int.toNat_one, Bool.not_not, dk, h126, htk, hks, ps, rs, gs, hc, dt, Bool.cond_self, List.map_nil])
    refine ⟨by omega, by omega, fun h => by (simp only [Bool.and_eq_true, decide_eq_true_eq] at h; omega), fun h => by (simp only [Bool.and_eq_true, decide_eq_true_eq] at h; omega), fun h => by omega, fun h => by omega, by omega, ⟨k + 1, ck⟩, by simp only; omega, ?_⟩
    rw [wr_i64 ((k : Int) + 1) (by constructor <;> omega)]
    simp only [push_cast, ea, List.map_append, List.length_append, List.map_cons, List.map_nil, List.length_singleton]
    exact Into.sameA
  · have dt : decide (tAt U use l k) = false := decide_eq_false ct
    have ea : alK U use l (k + 1) = alK U use l k := by rw [alK, if_neg ct]
    ((first | with_reducible refine holds_of_ex X 400 _ _ _ ?_ | skip); simp (maxSteps := 1000000) only [push_cast, reduceCtorEq, Nat.reduceAdd, Nat.reduceMul, Nat.reduceSub, Nat.reduceBEq, Nat.reduceGT, Nat.reduceLT, Int.toNat_zero, Nat.reduceLeDiff, Int.reduceEq, Int.reduceLT, Int.reduceLE, hP, hΓ, hL, hfin, String.reduceEq, Int.toNat_one, Bool.not_not, dk, h126, htk, hks, ps, rs, gs, hc, dt, Bool.cond_self, List.map_nil])
    refine ⟨by omega, by omega, fun h => by (simp only [Bool.and_eq_true, decide_eq_true_eq] at h; omega), fun h => by (simp only [Bool.and_eq_true, decide_eq_true_eq] at h; omega), fun h => by omega, fun h => by omega, ⟨k + 1, ck⟩, by simp only; omega, ?_⟩
    rw [wr_i64 ((k : Int) + 1) (by constructor <;> omega)]
    simp only [push_cast, ea]
    exact Into.sameA
theorem con82 {Γ : Env} (h : EnvOk Tryz.prog Γ) (h126 : Γ 126 = some S126) : Con Tryz.prog 82 S82 :=
  heapE_con h (fn := Tryz.f82) (by kernel_rfl) rfl (by kernel_rfl) inj82 fun ⟨F, Lv, U, S, W, l, u⟩ h => body82 Γ h126 F Lv U S W l u h.1 h.2
end Go.Proofs.YtbnnhffkbcekcaaGreatDoor.dirDone
end
