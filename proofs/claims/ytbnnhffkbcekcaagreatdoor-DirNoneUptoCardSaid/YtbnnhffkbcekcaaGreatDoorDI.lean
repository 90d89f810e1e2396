/- Of disks: what a directory that is none says; the law of it. Conditions stand in each. -/
import Derived.Test.YtbnnhffkbcekcaaGreatDoorDH
namespace Go.Proofs.YtbnnhffkbcekcaaGreatDoor.dirDone
open Go Go.Eng Go.Proofs
set_option linter.unusedVariables false
set_option linter.unusedSimpArgs false
set_option maxRecDepth 100000
set_option maxHeartbeats 4000000
def e29 : Unit → List AV × Heap := fun _ => ([.lit (.pointer none)], [])
def p29 : Unit → Prop := fun _ => True
def r29 : Unit → AV := fun _ => .lit (.slice none 0 0)
def g29 : Unit → Heap := fun _ => []
theorem inj29 : ∀ a b, e29 a = e29 b → a = b := fun _ _ _ => rfl
noncomputable def S29 : FSpec := heapE true e29 p29 r29 g29
theorem ps29  : pselK e29 p29 ([.lit (.pointer none)], []) = (True) := pselK_at inj29 p29 ()
theorem rs29  : rselK e29 r29 .any ([.lit (.pointer none)], []) = (.lit (.slice none 0 0)) := rselK_at inj29 r29 .any ()
theorem hs29  : rselK e29 g29 [] ([.lit (.pointer none)], []) = ([]) := rselK_at inj29 g29 [] ()
attribute [push_cast] S29 ps29 rs29 hs29
theorem body29 (Γ : Env) : BodyOk Tryz.prog Γ Tryz.f29 [.lit (.pointer none)] [] (.lit (.slice none 0 0)) [] := by
  (intro X hP hΓ hL hfin; refine ⟨_, rfl, ?_⟩; rw [show Tryz.f29.ntmps = 24 from rfl]; rw [show Tryz.f29.results.toList = [.tmp 2] from rfl] at hfin; apply holds_of_ex X 400; simp (maxSteps := 1000000) only [push_cast, reduceCtorEq, Nat.reduceAdd, Nat.reduceMul, Nat.reduceSub, Nat.reduceBEq, Nat.reduceGT, Nat.reduceLT, Int.toNat_zero, Nat.reduceLeDiff, Int.reduceEq, Int.reduceLT, Int.reduceLE, hP, hΓ, hL, hfin, String.reduceEq, Int.toNat_one, Bool.not_not, ])
  exact Into.sameA
theorem con29 {Γ : Env} (h : EnvOk Tryz.prog Γ)  : Con Tryz.prog 29 S29 :=
  heapE_con h (fn := Tryz.f29) (by kernel_rfl) rfl (by kernel_rfl) inj29 fun _ _ => body29 Γ
def e30 : (List UInt8) → List AV × Heap := fun s => ([.lit (.pointer none), .str s], [])
def p30 : (List UInt8) → Prop := fun s => True
def r30 : (List UInt8) → AV := fun s => .tup [.agg [.str [], .int .i64 0, .int .i64 0], .int .i64 1]
def g30 : (List UInt8) → Heap := fun s => []
theorem inj30 : ∀ a b, e30 a = e30 b → a = b := by
  rintro s s' h
  simp only [e30, mi_iff, ms_iff, mb_iff, my_iff, UInt8.toNat_inj, Prod.mk.injEq, List.cons.injEq, AObj.row.injEq, AV.int.injEq, AV.str.injEq, AV.bool.injEq, AV.sl.injEq, AV.agg.injEq, AV.ip.injEq, AV.fn.injEq, AV.ifc.injEq, AV.mpr.injEq, AV.msl.injEq, AV.ref.injEq, Int.natCast_inj, and_true, true_and] at h
  simp_all only
noncomputable def S30 : FSpec := heapE true e30 p30 r30 g30
theorem ps30 (s : (List UInt8)) : pselK e30 p30 ([.lit (.pointer none), .str s], []) = (True) := pselK_at inj30 p30 s
theorem rs30 (s : (List UInt8)) : rselK e30 r30 .any ([.lit (.pointer none), .str s], []) = (.tup [.agg [.str [], .int .i64 0, .int .i64 0], .int .i64 1]) := rselK_at inj30 r30 .any s
theorem hs30 (s : (List UInt8)) : rselK e30 g30 [] ([.lit (.pointer none), .str s], []) = ([]) := rselK_at inj30 g30 [] s
attribute [push_cast] S30 ps30 rs30 hs30
theorem body30 (Γ : Env) (s : List UInt8) : BodyOk Tryz.prog Γ Tryz.f30 [.lit (.pointer none), .str s] [] (.tup [.agg [.str [], .int .i64 0, .int .i64 0], .int .i64 1]) [] := by
  (intro X hP hΓ hL hfin; refine ⟨_, rfl, ?_⟩; rw [show Tryz.f30.ntmps = 28 from rfl]; rw [show Tryz.f30.results.toList = [.cell 4 61, .tmp 5] from rfl] at hfin; apply holds_of_ex X 400; simp (maxSteps := 1000000) only [push_cast, reduceCtorEq, Nat.reduceAdd, Nat.reduceMul, Nat.reduceSub, Nat.reduceBEq, Nat.reduceGT, Nat.reduceLT, Int.toNat_zero, Nat.reduceLeDiff, Int.reduceEq, Int.reduceLT, Int.reduceLE, hP, hΓ, hL, hfin, String.reduceEq, Int.toNat_one, Bool.not_not, ])
  exact Into.one rfl rfl
theorem con30 {Γ : Env} (h : EnvOk Tryz.prog Γ)  : Con Tryz.prog 30 S30 :=
  heapE_con h (fn := Tryz.f30) (by kernel_rfl) rfl (by kernel_rfl) inj30 fun s _ => body30 Γ s
def e32 : (Int) → List AV × Heap := fun n => ([.lit (.pointer none), .int .i64 n], [])
def p32 : (Int) → Prop := fun n => True
def r32 : (Int) → AV := fun n => .int .i64 1
def g32 : (Int) → Heap := fun n => []
theorem inj32 : ∀ a b, e32 a = e32 b → a = b := by
  rintro n n' h
  simp only [e32, mi_iff, ms_iff, mb_iff, my_iff, UInt8.toNat_inj, Prod.mk.injEq, List.cons.injEq, AObj.row.injEq, AV.int.injEq, AV.str.injEq, AV.bool.injEq, AV.sl.injEq, AV.agg.injEq, AV.ip.injEq, AV.fn.injEq, AV.ifc.injEq, AV.mpr.injEq, AV.msl.injEq, AV.ref.injEq, Int.natCast_inj, and_true, true_and] at h
  simp_all only
noncomputable def S32 : FSpec := heapE true e32 p32 r32 g32
theorem ps32 (n : (Int)) : pselK e32 p32 ([.lit (.pointer none), .int .i64 n], []) = (True) := pselK_at inj32 p32 n
theorem rs32 (n : (Int)) : rselK e32 r32 .any ([.lit (.pointer none), .int .i64 n], []) = (.int .i64 1) := rselK_at inj32 r32 .any n
theorem hs32 (n : (Int)) : rselK e32 g32 [] ([.lit (.pointer none), .int .i64 n], []) = ([]) := rselK_at inj32 g32 [] n
attribute [push_cast] S32 ps32 rs32 hs32
theorem body32 (Γ : Env) (n : Int) : BodyOk Tryz.prog Γ Tryz.f32 [.lit (.pointer none), .int .i64 n] [] (.int .i64 1) [] := by
  (intro X hP hΓ hL hfin; refine ⟨_, rfl, ?_⟩; rw [show Tryz.f32.ntmps = 17 from rfl]; rw [show Tryz.f32.results.toList = [.tmp 4] from rfl] at hfin; apply holds_of_ex X 400; simp (maxSteps := 1000000) only [push_cast, reduceCtorEq, Nat.reduceAdd, Nat.reduceMul, Nat.reduceSub, Nat.reduceBEq, Nat.reduceGT, Nat.reduceLT, Int.toNat_zero, Nat.reduceLeDiff, Int.reduceEq, Int.reduceLT, Int.reduceLE, hP, hΓ, hL, hfin, String.reduceEq, Int.toNat_one, Bool.not_not, ])
  exact Into.sameA
theorem con32 {Γ : Env} (h : EnvOk Tryz.prog Γ)  : Con Tryz.prog 32 S32 :=
  heapE_con h (fn := Tryz.f32) (by kernel_rfl) rfl (by kernel_rfl) inj32 fun n _ => body32 Γ n
def e33 : Unit → List AV × Heap := fun _ => ([.lit (.pointer none)], [])
def p33 : Unit → Prop := fun _ => True
def r33 : Unit → AV := fun _ => .tup [.int .i64 0, .int .i64 1]
def g33 : Unit → Heap := fun _ => []
theorem inj33 : ∀ a b, e33 a = e33 b → a = b := fun _ _ _ => rfl
noncomputable def S33 : FSpec := heapE true e33 p33 r33 g33
theorem ps33  : pselK e33 p33 ([.lit (.pointer none)], []) = (True) := pselK_at inj33 p33 ()
theorem rs33  : rselK e33 r33 .any ([.lit (.pointer none)], []) = (.tup [.int .i64 0, .int .i64 1]) := rselK_at inj33 r33 .any ()
theorem hs33  : rselK e33 g33 [] ([.lit (.pointer none)], []) = ([]) := rselK_at inj33 g33 [] ()
attribute [push_cast] S33 ps33 rs33 hs33
theorem body33 (Γ : Env) : BodyOk Tryz.prog Γ Tryz.f33 [.lit (.pointer none)] [] (.tup [.int .i64 0, .int .i64 1]) [] := by
  (intro X hP hΓ hL hfin; refine ⟨_, rfl, ?_⟩; rw [show Tryz.f33.ntmps = 21 from rfl]; rw [show Tryz.f33.results.toList = [.tmp 2, .tmp 3] from rfl] at hfin; apply holds_of_ex X 400; simp (maxSteps := 1000000) only [push_cast, reduceCtorEq, Nat.reduceAdd, Nat.reduceMul, Nat.reduceSub, Nat.reduceBEq, Nat.reduceGT, Nat.reduceLT, Int.toNat_zero, Nat.reduceLeDiff, Int.reduceEq, Int.reduceLT, Int.reduceLE, hP, hΓ, hL, hfin, String.reduceEq, Int.toNat_one, Bool.not_not, ])
  exact Into.sameA
theorem con33 {Γ : Env} (h : EnvOk Tryz.prog Γ)  : Con Tryz.prog 33 S33 :=
  heapE_con h (fn := Tryz.f33) (by kernel_rfl) rfl (by kernel_rfl) inj33 fun _ _ => body33 Γ
def e34 : (List UInt8) → List AV × Heap := fun s => ([.lit (.pointer none), .agg [.str s, .int .i64 0, .int .i64 0]], [])
def p34 : (List UInt8) → Prop := fun s => True
def r34 : (List UInt8) → AV := fun s => .int .i64 1
def g34 : (List UInt8) → Heap := fun s => []
theorem inj34 : ∀ a b, e34 a = e34 b → a = b := by
  rintro s s' h
  simp only [e34, mi_iff, ms_iff, mb_iff, my_iff, UInt8.toNat_inj, Prod.mk.injEq, List.cons.injEq, AObj.row.injEq, AV.int.injEq, AV.str.injEq, AV.bool.injEq, AV.sl.injEq, AV.agg.injEq, AV.ip.injEq, AV.fn.injEq, AV.ifc.injEq, AV.mpr.injEq, AV.msl.injEq, AV.ref.injEq, Int.natCast_inj, and_true, true_and] at h
  simp_all only
noncomputable def S34 : FSpec := heapE true e34 p34 r34 g34
theorem ps34 (s : (List UInt8)) : pselK e34 p34 ([.lit (.pointer none), .agg [.str s, .int .i64 0, .int .i64 0]], []) = (True) := pselK_at inj34 p34 s
theorem rs34 (s : (List UInt8)) : rselK e34 r34 .any ([.lit (.pointer none), .agg [.str s, .int .i64 0, .int .i64 0]], []) = (.int .i64 1) := rselK_at inj34 r34 .any s
theorem hs34 (s : (List UInt8)) : rselK e34 g34 [] ([.lit (.pointer none), .agg [.str s, .int .i64 0, .int .i64 0]], []) = ([]) := rselK_at inj34 g34 [] s
attribute [push_cast] S34 ps34 rs34 hs34
theorem body34 (Γ : Env) (s : List UInt8) : BodyOk Tryz.prog Γ Tryz.f34 [.lit (.pointer none), .agg [.str s, .int .i64 0, .int .i64 0]] [] (.int .i64 1) [] := by
  (intro X hP hΓ hL hfin; refine ⟨_, rfl, ?_⟩; rw [show Tryz.f34.ntmps = 87 from rfl]; rw [show Tryz.f34.results.toList = [.tmp 4] from rfl] at hfin; apply holds_of_ex X 400; simp (maxSteps := 1000000) only [push_cast, reduceCtorEq, Nat.reduceAdd, Nat.reduceMul, Nat.reduceSub, Nat.reduceBEq, Nat.reduceGT, Nat.reduceLT, Int.toNat_zero, Nat.reduceLeDiff, Int.reduceEq, Int.reduceLT, Int.reduceLE, hP, hΓ, hL, hfin, String.reduceEq, Int.toNat_one, Bool.not_not, ])
  exact Into.one rfl rfl
theorem con34 {Γ : Env} (h : EnvOk Tryz.prog Γ)  : Con Tryz.prog 34 S34 :=
  heapE_con h (fn := Tryz.f34) (by kernel_rfl) rfl (by kernel_rfl) inj34 fun s _ => body34 Γ s
def e35 : (List UInt8) → List AV × Heap := fun s => ([.lit (.pointer none), .str s], [])
def p35 : (List UInt8) → Prop := fun s => True
def r35 : (List UInt8) → AV := fun s => .int .i64 1
def g35 : (List UInt8) → Heap := fun s => []
theorem inj35 : ∀ a b, e35 a = e35 b → a = b := by
  rintro s s' h
  simp only [e35, mi_iff, ms_iff, mb_iff, my_iff, UInt8.toNat_inj, Prod.mk.injEq, List.cons.injEq, AObj.row.injEq, AV.int.injEq, AV.str.injEq, AV.bool.injEq, AV.sl.injEq, AV.agg.injEq, AV.ip.injEq, AV.fn.injEq, AV.ifc.injEq, AV.mpr.injEq, AV.msl.injEq, AV.ref.injEq, Int.natCast_inj, and_true, true_and] at h
  simp_all only
noncomputable def S35 : FSpec := heapE true e35 p35 r35 g35
theorem ps35 (s : (List UInt8)) : pselK e35 p35 ([.lit (.pointer none), .str s], []) = (True) := pselK_at inj35 p35 s
theorem rs35 (s : (List UInt8)) : rselK e35 r35 .any ([.lit (.pointer none), .str s], []) = (.int .i64 1) := rselK_at inj35 r35 .any s
theorem hs35 (s : (List UInt8)) : rselK e35 g35 [] ([.lit (.pointer none), .str s], []) = ([]) := rselK_at inj35 g35 [] s
attribute [push_cast] S35 ps35 rs35 hs35
theorem body35 (Γ : Env) (s : List UInt8) : BodyOk Tryz.prog Γ Tryz.f35 [.lit (.pointer none), .str s] [] (.int .i64 1) [] := by
  (intro X hP hΓ hL hfin; refine ⟨_, rfl, ?_⟩; rw [show Tryz.f35.ntmps = 42 from rfl]; rw [show Tryz.f35.results.toList = [.tmp 4] from rfl] at hfin; apply holds_of_ex X 400; simp (maxSteps := 1000000) only [push_cast, reduceCtorEq, Nat.reduceAdd, Nat.reduceMul, Nat.reduceSub, Nat.reduceBEq, Nat.reduceGT, Nat.reduceLT, Int.toNat_zero, Nat.reduceLeDiff, Int.reduceEq, Int.reduceLT, Int.reduceLE, hP, hΓ, hL, hfin, String.reduceEq, Int.toNat_one, Bool.not_not, ])
  exact Into.sameA
theorem con35 {Γ : Env} (h : EnvOk Tryz.prog Γ)  : Con Tryz.prog 35 S35 :=
  heapE_con h (fn := Tryz.f35) (by kernel_rfl) rfl (by kernel_rfl) inj35 fun s _ => body35 Γ s
def e36 : (List UInt8) × (List UInt8) → List AV × Heap := fun (s, t) => ([.lit (.pointer none), .str s, .str t], [])
def p36 : (List UInt8) × (List UInt8) → Prop := fun (s, t) => True
def r36 : (List UInt8) × (List UInt8) → AV := fun (s, t) => .int .i64 1
def g36 : (List UInt8) × (List UInt8) → Heap := fun (s, t) => []
theorem inj36 : ∀ a b, e36 a = e36 b → a = b := by
  rintro ⟨s, t⟩ ⟨s', t'⟩ h
  simp only [e36, mi_iff, ms_iff, mb_iff, my_iff, UInt8.toNat_inj, Prod.mk.injEq, List.cons.injEq, AObj.row.injEq, AV.int.injEq, AV.str.injEq, AV.bool.injEq, AV.sl.injEq, AV.agg.injEq, AV.ip.injEq, AV.fn.injEq, AV.ifc.injEq, AV.mpr.injEq, AV.msl.injEq, AV.ref.injEq, Int.natCast_inj, and_true, true_and] at h
  simp_all only
noncomputable def S36 : FSpec := heapE true e36 p36 r36 g36
theorem ps36 (s : (List UInt8)) (t : (List UInt8)) : pselK e36 p36 ([.lit (.pointer none), .str s, .str t], []) = (True) := pselK_at inj36 p36 (s, t)
theorem rs36 (s : (List UInt8)) (t : (List UInt8)) : rselK e36 r36 .any ([.lit (.pointer none), .str s, .str t], []) = (.int .i64 1) := rselK_at inj36 r36 .any (s, t)
theorem hs36 (s : (List UInt8)) (t : (List UInt8)) : rselK e36 g36 [] ([.lit (.pointer none), .str s, .str t], []) = ([]) := rselK_at inj36 g36 [] (s, t)
attribute [push_cast] S36 ps36 rs36 hs36
theorem body36 (Γ : Env) (s t : List UInt8) : BodyOk Tryz.prog Γ Tryz.f36 [.lit (.pointer none), .str s, .str t] [] (.int .i64 1) [] := by
  (intro X hP hΓ hL hfin; refine ⟨_, rfl, ?_⟩; rw [show Tryz.f36.ntmps = 50 from rfl]; rw [show Tryz.f36.results.toList = [.tmp 6] from rfl] at hfin; apply holds_of_ex X 400; simp (maxSteps := 1000000) only [push_cast, reduceCtorEq, Nat.reduceAdd, Nat.reduceMul, Nat.reduceSub, Nat.reduceBEq, Nat.reduceGT, Nat.reduceLT, Int.toNat_zero, Nat.reduceLeDiff, Int.reduceEq, Int.reduceLT, Int.reduceLE, hP, hΓ, hL, hfin, String.reduceEq, Int.toNat_one, Bool.not_not, ])
  exact Into.sameA
theorem con36 {Γ : Env} (h : EnvOk Tryz.prog Γ)  : Con Tryz.prog 36 S36 :=
  heapE_con h (fn := Tryz.f36) (by kernel_rfl) rfl (by kernel_rfl) inj36 fun ⟨s, t⟩ _ => body36 Γ s t
def e38 : Unit → List AV × Heap := fun _ => ([.lit (.pointer none)], [])
def p38 : Unit → Prop := fun _ => True
def r38 : Unit → AV := fun _ => .lit (.pointer none)
def g38 : Unit → Heap := fun _ => []
theorem inj38 : ∀ a b, e38 a = e38 b → a = b := fun _ _ _ => rfl
noncomputable def S38 : FSpec := heapE true e38 p38 r38 g38
theorem ps38  : pselK e38 p38 ([.lit (.pointer none)], []) = (True) := pselK_at inj38 p38 ()
theorem rs38  : rselK e38 r38 .any ([.lit (.pointer none)], []) = (.lit (.pointer none)) := rselK_at inj38 r38 .any ()
theorem hs38  : rselK e38 g38 [] ([.lit (.pointer none)], []) = ([]) := rselK_at inj38 g38 [] ()
attribute [push_cast] S38 ps38 rs38 hs38
theorem body38 (Γ : Env) : BodyOk Tryz.prog Γ Tryz.f38 [.lit (.pointer none)] [] (.lit (.pointer none)) [] := by
  (intro X hP hΓ hL hfin; refine ⟨_, rfl, ?_⟩; rw [show Tryz.f38.ntmps = 9 from rfl]; rw [show Tryz.f38.results.toList = [.tmp 2] from rfl] at hfin; apply holds_of_ex X 400; simp (maxSteps := 1000000) only [push_cast, reduceCtorEq, Nat.reduceAdd, Nat.reduceMul, Nat.reduceSub, Nat.reduceBEq, Nat.reduceGT, Nat.reduceLT, Int.toNat_zero, Nat.reduceLeDiff, Int.reduceEq, Int.reduceLT, Int.reduceLE, hP, hΓ, hL, hfin, String.reduceEq, Int.toNat_one, Bool.not_not, ])
  exact Into.sameA
theorem con38 {Γ : Env} (h : EnvOk Tryz.prog Γ)  : Con Tryz.prog 38 S38 :=
  heapE_con h (fn := Tryz.f38) (by kernel_rfl) rfl (by kernel_rfl) inj38 fun _ _ => body38 Γ
theorem body10 (Γ : Env) (h25 : Γ 25 = some S25) (h18 : Γ 18 = some S18) (h37 : Γ 37 = some S37) (h19 : Γ 19 = some S19) (h29 : Γ 29 = some S29) (h30 : Γ 30 = some S30) (h32 : Γ 32 = some S32) (h33 : Γ 33 = some S33) (h34 : Γ 34 = some S34) (h35 : Γ 35 = some S35) (h36 : Γ 36 = some S36) (h38 : Γ 38 = some S38) (s : List UInt8) (n : Int) : BodyOk Tryz.prog Γ Tryz.f10 [.str s, .int .i64 n] [] (.bool true) [] := by
  (intro X hP hΓ hL hfin; refine ⟨_, rfl, ?_⟩; rw [show Tryz.f10.ntmps = 105 from rfl]; rw [show Tryz.f10.results.toList = [.tmp 4] from rfl] at hfin; apply holds_of_ex X 400; simp (maxSteps := 1000000) only [push_cast, reduceCtorEq, Nat.reduceAdd, Nat.reduceMul, Nat.reduceSub, Nat.reduceBEq, Nat.reduceGT, Nat.reduceLT, Int.toNat_zero, Nat.reduceLeDiff, Int.reduceEq, Int.reduceLT, Int.reduceLE, hP, hΓ, hL, hfin, String.reduceEq, Int.toNat_one, Bool.not_not, h25, h18, h37, h19, h29, h30, h32, h33, h34, h35, h36, h38])
  exact Into.one rfl rfl
end Go.Proofs.YtbnnhffkbcekcaaGreatDoor.dirDone
