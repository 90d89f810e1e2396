/- Of objects: the bytes that the program lays, all of them. Conditions stand in each. -/
import Derived.Test.YtmilngcgcolpbaaGreatOW
namespace Go.Proofs.YtmilngcgcolpbaaGreat.objDone
open Go Go.Eng Go.Proofs
open Go.Proofs.YtmilngcgcolpbaaGreat.objNumbersDone (enc hi7 lo7 q7 enc_len m32 BIG appG)
set_option linter.unusedVariables false
set_option linter.unusedSimpArgs false
set_option maxRecDepth 100000
set_option maxHeartbeats 4000000
/-- a sum over bytes -/
def stS (h : Int) (c : UInt8) : Int := IntKind.u32.wrap (ibits .xor .u32 h (c.toNat : Int) * 16777619)
def sumI (l : Bytes) : Int := l.foldl stS 2166136261
theorem sumI_succ (l : Bytes) (k : Nat) (h : k < l.length) : sumI (l.take (k + 1)) = stS (sumI (l.take k)) (l.getD k 0) := by
  have e : l.take (k + 1) = l.take k ++ [l.getD k 0] := by rw [List.take_add_one]; simp [List.getD, h]
  rw [sumI, e, List.foldl_append]; rfl
theorem wr_c32 (c : UInt8) : IntKind.u32.wrap (c.toNat : Int) = (c.toNat : Int) := by
  have := c.toNat_lt
  simp [IntKind.wrap, IntKind.bits, IntKind.signed]; omega
def e42 : (Bytes) × (Nat) → List AV := fun (l, n) => [.sl (l.map byteAV) n]
def p42 : (Bytes) × (Nat) → Prop := fun (l, n) => n = l.length ∧ l.length ≤ BIG
def r42 : (Bytes) × (Nat) → AV := fun (l, n) => .int .u32 (sumI l)
def g42 : (Bytes) × (Nat) → Heap := fun (l, n) => []
theorem inj42 : ∀ a b, e42 a = e42 b → a = b := by
  rintro ⟨l, n⟩ ⟨l', n'⟩ h
  simp only [e42, mi_iff, ms_iff, mb_iff, my_iff, fI_iff, fD_iff, fF_iff, oc_iff, dc_iff, fc_iff, ic_iff, tm_iff, List.cons.injEq, AV.int.injEq, AV.str.injEq, AV.bool.injEq, AV.sl.injEq, AV.agg.injEq, AV.ip.injEq, AV.fn.injEq, AV.ifc.injEq, AV.mpr.injEq, Int.natCast_inj, and_true, true_and] at h
  simp_all only
noncomputable def S42 : FSpec := funS e42 p42 r42 g42 true
theorem ps42 (l : (Bytes)) (n : (Nat)) : psel e42 p42 [.sl (l.map byteAV) n] = (n = l.length ∧ l.length ≤ BIG) := psel_at inj42 p42 (l, n)
theorem rs42 (l : (Bytes)) (n : (Nat)) : rsel e42 r42 .any [.sl (l.map byteAV) n] = (.int .u32 (sumI l)) := rsel_at inj42 r42 .any (l, n)
theorem hs42 (l : (Bytes)) (n : (Nat)) : rsel e42 g42 [] [.sl (l.map byteAV) n] = ([]) := rsel_at inj42 g42 [] (l, n)
attribute [push_cast] S42 ps42 rs42 hs42
theorem body42 (Γ : Env) (l : Bytes) (hl : l.length ≤ BIG) : BodyOk Tryz.prog Γ Tryz.f13 (e42 (l, l.length)) [] (.int .u32 (sumI l)) [] := by
  have hB : (BIG : Nat) = 140737488355328 := rfl
  (intro X hP hΓ hL hfin; refine ⟨_, rfl, ?_⟩; rw [show Tryz.f13.ntmps = 19 from rfl]; rw [show Tryz.f13.results.toList = [.tmp 2] from rfl] at hfin; apply holds_of_ex X 400; simp (maxSteps := 1000000) only [push_cast, reduceCtorEq, Nat.reduceAdd, Nat.reduceMul, Nat.reduceSub, Nat.reduceBEq, Nat.reduceGT, Nat.reduceLT, Int.toNat_zero, Nat.reduceLeDiff, Int.reduceEq, Int.reduceLT, Int.reduceLE, hP, hΓ, hL, hfin, ↓tm_get, e42])
  refine Holds.loopM (ι := {k : Nat // k ≤ l.length}) [false, false, true, false, false, false, true, true, false, false, false, false, false, false, false, false, false, false, false] (fun i => [(3, .int .u32 (sumI (l.take i.1))), (8, .int .i64 i.1)]) (fun i => []) (fun i => l.length - i.1) ⟨0, Nat.zero_le _⟩ ?_ ?_
  · (rw [hL]; simp only [push_cast, Int.natCast_zero, List.take_zero, sumI, List.foldl_nil]; exact Into.sameA)
  rintro ⟨k, hk⟩
  ((first | with_reducible refine holds_of_ex X 400 _ _ _ ?_ | skip); simp (maxSteps := 1000000) only [push_cast, reduceCtorEq, Nat.reduceAdd, Nat.reduceMul, Nat.reduceSub, Nat.reduceBEq, Nat.reduceGT, Nat.reduceLT, Int.toNat_zero, Nat.reduceLeDiff, Int.reduceEq, Int.reduceLT, Int.reduceLE, hP, hΓ, hL, hfin, ↓tm_get])
  ((with_reducible refine exB_split (fun h => ?_) (fun h => ?_)) <;> (try simp only [decide_eq_true_eq, decide_eq_false_iff_not, Bool.and_eq_true, Bool.or_eq_true, Bool.and_eq_false_iff, Bool.or_eq_false_iff, Bool.not_eq_true', Bool.not_eq_false', Bool.not_eq_true, Bool.not_eq_false, Int.not_lt, Int.not_le, beq_iff_eq, beq_eq_false_iff_ne, ne_eq, win_t, win_f] at h))
  · have hk' : k < l.length := by omega
    ((first | with_reducible refine holds_of_ex X 400 _ _ _ ?_ | skip); simp (maxSteps := 1000000) only [push_cast, reduceCtorEq, Nat.reduceAdd, Nat.reduceMul, Nat.reduceSub, Nat.reduceBEq, Nat.reduceGT, Nat.reduceLT, Int.toNat_zero, Nat.reduceLeDiff, Int.reduceEq, Int.reduceLT, Int.reduceLE, hP, hΓ, hL, hfin, ↓tm_get, wr_i64 ((k : Int) + 1) (by constructor <;> omega), hk', wr_c32])
    (repeat (refine And.intro (by first | exact True.intro | omega | assumption | exact own_row _ | (simp only [List.length_append]; omega) | (intro hg; (try simp only [decide_eq_true_eq, decide_eq_false_iff_not, Bool.and_eq_true, Bool.or_eq_true, Bool.and_eq_false_iff, Bool.or_eq_false_iff, Bool.not_eq_true', Bool.not_eq_false', Bool.not_eq_true, Bool.not_eq_false, Int.not_lt, Int.not_le, beq_iff_eq, beq_eq_false_iff_ne, ne_eq, win_t, win_f] at hg); omega)) ?_))
    rw [show IntKind.u32.wrap (ibits .xor .u32 (sumI (l.take k)) ((l.getD k 0).toNat : Int) * 16777619) = sumI (l.take (k + 1)) from (sumI_succ l k hk').symm]
    (refine ⟨⟨k + 1, hk'⟩, by (try simp only [List.length_cons, List.length_append, List.length_nil]); omega, ?_⟩; (try rw [hL]); (try simp only [push_cast, Int.natCast_zero]); first | (exact Into.sameA) | (exact Into.keep0A) | (exact Into.keep1A) | (exact Into.keep2A) | (exact Into.keep3A))
  · obtain rfl : k = l.length := by omega
    ((first | with_reducible refine holds_of_ex X 400 _ _ _ ?_ | skip); simp (maxSteps := 1000000) only [push_cast, reduceCtorEq, Nat.reduceAdd, Nat.reduceMul, Nat.reduceSub, Nat.reduceBEq, Nat.reduceGT, Nat.reduceLT, Int.toNat_zero, Nat.reduceLeDiff, Int.reduceEq, Int.reduceLT, Int.reduceLE, hP, hΓ, hL, hfin, ↓tm_get])
    exact Into.one (by rw [List.take_length]) rfl
theorem con42 {Γ : Env} (h : EnvOk Tryz.prog Γ)  : Con Tryz.prog 13 S42 :=
  funS_con h (fn := Tryz.f13) (by kernel_rfl) rfl (by kernel_rfl) inj42 (by first | (intro h; cases h; done) | exact fun _ _ => rfl) fun ⟨l, n⟩ h => by obtain ⟨rfl, h⟩ := h; exact body42 Γ l h
/-- bounds of what may be -/
theorem formed_b {o : Ob} (h : formedB o = true) : o.imps.length ≤ 16 ∧ o.code.length ≤ 65536 ∧ o.procs.length ≤ 100 ∧ o.names.length = o.procs.length ∧ o.exps.length = o.procs.length ∧ o.vars.length ≤ 200 ∧ o.shown.length ≤ 200 ∧ o.strs.length ≤ 200 ∧ o.descs.length ≤ 200 ∧ o.fixes.length ≤ 65536 := by
  simp only [formedB, Bool.and_eq_true, Bool.not_eq_true', Bool.or_eq_false_iff, decide_eq_false_iff_not, Bool.not_eq_false', win_t, decide_eq_true_eq] at h
  omega
theorem allP_at {α : Type} [Inhabited α] {p : Nat → α → Bool} {xs : List α} {n : Nat} (h : allP p xs n = true) {i : Nat} (hi : i < n) : p i (xs.getD i default) = true := by
  simp only [allP, List.all_eq_true, List.mem_range] at h
  exact h i hi
theorem formed_fix {o : Ob} (h : formedB o = true) : ∀ x ∈ o.fixes, x.m ≤ 1000000000 ∧ -1000000000 ≤ x.m := by
  have hb := formed_b h
  intro x hx
  obtain ⟨i, hi, rfl⟩ := List.mem_iff_getElem.1 hx
  simp only [formedB, Bool.and_eq_true] at h
  have := allP_at h.2.2 hi
  simp only [q64, fixB, Bool.and_eq_true, win_t] at this
  have e : o.fixes.getD i default = o.fixes[i] := by simp [List.getD, hi]
  rw [e] at this
  omega
/-- the bytes ahead of the sum -/
def magic : Bytes := [67, 82, 79, 49]
def bodyO (o : Ob) : Bytes := magic ++ txt o.name ++ le4 o.key ++ rI o.imps ++ rW o.code ++ encPs o o.procs ++ num o.init ++ encNs o.vars ++ encNs o.shown ++ rS o.strs ++ rD o.descs ++ rF o.fixes
def bytesO (o : Ob) : Bytes := bodyO o ++ le4 (sumI (bodyO o))
def okB (o : Ob) : Bool := formedB o && decide ((bytesO o).length ≤ 1048576)
def encV (o : Ob) : Bytes := if okB o then bytesO o else []
def encE (o : Ob) : Int := if okB o then 0 else 70
def e18 : (Ob) → List AV := fun o => [.agg o.c]
def p18 : (Ob) → Prop := fun o => o.ok
def r18 : (Ob) → AV := fun o => .tup [.msl 0 0 0 (encV o).length, .int .i64 (encE o)]
def g18 : (Ob) → Heap := fun o => [.row ((encV o).map byteAV) 1 0]
theorem inj18 : ∀ a b, e18 a = e18 b → a = b := by
  rintro o o' h
  simp only [e18, mi_iff, ms_iff, mb_iff, my_iff, fI_iff, fD_iff, fF_iff, oc_iff, dc_iff, fc_iff, ic_iff, tm_iff, List.cons.injEq, AV.int.injEq, AV.str.injEq, AV.bool.injEq, AV.sl.injEq, AV.agg.injEq, AV.ip.injEq, AV.fn.injEq, AV.ifc.injEq, AV.mpr.injEq, Int.natCast_inj, and_true, true_and] at h
  simp_all only
noncomputable def S18 : FSpec := funS e18 p18 r18 g18 false
theorem ps18 (o : (Ob)) : psel e18 p18 [.agg o.c] = (o.ok) := psel_at inj18 p18 o
theorem rs18 (o : (Ob)) : rsel e18 r18 .any [.agg o.c] = (.tup [.msl 0 0 0 (encV o).length, .int .i64 (encE o)]) := rsel_at inj18 r18 .any o
theorem hs18 (o : (Ob)) : rsel e18 g18 [] [.agg o.c] = ([.row ((encV o).map byteAV) 1 0]) := rsel_at inj18 g18 [] o
attribute [push_cast] S18 ps18 rs18 hs18
theorem body18 (Γ : Env) (h23 : Γ 27 = some S23) (h25 : Γ 55 = some S25) (h27 : Γ 53 = some S27) (h28 : Γ 54 = some S28) (h29 : Γ 56 = some S29) (h31 : Γ 58 = some S31) (h33 : Γ 60 = some S33) (h36 : Γ 63 = some S36) (h38 : Γ 65 = some S38) (h40 : Γ 67 = some S40) (h42 : Γ 13 = some S42)
    (o : Ob) (ho : o.ok) : BodyOk Tryz.prog Γ Tryz.f46 (e18 o) [] (.tup [.msl 0 0 0 (encV o).length, .int .i64 (encE o)]) [.row ((encV o).map byteAV) 1 0] := by
  have hB : (BIG : Nat) = 140737488355328 := rfl
  have hSM : SM = 1048576 := rfl
  (intro X hP hΓ hL hfin; refine ⟨_, rfl, ?_⟩; rw [show Tryz.f46.ntmps = 62 from rfl]; rw [show Tryz.f46.results.toList = [.tmp 2, .tmp 3] from rfl] at hfin; apply holds_of_ex X 400; simp (maxSteps := 1000000) only [push_cast, reduceCtorEq, Nat.reduceAdd, Nat.reduceMul, Nat.reduceSub, Nat.reduceBEq, Nat.reduceGT, Nat.reduceLT, Int.toNat_zero, Nat.reduceLeDiff, Int.reduceEq, Int.reduceLT, Int.reduceLE, hP, hΓ, hL, hfin, ↓tm_get, e18, h27])
  refine ⟨ho, ?_⟩
  refine exB_split (fun h => ?_) (fun h => ?_)
  · have hf : formedB o = false := by simpa using h
    have hk : okB o = false := by rw [okB, hf]; rfl
    ((first | with_reducible refine holds_of_ex X 400 _ _ _ ?_ | skip); simp (maxSteps := 1000000) only [push_cast, reduceCtorEq, Nat.reduceAdd, Nat.reduceMul, Nat.reduceSub, Nat.reduceBEq, Nat.reduceGT, Nat.reduceLT, Int.toNat_zero, Nat.reduceLeDiff, Int.reduceEq, Int.reduceLT, Int.reduceLE, hP, hΓ, hL, hfin, ↓tm_get])
    rw [show encV o = [] by rw [encV, hk]; rfl, show encE o = 70 by rw [encE, hk]; rfl]
    refine IntoF.nilT 0 0 1 _ rfl rfl ?_
    exact Into.pick1 (by simp [leF, renL, ren]) (by simp only [push_cast]) (by simp [scp, scpL]) (by simp only [push_cast])
  have hf : formedB o = true := by simpa using h
  have hb := formed_b hf
  have hx := formed_fix hf
  have ht := txt_len o.name
  have hn := ho.name
  ((first | with_reducible refine holds_of_ex X 400 _ _ _ ?_ | skip); simp (maxSteps := 1000000) only [push_cast, reduceCtorEq, Nat.reduceAdd, Nat.reduceMul, Nat.reduceSub, Nat.reduceBEq, Nat.reduceGT, Nat.reduceLT, Int.toNat_zero, Nat.reduceLeDiff, Int.reduceEq, Int.reduceLT, Int.reduceLE, hP, hΓ, hL, hfin, ↓tm_get])
  (refine Holds.drawn (extH [.row o.c 13 0]) [0, 1, 4, 7] (by rw [hP]; kernel_rfl) (by kernel_rfl) (by kernel_rfl) (by first | exact ⟨_, [], rfl⟩ | exact ⟨_, _, rfl⟩ | (simp only [push_cast]; done) | exact ⟨[], by simp⟩) ?_; simp (maxSteps := 1000000) only [↓reduceIte, Option.getD_some, push_cast, reduceCtorEq, Nat.reduceAdd, Nat.reduceMul, Nat.reduceSub, Nat.reduceBEq, Nat.reduceGT, Nat.reduceLT, Int.toNat_zero, Nat.reduceLeDiff, Int.reduceEq, Int.reduceLT, Int.reduceLE, hP, hΓ, hL, hfin, ↓tm_get, h25, h28])
  refine ⟨⟨own_row' magic rfl rfl, by omega⟩, ⟨own_row' (magic ++ txt o.name) (by simp [magic, byteAV]) (by simp [magic]; omega), by omega⟩, ?_⟩
  obtain ⟨q, hq⟩ : ∃ q, q = magic ++ txt o.name ++ le4 o.key := ⟨_, rfl⟩
  have eb : AV.int .u8 67 :: AV.int .u8 82 :: AV.int .u8 79 :: AV.int .u8 49 :: (List.map byteAV (txt o.name) ++ List.map byteAV (le4 o.key)) = q.map byteAV := by rw [hq]; simp [magic, byteAV]
  have en : 4 + (txt o.name).length + (le4 o.key).length = q.length := by rw [hq]; simp [magic]; omega
  have hql : q.length ≤ 1048600 := by rw [hq]; simp [magic, le4]; omega
  rw [eb, en]
  have hbo : bodyO o = q ++ rI o.imps ++ rW o.code ++ encPs o o.procs ++ num o.init ++ encNs o.vars ++ encNs o.shown ++ rS o.strs ++ rD o.descs ++ rF o.fixes := by rw [hq]; rfl
  clear hq eb en
  have bI : (rI o.imps).length ≤ 5 + o.imps.length * 1048600 := by
    have h1 := num_len o.imps.length
    have h2 := rowB_len (fun _ x => encI x) o.imps 1048600 o.imps.length fun i hi => by
      have := ho.imp _ (at_mem hi); have := txt_len (o.imps.getD i default).name; simp only [encI, le4, List.length_append, List.length_cons, List.length_nil]; omega
    simp only [rI, List.length_append]; omega
  have bW : (rW o.code).length ≤ 5 + o.code.length * 4 := by
    have h1 := num_len o.code.length
    have h2 := rowB_len (fun _ x => le4 x) o.code 4 o.code.length fun i hi => by simp [le4]
    simp only [rW, List.length_append]; omega
  have bP : (encPs o o.procs).length ≤ 5 + o.procs.length * 1048600 := by
    have h1 := num_len o.procs.length
    have h2 := rowB_len (encP o) o.procs 1048600 o.procs.length fun i hi => encP_len ho i _ (by omega)
    simp only [encPs, List.length_append]; omega
  have bN := num_len o.init
  have bV := encNs_len o.vars
  have bH := encNs_len o.shown
  have bS : (rS o.strs).length ≤ 5 + o.strs.length * 1048600 := by
    have h1 := num_len o.strs.length
    have h2 := rowB_len (fun _ x => txt x) o.strs 1048600 o.strs.length fun i hi => by have := ho.str _ (at_mem hi); have := txt_len (o.strs.getD i default); omega
    simp only [rS, List.length_append]; omega
  have bD : (rD o.descs).length ≤ 5 + o.descs.length * 5242900 := by
    have h1 := num_len o.descs.length
    have h2 := rowB_len (fun _ x => encD x) o.descs 5242900 o.descs.length fun i hi => by
      have := ho.des _ (at_mem hi); have := encNs_len (o.descs.getD i default).tags; have := num_len (o.descs.getD i default).ty; have := num_len (o.descs.getD i default).size; simp only [encD, List.length_append]; omega
    simp only [rD, List.length_append]; omega
  have bF : (rF o.fixes).length ≤ 5 + o.fixes.length * 16 := by
    have h1 := num_len o.fixes.length
    have h2 := rowB_len (fun _ x => encF x) o.fixes 16 o.fixes.length fun i hi => by
      have := num_len (o.fixes.getD i default).at_; have := num_len ((o.fixes.getD i default).m + 1); have := num_len (o.fixes.getD i default).n; simp only [encF, List.length_append, List.length_cons, List.length_nil]; omega
    simp only [rF, List.length_append]; omega
  ((first | with_reducible refine holds_of_ex X 400 _ _ _ ?_ | skip); simp (maxSteps := 1000000) only [push_cast, reduceCtorEq, Nat.reduceAdd, Nat.reduceMul, Nat.reduceSub, Nat.reduceBEq, Nat.reduceGT, Nat.reduceLT, Int.toNat_zero, Nat.reduceLeDiff, Int.reduceEq, Int.reduceLT, Int.reduceLE, hP, hΓ, hL, hfin, ↓tm_get, h23, h28, h29, h31, h33, h36, h38, h40, h42, wr_u32, ← List.map_append, List.take_of_length_le, Nat.le_refl])
  rw [show enc (u32 o.init) = num o.init from rfl]
  refine ⟨⟨own_row _, ?_, ho.imps, ho.imp⟩, ⟨own_row' _ rfl (by simp only [List.length_append]), ?_, ho.code⟩, ⟨own_row' _ rfl (by simp only [List.length_append]), ?_, by omega, by omega, ho⟩, ⟨own_row' _ rfl (by simp only [List.length_append]), u32_lt _, ?_⟩,
    ⟨own_row' _ rfl (by simp only [List.length_append]), ?_, ho.vars⟩, ⟨own_row' _ rfl (by simp only [List.length_append]), ?_, ho.shown⟩, ⟨own_row' _ rfl (by simp only [List.length_append]), ?_, ho.strs, ho.str⟩, ⟨own_row' _ rfl (by simp only [List.length_append]), ?_, ho.descs, ho.des⟩, ⟨own_row' _ rfl (by simp only [List.length_append]), ?_, ho.fixes, hx⟩, ?_⟩
  iterate 9 (· omega)
  have hlen : (bytesO o).length = (bodyO o).length + 4 := by rw [bytesO, List.length_append]; rfl
  have hlb : (bodyO o).length = q.length + (rI o.imps).length + (rW o.code).length + (encPs o o.procs).length + (num o.init).length + (encNs o.vars).length + (encNs o.shown).length + (rS o.strs).length + (rD o.descs).length + (rF o.fixes).length := by rw [hbo]; simp only [List.length_append]
  have hl4 : ∀ w, (le4 w).length = 4 := fun w => rfl
  rw [← hbo]
  refine ⟨by omega, ⟨own_row' _ rfl (by rw [hlb]), by omega⟩, ?_⟩
  refine exB_split (fun h => ?_) (fun h => ?_)
  · have hk : okB o = false := by
      have := of_decide_eq_true h
      rw [hl4] at this
      rw [okB, hf, Bool.true_and, decide_eq_false_iff_not]; omega
    ((first | with_reducible refine holds_of_ex X 400 _ _ _ ?_ | skip); simp (maxSteps := 1000000) only [push_cast, reduceCtorEq, Nat.reduceAdd, Nat.reduceMul, Nat.reduceSub, Nat.reduceBEq, Nat.reduceGT, Nat.reduceLT, Int.toNat_zero, Nat.reduceLeDiff, Int.reduceEq, Int.reduceLT, Int.reduceLE, hP, hΓ, hL, hfin, ↓tm_get])
    rw [show encV o = [] by rw [encV, hk]; rfl, show encE o = 70 by rw [encE, hk]; rfl]
    refine IntoF.nilT 0 0 1 _ rfl rfl ?_
    exact Into.pick2 (by simp [leF, renL, ren]) (by simp only [push_cast]) (by simp [scp, scpL]) (by simp only [push_cast])
  · have hk : okB o = true := by
      have := of_decide_eq_false h
      rw [hl4] at this
      rw [okB, hf, Bool.true_and, decide_eq_true_eq]; omega
    ((first | with_reducible refine holds_of_ex X 400 _ _ _ ?_ | skip); simp (maxSteps := 1000000) only [push_cast, reduceCtorEq, Nat.reduceAdd, Nat.reduceMul, Nat.reduceSub, Nat.reduceBEq, Nat.reduceGT, Nat.reduceLT, Int.toNat_zero, Nat.reduceLeDiff, Int.reduceEq, Int.reduceLT, Int.reduceLE, hP, hΓ, hL, hfin, ↓tm_get])
    rw [show encV o = bytesO o by rw [encV, hk]; rfl, show encE o = 0 by rw [encE, hk]; rfl]
    rw [hl4, ← hlb, ← hlen, show bodyO o ++ le4 (sumI (bodyO o)) = bytesO o from rfl]
    (refine IntoF.ver 1  0 (by simp only [push_cast, reduceCtorEq, Nat.reduceAdd, Nat.reduceMul, Nat.reduceSub, Nat.reduceBEq, Nat.reduceGT, Nat.reduceLT, Int.toNat_zero, Nat.reduceLeDiff, Int.reduceEq, Int.reduceLT, Int.reduceLE]) (by first | exact .inr (Nat.zero_le _) | (left; simp only [push_cast, reduceCtorEq, Nat.reduceAdd, Nat.reduceMul, Nat.reduceSub, Nat.reduceBEq, Nat.reduceGT, Nat.reduceLT, Int.toNat_zero, Nat.reduceLeDiff, Int.reduceEq, Int.reduceLT, Int.reduceLE]; omega) | (right; simp only [push_cast, reduceCtorEq, Nat.reduceAdd, Nat.reduceMul, Nat.reduceSub, Nat.reduceBEq, Nat.reduceGT, Nat.reduceLT, Int.toNat_zero, Nat.reduceLeDiff, Int.reduceEq, Int.reduceLT, Int.reduceLE]; omega)) ?_; simp only [push_cast, reduceCtorEq, Nat.reduceAdd, Nat.reduceMul, Nat.reduceSub, Nat.reduceBEq, Nat.reduceGT, Nat.reduceLT, Int.toNat_zero, Nat.reduceLeDiff, Int.reduceEq, Int.reduceLT, Int.reduceLE])
    exact Into.pick1 (by simp [leF, renL, ren]) (by simp only [push_cast]) (by simp [scp, scpL]) (by simp only [push_cast])
theorem con18 {Γ : Env} (h : EnvOk Tryz.prog Γ) (h23 : Γ 27 = some S23) (h25 : Γ 55 = some S25) (h27 : Γ 53 = some S27) (h28 : Γ 54 = some S28) (h29 : Γ 56 = some S29) (h31 : Γ 58 = some S31) (h33 : Γ 60 = some S33) (h36 : Γ 63 = some S36) (h38 : Γ 65 = some S38) (h40 : Γ 67 = some S40) (h42 : Γ 13 = some S42) : Con Tryz.prog 46 S18 :=
  funS_con h (fn := Tryz.f46) (by kernel_rfl) rfl (by kernel_rfl) inj18 (by first | (intro h; cases h; done) | exact fun _ _ => rfl) fun o ho => body18 Γ h23 h25 h27 h28 h29 h31 h33 h36 h38 h40 h42 o ho
def e17 : (Ob) → List AV := fun o => [.agg o.c]
def p17 : (Ob) → Prop := fun o => o.ok
def r17 : (Ob) → AV := fun o => .bool (okB o)
def g17 : (Ob) → Heap := fun o => []
theorem inj17 : ∀ a b, e17 a = e17 b → a = b := by
  rintro o o' h
  simp only [e17, mi_iff, ms_iff, mb_iff, my_iff, fI_iff, fD_iff, fF_iff, oc_iff, dc_iff, fc_iff, ic_iff, tm_iff, List.cons.injEq, AV.int.injEq, AV.str.injEq, AV.bool.injEq, AV.sl.injEq, AV.agg.injEq, AV.ip.injEq, AV.fn.injEq, AV.ifc.injEq, AV.mpr.injEq, Int.natCast_inj, and_true, true_and] at h
  simp_all only
noncomputable def S17 : FSpec := funS e17 p17 r17 g17 true
theorem ps17 (o : (Ob)) : psel e17 p17 [.agg o.c] = (o.ok) := psel_at inj17 p17 o
theorem rs17 (o : (Ob)) : rsel e17 r17 .any [.agg o.c] = (.bool (okB o)) := rsel_at inj17 r17 .any o
theorem hs17 (o : (Ob)) : rsel e17 g17 [] [.agg o.c] = ([]) := rsel_at inj17 g17 [] o
attribute [push_cast] S17 ps17 rs17 hs17
theorem body17 (Γ : Env) (h18 : Γ 46 = some S18) (o : Ob) (ho : o.ok) : BodyOk Tryz.prog Γ Tryz.f16 (e17 o) [] (.bool (okB o)) [] := by
  (intro X hP hΓ hL hfin; refine ⟨_, rfl, ?_⟩; rw [show Tryz.f16.ntmps = 12 from rfl]; rw [show Tryz.f16.results.toList = [.tmp 2] from rfl] at hfin; apply holds_of_ex X 400; simp (maxSteps := 1000000) only [push_cast, reduceCtorEq, Nat.reduceAdd, Nat.reduceMul, Nat.reduceSub, Nat.reduceBEq, Nat.reduceGT, Nat.reduceLT, Int.toNat_zero, Nat.reduceLeDiff, Int.reduceEq, Int.reduceLT, Int.reduceLE, hP, hΓ, hL, hfin, ↓tm_get, e17, h18])
  refine ⟨ho, Into.one ?_ rfl⟩
  rw [encE]
  cases okB o <;> rfl
theorem con17 {Γ : Env} (h : EnvOk Tryz.prog Γ) (h18 : Γ 46 = some S18) : Con Tryz.prog 16 S17 :=
  funS_con h (fn := Tryz.f16) (by kernel_rfl) rfl (by kernel_rfl) inj17 (by first | (intro h; cases h; done) | exact fun _ _ => rfl) fun o ho => body17 Γ h18 o ho
end Go.Proofs.YtmilngcgcolpbaaGreat.objDone
