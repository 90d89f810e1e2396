/- Of assembly texts: what a name with operands says, plainly; a line read by the program. Conditions stand in each. Of assembly texts: a line read by the program. Conditions stand in each. Of assembly texts: a text read by the program. Conditions stand in each. Of assembly texts: samples shown; rows of words the same. Conditions stand in each. Of assembly texts: words shown, rows of words written; program and document. Conditions stand in each. Of assembly texts, plainly: what is written is read; words of lines. -/
import Derived.Test.YtgemeilncdmapaaGreatDoorPR
section
namespace Go.Proofs.YtgemeilncdmapaaGreatDoor.asmDone
open Go Go.Eng Go.Proofs Go.RowKit
open Go.Asm (mayB in16 rightB laid sx In flds rightI laidI decB laid_lo ops cnds opT cnT regT sufT nameT sep lastT insT showF joinT numO prgN prgB prg_is prg_val regO ixO blk brO readO lastO formO formL encO wordO lineO headF restF unhO num_is)
set_option linter.unusedVariables false
set_option linter.unusedSimpArgs false
set_option maxRecDepth 100000
set_option maxHeartbeats 4000000
theorem nm_find (l : List (List UInt8 × In)) (s : List UInt8) : nmL l (.s s) = ((l.find? fun p => p.1 == s).map (·.2)).map inV := by
  induction l with
  | nil => rfl
  | cons p r ih =>
    rw [nmL, List.find?_cons]
    by_cases h : p.1 = s
    · have h1 : (p.1 == s) = true := beq_iff_eq.2 h
      rw [if_pos (by rw [h]), h1]; rfl
    · have h1 : (p.1 == s) = false := beq_eq_false_iff_ne.2 h
      rw [if_neg (fun e => h (Key.s.inj e).symm), h1, ih]
deriving instance DecidableEq for In
theorem find_eq {l1 l2 : List (List UInt8 × In)} (h1 : (l1.all fun x => l2.find? (fun p => p.1 == x.1) == some x) = true) (h2 : (l2.all fun x => l1.find? (fun p => p.1 == x.1) == some x) = true) (s : List UInt8) : l1.find? (fun p => p.1 == s) = l2.find? (fun p => p.1 == s) := by
  rw [List.all_eq_true] at h1 h2
  cases h : l1.find? (fun p => p.1 == s) with
  | some x =>
    have hm := List.mem_of_find?_eq_some h
    have hp : x.1 = s := by simpa using List.find?_some h
    have := h1 x hm
    rw [beq_iff_eq, hp] at this
    exact this.symm
  | none =>
    cases h' : l2.find? (fun p => p.1 == s) with
    | none => rfl
    | some y =>
      have hm := List.mem_of_find?_eq_some h'
      have hp : y.1 = s := by simpa using List.find?_some h'
      have := h2 y hm
      rw [beq_iff_eq, hp, h] at this
      cases this
theorem nm_form (s : List UInt8) : nmL (allE 4) (.s s) = (formO s).map inV := by
  rw [nm_find, find_eq (l1 := allE 4) (l2 := formL) (by decide +kernel) (by decide +kernel)]
  rfl
theorem form_f {s : List UInt8} {i : In} (h : formO s = some i) : (i.f = 0 ∨ i.f = 1 ∨ i.f = 2 ∧ i.op = 0) ∧ (0 ≤ i.op ∧ i.op ≤ 15) := by
  unfold formO at h
  rw [Option.map_eq_some_iff] at h
  obtain ⟨p, hp, rfl⟩ := h
  have hm := List.mem_of_find?_eq_some hp
  have key : ∀ x ∈ formL, (x.2.f = 0 ∨ x.2.f = 1 ∨ x.2.f = 2 ∧ x.2.op = 0) ∧ (0 ≤ x.2.op ∧ x.2.op ≤ 15) := by decide +kernel
  exact key p hm
theorem num_no {z : List UInt8} {n : Int} (h : numO z = some n) : regO z = none := by
  rw [num_is h]; exact Go.Asm.reg_itoa n
theorem tm4 (x : Int) : x.tmod 4 = 0 ↔ x % 4 = 0 := Int.dvd_iff_tmod_eq_zero.symm.trans Int.dvd_iff_emod_eq_zero
theorem td4 {x : Int} (h : x % 4 = 0) : x.tdiv 4 = x / 4 := Int.tdiv_eq_ediv_of_dvd (Int.dvd_iff_emod_eq_zero.2 h)
theorem i32_eq (n : Int) (h : -9223372036854775808 ≤ n ∧ n < 9223372036854775808) : decide (n = IntKind.i64.wrap (IntKind.i32.wrap n)) = decide (-2147483648 ≤ n ∧ n ≤ 2147483647) := by
  have e : IntKind.i32.wrap n = (n + 2147483648) % 4294967296 - 2147483648 := by simp [IntKind.wrap, IntKind.bits, IntKind.signed]; omega
  rw [wr_i64 (IntKind.i32.wrap n) (by rw [e]; constructor <;> omega), e, decide_eq_decide]
  omega
theorem fin_last (f : Int) (u v : Bool) (a b op c n : Int) (g r : Bool) (z : List UInt8) (hr : (regO z).isSome = true → r = (g && (!decide (op = 0) || !u && !v))) :
    lastO ⟨f, u, v, a, b, op, c, n⟩ r z = if (fin7 f u v a b op c n g z).2 then some (fin7 f u v a b op c n g z).1 else none := by
  unfold lastO fin7
  cases hn : numO z with
  | some m =>
    have hz := num_no hn
    by_cases hb : -9223372036854775808 ≤ m ∧ m < 9223372036854775808
    · have hp : prgB z = true := (prg_is z).2 ⟨m, hn, hb⟩
      rw [if_pos hp, prg_val hn hb]
      simp only [i32_eq m hb]
      by_cases h : -2147483648 ≤ m ∧ m ≤ 2147483647
      · rw [if_pos h, if_pos (decide_eq_true h)]
      · rw [if_neg h, if_neg (by simpa using h)]
    · have hp : ¬ prgB z = true := fun h => by
        obtain ⟨k, hk, hkb⟩ := (prg_is z).1 h
        rw [hn] at hk; cases hk; exact hb hkb
      rw [if_neg hp, hz]
      simp only
      rw [if_neg (by omega)]
      rfl
  | none =>
    have hp : ¬ prgB z = true := fun h => by
      obtain ⟨k, hk, hkb⟩ := (prg_is z).1 h
      rw [hn] at hk; cases hk
    rw [if_neg hp]
    simp only
    cases hz : regO z with
    | none => cases r <;> rfl
    | some k =>
      rw [hr (by rw [hz]; rfl), (rg_val hz).1]
      simp only [Option.isSome_some, Bool.true_and, Option.map_some]
theorem op_read (i : In) (l : List (List UInt8)) (hf : i.f = 0 ∨ i.f = 1 ∨ i.f = 2 ∧ i.op = 0) (h2 : i.f = 2 → regO (l.getD 2 []) = none) :
    readO i l = if (opV i.f i.u i.v i.a i.b i.op i.c i.n l).2 then some (opV i.f i.u i.v i.a i.b i.op i.c i.n l).1 else none := by
  obtain ⟨f, u, v, a, b, op, c, n⟩ := i
  simp only at hf h2 ⊢
  unfold readO opV
  simp only
  by_cases f0 : f = 0
  · rw [if_pos f0, if_pos f0]
    match l with
    | [] => rfl
    | [x] =>
      simp only
      cases hx : regO x with
      | none => rfl
      | some k => rw [(rg_val hx).1]; rfl
    | _ :: _ :: _ => rfl
  rw [if_neg f0, if_neg f0]
  by_cases fa : f = 1 ∧ op = 15
  · rw [if_pos fa, if_pos fa]
    match l with
    | [] => rfl
    | [z] => exact fin_last f u v a b op c n false false z (fun _ => rfl)
    | _ :: _ :: _ => rfl
  rw [if_neg fa, if_neg fa]
  by_cases fb : f = 1 ∧ op = 0
  · rw [if_pos fb, if_pos fb]
    match l with
    | [] => rfl
    | [_] => rfl
    | [x, z] =>
      simp only
      cases hx : regO x with
      | none => rfl
      | some k =>
        simp only [Option.isSome_some, if_true, (rg_val hx).1]
        exact fin_last f u v k b op c n true (!u && !v) z (fun _ => by rw [fb.2]; simp)
    | _ :: _ :: _ :: _ => rfl
  rw [if_neg fb, if_neg fb]
  match l, h2 with
  | [], _ => rfl
  | [_], _ => rfl
  | [_, _], _ => rfl
  | [x, y, z], h2 =>
    simp only
    cases hx : regO x with
    | none => rfl
    | some k =>
      cases hy : regO y with
      | none => rfl
      | some m =>
        simp only [Option.isSome_some, if_true, (rg_val hx).1, (rg_val hy).1]
        refine fin_last f u v k m op c n true (decide (f = 1)) z (fun hz => ?_)
        rcases hf with h | h | h
        · exact absurd h f0
        · have : ¬ op = 0 := fun e => fb ⟨h, e⟩
          simp [h, this]
        · have := h2 h.1
          have e : ([x, y, z].getD 2 []) = z := rfl
          rw [e] at this
          rw [this] at hz; cases hz
  | _ :: _ :: _ :: _ :: _, _ => rfl
theorem br_read (v : Bool) (l : List (List UInt8)) (at_ : Int) :
    encO (brO v l at_) = if brB l at_ && rightB (brV l at_).f (brV l at_).u v (brV l at_).a (brV l at_).b (brV l at_).op (brV l at_).c (brV l at_).n then some (laid (brV l at_).f (brV l at_).u v (brV l at_).a (brV l at_).b (brV l at_).op (brV l at_).c (brV l at_).n) else none := by
  by_cases hl : l.length = 2
  case neg => rw [(br_no hl at_).2, br_len hl]; rfl
  match l, hl with
  | [x, y], _ =>
  unfold brO brB brV
  simp only
  cases hx : ixO cnds x with
  | none =>
    have e : fnd cnds x = -1 := by rw [fnd, hx]
    rw [e]
    have e2 : ∀ f u b op c n, rightB f u v (-1) b op c n = false := fun f u b op c n => by
      unfold rightB in16; simp
    simp only
    split <;> simp [e2, encO]
  | some k =>
    have e : fnd cnds x = (k : Int) := by rw [fnd, hx]
    rw [e]
    simp only
    cases hy : regO y with
    | some c =>
      simp only [Option.isSome_some, if_true, Bool.true_or, Bool.true_and, (rg_val hy).1, encO, rightI, laidI]
      rfl
    | none =>
      simp only [Option.isSome_none, Bool.false_eq_true, if_false, Bool.false_or]
      cases hn : numO y with
      | none =>
        have hp : prgB y = false := Bool.eq_false_iff.2 fun h => by
          obtain ⟨q, hq, _⟩ := (prg_is y).1 h
          rw [hn] at hq; cases hq
        rw [hp]; rfl
      | some n =>
        simp only
        by_cases hb : 0 ≤ n ∧ n ≤ 4294967295
        · have hb' : -9223372036854775808 ≤ n ∧ n < 9223372036854775808 := by omega
          have hp : prgB y = true := (prg_is y).2 ⟨n, hn, hb'⟩
          rw [hp, prg_val hn hb', decide_eq_true (show 0 ≤ n by omega), decide_eq_true (show n = n % 4294967296 by omega)]
          by_cases h4 : (n - at_ - 4) % 4 = 0
          · have hd : (dN n at_).tmod 4 = 0 := by
              rw [tm4]; unfold dN sx
              split <;> omega
            have hv : (dN n at_).tdiv 4 = sx ((n - at_ - 4) % 4294967296) 4294967296 / 4 := td4 ((tm4 _).1 hd)
            rw [if_pos ⟨hb.1, hb.2, h4⟩, decide_eq_true hd, hv]
            simp only [Bool.true_and, encO, rightI, laidI]
            rfl
          · have hd : ¬ (dN n at_).tmod 4 = 0 := by
              rw [tm4]; unfold dN sx
              split <;> omega
            rw [if_neg (by omega), decide_eq_false hd]
            rfl
        · rw [if_neg (by omega)]
          have : (prgB y && decide (0 ≤ prgN y) && decide (prgN y = prgN y % 4294967296)) = false := by
            rw [Bool.eq_false_iff]; intro h
            simp only [Bool.and_eq_true, decide_eq_true_eq] at h
            obtain ⟨q, hq, hqb⟩ := (prg_is y).1 h.1.1
            rw [hn] at hq; cases hq
            have := prg_val hn hqb
            omega
          rw [this]; rfl
end Go.Proofs.YtgemeilncdmapaaGreatDoor.asmDone
end
section
namespace Go.Proofs.YtgemeilncdmapaaGreatDoor.asmDone
open Go Go.Eng Go.Proofs Go.RowKit
open Go.Lines (pieces pieces_le)
open Go.Asm (mayB in16 rightB laid sx In flds rightI laidI decB laid_lo ops cnds opT cnT regT sufT nameT sep lastT insT showF joinT numO prgN prgB prg_is prg_val regO ixO blk brO readO lastO formO formL encO wordO lineO headF restF unhO num_is trimF)
set_option linter.unusedVariables false
set_option linter.unusedSimpArgs false
set_option maxRecDepth 100000
set_option maxHeartbeats 4000000
theorem rest_len (s : List UInt8) : (restF s).length ≤ s.length + 1 ∧ ∀ x ∈ restF s, x.length ≤ s.length := by
  by_cases h : trimF (s.drop (headF s).length) = []
  · rw [rest_0 h]; simp
  · rw [rest_1 h]
    have h1 := pieces_le 44 (trimF (s.drop (headF s).length))
    have h2 := trim_le (s.drop (headF s).length)
    rw [List.length_drop] at h2
    refine ⟨by rw [List.length_map]; omega, fun x hx => ?_⟩
    obtain ⟨y, hy, rfl⟩ := List.mem_map.1 hx
    have h3 := pcs_mem hy
    have h4 := trim_le y
    omega
def e38 : (List UInt8) × (Int) → List AV := fun (s, at_) => [.str s, .int .u32 at_]
def p38 : (List UInt8) × (Int) → Prop := fun (s, at_) => s.length ≤ 4194303 ∧ (0 ≤ at_ ∧ at_ < 4294967296)
def r38 : (List UInt8) × (Int) → AV := fun (s, at_) => .tup [.int .u32 ((lineO s at_).getD 0), .bool (lineO s at_).isSome]
def g38 : (List UInt8) × (Int) → Heap := fun (s, at_) => []
theorem inj38 : ∀ a b, e38 a = e38 b → a = b := by
  rintro ⟨s, at_⟩ ⟨s', at_'⟩ h
  simp only [e38, mi_iff, ms_iff, mb_iff, my_iff, UInt8.toNat_inj, List.cons.injEq, AV.int.injEq, AV.str.injEq, AV.bool.injEq, AV.sl.injEq, AV.agg.injEq, AV.ip.injEq, AV.fn.injEq, AV.ifc.injEq, AV.mpr.injEq, Int.natCast_inj, and_true, true_and] at h
  simp_all only
noncomputable def S38 : FSpec := funS e38 p38 r38 g38 true
theorem ps38 (s : (List UInt8)) (at_ : (Int)) : psel e38 p38 [.str s, .int .u32 at_] = (s.length ≤ 4194303 ∧ (0 ≤ at_ ∧ at_ < 4294967296)) := psel_at inj38 p38 (s, at_)
theorem rs38 (s : (List UInt8)) (at_ : (Int)) : rsel e38 r38 .any [.str s, .int .u32 at_] = (.tup [.int .u32 ((lineO s at_).getD 0), .bool (lineO s at_).isSome]) := rsel_at inj38 r38 .any (s, at_)
theorem hs38 (s : (List UInt8)) (at_ : (Int)) : rsel e38 g38 [] [.str s, .int .u32 at_] = ([]) := rsel_at inj38 g38 [] (s, at_)
attribute [push_cast] S38 ps38 rs38 hs38
theorem body38 (Γ : Env) (h45 : Γ 45 = some S45) (h65 : Γ 65 = some S65) (h66 : Γ 66 = some S66) (h67 : Γ 67 = some S67) (h68 : Γ 68 = some S68) (h69 : Γ 69 = some S69) (h70 : Γ 70 = some S70) (s : List UInt8) (at_ : Int) (hs : s.length ≤ 4194303) (hat : 0 ≤ at_ ∧ at_ < 4294967296) : BodyOk Tryz.prog Γ Tryz.f38 [.str s, .int .u32 at_] [] (.tup [.int .u32 ((lineO s at_).getD 0), .bool (lineO s at_).isSome]) [] := by
  obtain ⟨hrl, hrm⟩ := rest_len s
  unfold lineO
  have hs1 : s.length ≤ 4194304 := by omega
  generalize hH : headF s = nm at *
  generalize hR : restF s = l at *
  have hl : l.length ≤ 4194304 := by omega
  have hm : ∀ x ∈ l, x.length ≤ 4194304 := fun x hx => Nat.le_trans (hrm x hx) (by omega)
  by_cases hw : nm = [87, 79, 82, 68]
  · subst hw
    have hn : nmL (allE 4) (.s [87, 79, 82, 68]) = none := by rw [nm_form]; decide +kernel
    by_cases h1 : l.length = 1
    case neg =>
      have hd : decide (((l.length : Nat) : Int) = 1) = false := decide_eq_false (by omega)
      have e : wordO [87, 79, 82, 68] l at_ = none := by
        unfold wordO
        rw [if_pos rfl]
        match l, h1 with
        | [], _ => rfl
        | [_], h => exact absurd rfl h
        | _ :: _ :: _, _ => rfl
      rw [e]
      (intro X hP hΓ hL hfin; refine ⟨_, rfl, ?_⟩; rw [show Tryz.f38.ntmps = 101 from rfl]; rw [show Tryz.f38.results.toList = [.tmp 4, .tmp 5] from rfl] at hfin; apply holds_of_ex X 400; simp (maxSteps := 1000000) only [push_cast, reduceCtorEq, Nat.reduceAdd, Nat.reduceMul, Nat.reduceSub, Nat.reduceBEq, Nat.reduceGT, Nat.reduceLT, Int.toNat_zero, Nat.reduceLeDiff, Int.reduceEq, Int.reduceLT, Int.reduceLE, hP, hΓ, hL, hfin, String.reduceEq, not_false_eq_true, if_true, if_false, Int.toNat_one, Bool.not_not, agI_mk, Option.isSome_some, Option.isSome_none, Option.getD_some, Option.getD_none, h65, hs1, hH, hR, h66, hn, hd])
      exact Into.one rfl rfl
    match l, h1 with
    | [x], _ =>
    have hx := hm x (by simp)
    have e : wordO [87, 79, 82, 68] [x] at_ = unhO x := by unfold wordO; rw [if_pos rfl]
    rw [e]
    have ev : decide ((if (unhO x).isSome = true then (0 : Int) else 10) = 0) = (unhO x).isSome := by cases (unhO x).isSome <;> rfl
    (intro X hP hΓ hL hfin; refine ⟨_, rfl, ?_⟩; rw [show Tryz.f38.ntmps = 101 from rfl]; rw [show Tryz.f38.results.toList = [.tmp 4, .tmp 5] from rfl] at hfin; apply holds_of_ex X 400; simp (maxSteps := 1000000) only [push_cast, reduceCtorEq, Nat.reduceAdd, Nat.reduceMul, Nat.reduceSub, Nat.reduceBEq, Nat.reduceGT, Nat.reduceLT, Int.toNat_zero, Nat.reduceLeDiff, Int.reduceEq, Int.reduceLT, Int.reduceLE, hP, hΓ, hL, hfin, String.reduceEq, not_false_eq_true, if_true, if_false, Int.toNat_one, Bool.not_not, agI_mk, Option.isSome_some, Option.isSome_none, Option.getD_some, Option.getD_none, h65, hs1, hH, hR, h66, hn, h67, hx, ev])
    exact ⟨by decide, Into.one rfl rfl⟩
  by_cases hj : nm = [74, 77, 80] ∨ nm = [67, 65, 76, 76]
  · have hn : nmL (allE 4) (.s nm) = none := by rw [nm_form]; rcases hj with rfl | rfl <;> decide +kernel
    have e : wordO nm l at_ = encO (brO (nm == [67, 65, 76, 76]) l at_) := by unfold wordO; rw [if_neg hw, if_pos hj]
    rw [e, br_read]
    have d1 : (nm == [87, 79, 82, 68]) = false := beq_eq_false_iff_ne.2 hw
    have d2 : ((nm == [74, 77, 80]) || (nm == [67, 65, 76, 76])) = true := by simpa using hj
    generalize hb : brV l at_ = i at *
    obtain ⟨f, u, v, a, b, op, c, n⟩ := i
    rcases Bool.eq_false_or_eq_true (brB l at_) with hok | hok
    · rcases Bool.eq_false_or_eq_true (rightB f u (nm == [67, 65, 76, 76]) a b op c n) with hr | hr
      · rw [hok, hr]
        (intro X hP hΓ hL hfin; refine ⟨_, rfl, ?_⟩; rw [show Tryz.f38.ntmps = 101 from rfl]; rw [show Tryz.f38.results.toList = [.tmp 4, .tmp 5] from rfl] at hfin; apply holds_of_ex X 400; simp (maxSteps := 1000000) only [push_cast, reduceCtorEq, Nat.reduceAdd, Nat.reduceMul, Nat.reduceSub, Nat.reduceBEq, Nat.reduceGT, Nat.reduceLT, Int.toNat_zero, Nat.reduceLeDiff, Int.reduceEq, Int.reduceLT, Int.reduceLE, hP, hΓ, hL, hfin, String.reduceEq, not_false_eq_true, if_true, if_false, Int.toNat_one, Bool.not_not, agI_mk, Option.isSome_some, Option.isSome_none, Option.getD_some, Option.getD_none, h65, hs1, hH, hR, h66, hn, d1, d2, h68, hm, hl, hat, hb, hok, h45, hr])
        exact ⟨hm, Into.one rfl rfl⟩
      · rw [hok, hr]
        (intro X hP hΓ hL hfin; refine ⟨_, rfl, ?_⟩; rw [show Tryz.f38.ntmps = 101 from rfl]; rw [show Tryz.f38.results.toList = [.tmp 4, .tmp 5] from rfl] at hfin; apply holds_of_ex X 400; simp (maxSteps := 1000000) only [push_cast, reduceCtorEq, Nat.reduceAdd, Nat.reduceMul, Nat.reduceSub, Nat.reduceBEq, Nat.reduceGT, Nat.reduceLT, Int.toNat_zero, Nat.reduceLeDiff, Int.reduceEq, Int.reduceLT, Int.reduceLE, hP, hΓ, hL, hfin, String.reduceEq, not_false_eq_true, if_true, if_false, Int.toNat_one, Bool.not_not, agI_mk, Option.isSome_some, Option.isSome_none, Option.getD_some, Option.getD_none, h65, hs1, hH, hR, h66, hn, d1, d2, h68, hm, hl, hat, hb, hok, h45, hr])
        exact ⟨hm, Into.one rfl rfl⟩
    · rw [hok]
      (intro X hP hΓ hL hfin; refine ⟨_, rfl, ?_⟩; rw [show Tryz.f38.ntmps = 101 from rfl]; rw [show Tryz.f38.results.toList = [.tmp 4, .tmp 5] from rfl] at hfin; apply holds_of_ex X 400; simp (maxSteps := 1000000) only [push_cast, reduceCtorEq, Nat.reduceAdd, Nat.reduceMul, Nat.reduceSub, Nat.reduceBEq, Nat.reduceGT, Nat.reduceLT, Int.toNat_zero, Nat.reduceLeDiff, Int.reduceEq, Int.reduceLT, Int.reduceLE, hP, hΓ, hL, hfin, String.reduceEq, not_false_eq_true, if_true, if_false, Int.toNat_one, Bool.not_not, agI_mk, Option.isSome_some, Option.isSome_none, Option.getD_some, Option.getD_none, h65, hs1, hH, hR, h66, hn, d1, d2, h68, hm, hl, hat, hb, hok])
      exact ⟨hm, Into.one rfl rfl⟩
  have d1 : (nm == [87, 79, 82, 68]) = false := beq_eq_false_iff_ne.2 hw
  have d2 : (nm == [74, 77, 80]) = false := beq_eq_false_iff_ne.2 fun h => hj (.inl h)
  have d3 : (nm == [67, 65, 76, 76]) = false := beq_eq_false_iff_ne.2 fun h => hj (.inr h)
  have e : wordO nm l at_ = match formO nm with
    | some i => encO (readO i l)
    | none => none := by unfold wordO; rw [if_neg hw, if_neg hj]; rfl
  rw [e]
  have hn := nm_form nm
  cases hf : formO nm with
  | none =>
    rw [hf] at hn
    simp only [Option.map_none] at hn
    (intro X hP hΓ hL hfin; refine ⟨_, rfl, ?_⟩; rw [show Tryz.f38.ntmps = 101 from rfl]; rw [show Tryz.f38.results.toList = [.tmp 4, .tmp 5] from rfl] at hfin; apply holds_of_ex X 400; simp (maxSteps := 1000000) only [push_cast, reduceCtorEq, Nat.reduceAdd, Nat.reduceMul, Nat.reduceSub, Nat.reduceBEq, Nat.reduceGT, Nat.reduceLT, Int.toNat_zero, Nat.reduceLeDiff, Int.reduceEq, Int.reduceLT, Int.reduceLE, hP, hΓ, hL, hfin, String.reduceEq, not_false_eq_true, if_true, if_false, Int.toNat_one, Bool.not_not, agI_mk, Option.isSome_some, Option.isSome_none, Option.getD_some, Option.getD_none, h65, hs1, hH, hR, h66, hn, d1, d2, d3])
    exact Into.one rfl rfl
  | some i =>
    rw [hf] at hn
    simp only [Option.map_some] at hn
    obtain ⟨hff, _⟩ := form_f hf
    obtain ⟨f, u, v, a, b, op, c, n⟩ := i
    simp only at hff
    have hi : ofV (inV ⟨f, u, v, a, b, op, c, n⟩) = .agg [.int .i64 f, .bool u, .bool v, .int .i64 a, .int .i64 b, .int .i64 op, .int .i64 c, .int .i64 n] := rfl
    simp only
    by_cases h2 : f = 2
    · have df : decide (f = 2) = true := decide_eq_true h2
      by_cases h3 : l.length = 3
      case neg =>
        have dl : decide (((l.length : Nat) : Int) = 3) = false := decide_eq_false (by omega)
        have e2 : readO ⟨f, u, v, a, b, op, c, n⟩ l = none := by
          subst h2
          unfold readO
          match l, h3 with
          | [], _ => rfl
          | [_], _ => rfl
          | [_, _], _ => rfl
          | [_, _, _], h => exact absurd rfl h
          | _ :: _ :: _ :: _ :: _, _ => rfl
        rw [e2, show encO none = none from rfl]
        (intro X hP hΓ hL hfin; refine ⟨_, rfl, ?_⟩; rw [show Tryz.f38.ntmps = 101 from rfl]; rw [show Tryz.f38.results.toList = [.tmp 4, .tmp 5] from rfl] at hfin; apply holds_of_ex X 400; simp (maxSteps := 1000000) only [push_cast, reduceCtorEq, Nat.reduceAdd, Nat.reduceMul, Nat.reduceSub, Nat.reduceBEq, Nat.reduceGT, Nat.reduceLT, Int.toNat_zero, Nat.reduceLeDiff, Int.reduceEq, Int.reduceLT, Int.reduceLE, hP, hΓ, hL, hfin, String.reduceEq, not_false_eq_true, if_true, if_false, Int.toNat_one, Bool.not_not, agI_mk, Option.isSome_some, Option.isSome_none, Option.getD_some, Option.getD_none, h65, hs1, hH, hR, h66, hn, d1, d2, d3, inV, df, dl])
        first | exact Into.one rfl rfl | exact ⟨hm, Into.one rfl rfl⟩ | exact ⟨by omega, by omega, Into.one rfl rfl⟩ | exact ⟨by omega, by omega, hm, Into.one rfl rfl⟩
      have dl : decide (((l.length : Nat) : Int) = 3) = true := decide_eq_true (by omega)
      generalize hzd : l.getD 2 default = z at *
      have hz : z.length ≤ 4194304 := by
        rw [← hzd, List.getD_eq_getElem?_getD, List.getElem?_eq_getElem (show 2 < l.length by omega)]
        exact hm _ (List.getElem_mem _)
      rcases Bool.eq_false_or_eq_true (regO z).isSome with hrz | hrz
      · have e2 : readO ⟨f, u, v, a, b, op, c, n⟩ l = none := by
          have hn : numO z = none := by
            cases h : numO z with
            | none => rfl
            | some k => rw [num_no h] at hrz; cases hrz
          subst h2
          match l, h3, hzd with
          | [x, y, w], _, hw =>
            obtain rfl : w = z := hw
            unfold readO lastO
            simp only
            rw [hn]
            cases regO x <;> cases regO y <;> rfl
        rw [e2, show encO none = none from rfl]
        (intro X hP hΓ hL hfin; refine ⟨_, rfl, ?_⟩; rw [show Tryz.f38.ntmps = 101 from rfl]; rw [show Tryz.f38.results.toList = [.tmp 4, .tmp 5] from rfl] at hfin; apply holds_of_ex X 400; simp (maxSteps := 1000000) only [push_cast, reduceCtorEq, Nat.reduceAdd, Nat.reduceMul, Nat.reduceSub, Nat.reduceBEq, Nat.reduceGT, Nat.reduceLT, Int.toNat_zero, Nat.reduceLeDiff, Int.reduceEq, Int.reduceLT, Int.reduceLE, hP, hΓ, hL, hfin, String.reduceEq, not_false_eq_true, if_true, if_false, Int.toNat_one, Bool.not_not, agI_mk, Option.isSome_some, Option.isSome_none, Option.getD_some, Option.getD_none, h65, hs1, hH, hR, h66, hn, d1, d2, d3, inV, df, dl, toNat2, hzd, h69, hz, hrz])
        first | exact Into.one rfl rfl | exact ⟨hm, Into.one rfl rfl⟩ | exact ⟨by omega, by omega, Into.one rfl rfl⟩ | exact ⟨by omega, by omega, hm, Into.one rfl rfl⟩
      have hrz' : regO (l.getD 2 []) = none := by
        rw [show l.getD 2 [] = z from hzd]
        cases h : regO z with
        | none => rfl
        | some k => rw [h] at hrz; cases hrz
      rw [op_read ⟨f, u, v, a, b, op, c, n⟩ l hff (fun _ => hrz')]
      simp only
      generalize hO : opV f u v a b op c n l = o at *
      obtain ⟨⟨f', u', v', a', b', op', c', n'⟩, ok⟩ := o
      cases ok
      · simp only [Bool.false_eq_true, if_false, show encO none = none from rfl]
        (intro X hP hΓ hL hfin; refine ⟨_, rfl, ?_⟩; rw [show Tryz.f38.ntmps = 101 from rfl]; rw [show Tryz.f38.results.toList = [.tmp 4, .tmp 5] from rfl] at hfin; apply holds_of_ex X 400; simp (maxSteps := 1000000) only [push_cast, reduceCtorEq, Nat.reduceAdd, Nat.reduceMul, Nat.reduceSub, Nat.reduceBEq, Nat.reduceGT, Nat.reduceLT, Int.toNat_zero, Nat.reduceLeDiff, Int.reduceEq, Int.reduceLT, Int.reduceLE, hP, hΓ, hL, hfin, String.reduceEq, not_false_eq_true, if_true, if_false, Int.toNat_one, Bool.not_not, agI_mk, Option.isSome_some, Option.isSome_none, Option.getD_some, Option.getD_none, h65, hs1, hH, hR, h66, hn, d1, d2, d3, inV, df, dl, toNat2, hzd, h69, hz, hrz, h70, hm, hl, hO])
        first | exact Into.one rfl rfl | exact ⟨hm, Into.one rfl rfl⟩ | exact ⟨by omega, by omega, Into.one rfl rfl⟩ | exact ⟨by omega, by omega, hm, Into.one rfl rfl⟩
      · rcases Bool.eq_false_or_eq_true (rightB f' u' v' a' b' op' c' n') with hr | hr
        · have e3 : encO (some ⟨f', u', v', a', b', op', c', n'⟩) = some (laid f' u' v' a' b' op' c' n') := by simp only [encO, rightI, hr, if_true]; rfl
          simp only [e3, if_true]
          (intro X hP hΓ hL hfin; refine ⟨_, rfl, ?_⟩; rw [show Tryz.f38.ntmps = 101 from rfl]; rw [show Tryz.f38.results.toList = [.tmp 4, .tmp 5] from rfl] at hfin; apply holds_of_ex X 400; simp (maxSteps := 1000000) only [push_cast, reduceCtorEq, Nat.reduceAdd, Nat.reduceMul, Nat.reduceSub, Nat.reduceBEq, Nat.reduceGT, Nat.reduceLT, Int.toNat_zero, Nat.reduceLeDiff, Int.reduceEq, Int.reduceLT, Int.reduceLE, hP, hΓ, hL, hfin, String.reduceEq, not_false_eq_true, if_true, if_false, Int.toNat_one, Bool.not_not, agI_mk, Option.isSome_some, Option.isSome_none, Option.getD_some, Option.getD_none, h65, hs1, hH, hR, h66, hn, d1, d2, d3, inV, df, dl, toNat2, hzd, h69, hz, hrz, h70, hm, hl, hO, h45, hr])
          first | exact Into.one rfl rfl | exact ⟨hm, Into.one rfl rfl⟩ | exact ⟨by omega, by omega, Into.one rfl rfl⟩ | exact ⟨by omega, by omega, hm, Into.one rfl rfl⟩
        · have e3 : encO (some ⟨f', u', v', a', b', op', c', n'⟩) = none := by simp only [encO, rightI, hr, Bool.false_eq_true, if_false]
          simp only [e3, if_true]
          (intro X hP hΓ hL hfin; refine ⟨_, rfl, ?_⟩; rw [show Tryz.f38.ntmps = 101 from rfl]; rw [show Tryz.f38.results.toList = [.tmp 4, .tmp 5] from rfl] at hfin; apply holds_of_ex X 400; simp (maxSteps := 1000000) only [push_cast, reduceCtorEq, Nat.reduceAdd, Nat.reduceMul, Nat.reduceSub, Nat.reduceBEq, Nat.reduceGT, Nat.reduceLT, Int.toNat_zero, Nat.reduceLeDiff, Int.reduceEq, Int.reduceLT, Int.reduceLE, hP, hΓ, hL, hfin, String.reduceEq, not_false_eq_true, if_true, if_false, Int.toNat_one, Bool.not_not, agI_mk, Option.isSome_some, Option.isSome_none, Option.getD_some, Option.getD_none, h65, hs1, hH, hR, h66, hn, d1, d2, d3, inV, df, dl, toNat2, hzd, h69, hz, hrz, h70, hm, hl, hO, h45, hr])
          first | exact Into.one rfl rfl | exact ⟨hm, Into.one rfl rfl⟩ | exact ⟨by omega, by omega, Into.one rfl rfl⟩ | exact ⟨by omega, by omega, hm, Into.one rfl rfl⟩
    · have df : decide (f = 2) = false := decide_eq_false h2
      rw [op_read ⟨f, u, v, a, b, op, c, n⟩ l hff (fun h => absurd h h2)]
      simp only
      generalize hO : opV f u v a b op c n l = o at *
      obtain ⟨⟨f', u', v', a', b', op', c', n'⟩, ok⟩ := o
      cases ok
      · simp only [Bool.false_eq_true, if_false, show encO none = none from rfl]
        (intro X hP hΓ hL hfin; refine ⟨_, rfl, ?_⟩; rw [show Tryz.f38.ntmps = 101 from rfl]; rw [show Tryz.f38.results.toList = [.tmp 4, .tmp 5] from rfl] at hfin; apply holds_of_ex X 400; simp (maxSteps := 1000000) only [push_cast, reduceCtorEq, Nat.reduceAdd, Nat.reduceMul, Nat.reduceSub, Nat.reduceBEq, Nat.reduceGT, Nat.reduceLT, Int.toNat_zero, Nat.reduceLeDiff, Int.reduceEq, Int.reduceLT, Int.reduceLE, hP, hΓ, hL, hfin, String.reduceEq, not_false_eq_true, if_true, if_false, Int.toNat_one, Bool.not_not, agI_mk, Option.isSome_some, Option.isSome_none, Option.getD_some, Option.getD_none, h65, hs1, hH, hR, h66, hn, d1, d2, d3, inV, df, h70, hm, hl, hO])
        first | exact Into.one rfl rfl | exact ⟨hm, Into.one rfl rfl⟩ | exact ⟨by omega, by omega, Into.one rfl rfl⟩ | exact ⟨by omega, by omega, hm, Into.one rfl rfl⟩
      · rcases Bool.eq_false_or_eq_true (rightB f' u' v' a' b' op' c' n') with hr | hr
        · have e3 : encO (some ⟨f', u', v', a', b', op', c', n'⟩) = some (laid f' u' v' a' b' op' c' n') := by simp only [encO, rightI, hr, if_true]; rfl
          simp only [e3, if_true]
          (intro X hP hΓ hL hfin; refine ⟨_, rfl, ?_⟩; rw [show Tryz.f38.ntmps = 101 from rfl]; rw [show Tryz.f38.results.toList = [.tmp 4, .tmp 5] from rfl] at hfin; apply holds_of_ex X 400; simp (maxSteps := 1000000) only [push_cast, reduceCtorEq, Nat.reduceAdd, Nat.reduceMul, Nat.reduceSub, Nat.reduceBEq, Nat.reduceGT, Nat.reduceLT, Int.toNat_zero, Nat.reduceLeDiff, Int.reduceEq, Int.reduceLT, Int.reduceLE, hP, hΓ, hL, hfin, String.reduceEq, not_false_eq_true, if_true, if_false, Int.toNat_one, Bool.not_not, agI_mk, Option.isSome_some, Option.isSome_none, Option.getD_some, Option.getD_none, h65, hs1, hH, hR, h66, hn, d1, d2, d3, inV, df, h70, hm, hl, hO, h45, hr])
          first | exact Into.one rfl rfl | exact ⟨hm, Into.one rfl rfl⟩ | exact ⟨by omega, by omega, Into.one rfl rfl⟩ | exact ⟨by omega, by omega, hm, Into.one rfl rfl⟩
        · have e3 : encO (some ⟨f', u', v', a', b', op', c', n'⟩) = none := by simp only [encO, rightI, hr, Bool.false_eq_true, if_false]
          simp only [e3, if_true]
          (intro X hP hΓ hL hfin; refine ⟨_, rfl, ?_⟩; rw [show Tryz.f38.ntmps = 101 from rfl]; rw [show Tryz.f38.results.toList = [.tmp 4, .tmp 5] from rfl] at hfin; apply holds_of_ex X 400; simp (maxSteps := 1000000) only [push_cast, reduceCtorEq, Nat.reduceAdd, Nat.reduceMul, Nat.reduceSub, Nat.reduceBEq, Nat.reduceGT, Nat.reduceLT, Int.toNat_zero, Nat.reduceLeDiff, Int.reduceEq, Int.reduceLT, Int.reduceLE, hP, hΓ, hL, hfin, String.reduceEq, not_false_eq_true, if_true, if_false, Int.toNat_one, Bool.not_not, agI_mk, Option.isSome_some, Option.isSome_none, Option.getD_some, Option.getD_none, h65, hs1, hH, hR, h66, hn, d1, d2, d3, inV, df, h70, hm, hl, hO, h45, hr])
          first | exact Into.one rfl rfl | exact ⟨hm, Into.one rfl rfl⟩ | exact ⟨by omega, by omega, Into.one rfl rfl⟩ | exact ⟨by omega, by omega, hm, Into.one rfl rfl⟩
theorem con38 {Γ : Env} (h : EnvOk Tryz.prog Γ) (h45 : Γ 45 = some S45) (h65 : Γ 65 = some S65) (h66 : Γ 66 = some S66) (h67 : Γ 67 = some S67) (h68 : Γ 68 = some S68) (h69 : Γ 69 = some S69) (h70 : Γ 70 = some S70) : Con Tryz.prog 38 S38 :=
  funS_con h (fn := Tryz.f38) (by kernel_rfl) rfl (by kernel_rfl) inj38 (by first | (intro h; cases h; done) | exact fun _ _ => rfl) fun ⟨s, at_⟩ h => body38 Γ h45 h65 h66 h67 h68 h69 h70 s at_ h.1 h.2
end Go.Proofs.YtgemeilncdmapaaGreatDoor.asmDone
end
section
namespace Go.Proofs.YtgemeilncdmapaaGreatDoor.asmDone
open Go Go.Eng Go.Proofs Go.RowKit
open Go.Lines (pieces pieces_le)
open Go.Asm (lineO trimF bareF linesO)
open Go.Proofs.YtgemeilncdmapaaGreatDoor.linesDone (ixTS oneT ixT S56 S35 ps35 rs35 hs35 pcs_pieces)
set_option linter.unusedVariables false
set_option linter.unusedSimpArgs false
set_option maxRecDepth 100000
set_option maxHeartbeats 4000000
/-- a text's words, or which line is wrong, and why -/
def prsR (s : List UInt8) : Except (Int × Int) (List Int) :=
  if 65536 < s.length then .error (0, 60) else match linesO 1 [] (pieces 10 s) with
  | .ok ws => .ok ws
  | .error k => .error ((k : Int), 61)
def prA (s : List UInt8) : AV := match prsR s with
  | .ok ws => .tup [.msl 0 0 0 ws.length, .int .i64 0, .int .i64 0]
  | .error p => .tup [.sl [] 0, .int .i64 p.1, .int .i64 p.2]
def prG (s : List UInt8) : Heap := match prsR s with
  | .ok ws => [.row (ws.map (AV.int .u32)) 1 0]
  | .error _ => []
theorem bare_cut (s : List UInt8) : trimF (cutQ s) = bareF s := rfl
def e12 : (List UInt8) → List AV × Heap := fun s => ([.str s], [])
def p12 : (List UInt8) → Prop := fun s => s.length ≤ 4194303
def r12 : (List UInt8) → AV := fun s => prA s
def g12 : (List UInt8) → Heap := fun s => prG s
theorem inj12 : ∀ a b, e12 a = e12 b → a = b := by
  rintro s s' h
  simp only [e12, mi_iff, ms_iff, mb_iff, my_iff, UInt8.toNat_inj, Prod.mk.injEq, List.cons.injEq, AObj.row.injEq, AV.int.injEq, AV.str.injEq, AV.bool.injEq, AV.sl.injEq, AV.agg.injEq, AV.ip.injEq, AV.fn.injEq, AV.ifc.injEq, AV.mpr.injEq, AV.msl.injEq, AV.ref.injEq, Int.natCast_inj, and_true, true_and] at h
  simp_all only
noncomputable def S12 : FSpec := heapE false e12 p12 r12 g12
theorem ps12 (s : (List UInt8)) : pselK e12 p12 ([.str s], []) = (s.length ≤ 4194303) := pselK_at inj12 p12 s
theorem rs12 (s : (List UInt8)) : rselK e12 r12 .any ([.str s], []) = (prA s) := rselK_at inj12 r12 .any s
theorem hs12 (s : (List UInt8)) : rselK e12 g12 [] ([.str s], []) = (prG s) := rselK_at inj12 g12 [] s
attribute [push_cast] S12 ps12 rs12 hs12
theorem body12 (Γ : Env) (h35 : Γ 35 = some S35) (h36 : Γ 36 = some S36) (h37 : Γ 37 = some S37) (h38 : Γ 38 = some S38) (s : List UInt8) (hs : s.length ≤ 4194303) : BodyOk Tryz.prog Γ Tryz.f12 [.str s] [] (prA s) (prG s) := by
  by_cases hb : 65536 < s.length
  · have hd : decide (65536 < ((s.length : Nat) : Int)) = true := decide_eq_true (by omega)
    have e : prsR s = .error (0, 60) := by unfold prsR; rw [if_pos hb]
    have e1 : prA s = .tup [.sl [] 0, .int .i64 0, .int .i64 60] := by unfold prA; rw [e]
    have e2 : prG s = [] := by unfold prG; rw [e]
    rw [e1, e2]
    (intro X hP hΓ hL hfin; refine ⟨_, rfl, ?_⟩; rw [show Tryz.f12.ntmps = 50 from rfl]; rw [show Tryz.f12.results.toList = [.tmp 2, .tmp 3, .tmp 4] from rfl] at hfin; apply holds_of_ex X 400; simp (maxSteps := 1000000) only [push_cast, reduceCtorEq, Nat.reduceAdd, Nat.reduceMul, Nat.reduceSub, Nat.reduceBEq, Nat.reduceGT, Nat.reduceLT, Int.toNat_zero, Nat.reduceLeDiff, Int.reduceEq, Int.reduceLT, Int.reduceLE, hP, hΓ, hL, hfin, String.reduceEq, not_false_eq_true, if_true, if_false, Int.toNat_one, Bool.not_not, hd])
    refine IntoF.soft ?_
    simp only [push_cast]
    exact Into.keep0A
  have hd : decide (65536 < ((s.length : Nat) : Int)) = false := decide_eq_false (by omega)
  have hs1 : s.length ≤ 4194304 := by omega
  have e : prsR s = match linesO 1 [] (pieces 10 s) with
    | .ok ws => .ok ws
    | .error k => .error ((k : Int), 61) := by unfold prsR; rw [if_neg hb]
  have hpl := pieces_le 10 s
  have hmem : ∀ x ∈ pieces 10 s, x.length ≤ 4194303 := fun x hx => Nat.le_trans (pcs_mem hx) hs
  (intro X hP hΓ hL hfin; refine ⟨_, rfl, ?_⟩; rw [show Tryz.f12.ntmps = 50 from rfl]; rw [show Tryz.f12.results.toList = [.tmp 2, .tmp 3, .tmp 4] from rfl] at hfin; apply holds_of_ex X 400; simp (maxSteps := 1000000) only [push_cast, reduceCtorEq, Nat.reduceAdd, Nat.reduceMul, Nat.reduceSub, Nat.reduceBEq, Nat.reduceGT, Nat.reduceLT, Int.toNat_zero, Nat.reduceLeDiff, Int.reduceEq, Int.reduceLT, Int.reduceLE, hP, hΓ, hL, hfin, String.reduceEq, not_false_eq_true, if_true, if_false, Int.toNat_one, Bool.not_not, hd, h35, hs1])
  generalize hQ : pieces 10 s = D at *
  refine Holds.loopM (ι := {p : Nat × List Int // p.1 ≤ D.length ∧ p.2.length ≤ p.1 ∧ linesO 1 [] D = linesO (p.1 + 1) p.2 (D.drop p.1)}) [false, false, false, false, false, false, false, false, false, false, false, false, false, false, true, true, false, false, false, false, false, false, false, false, false, false, false, false, false, false, false, false, false, false, false, false, false, false, false, false, false, false, false, false, false, false, false, false, false, false] (fun i => [(5, .msl 1 0 0 i.1.2.length), (14, .msl 0 0 0 D.length), (16, .int .i64 i.1.1)]) (fun i => [.row (D.map AV.str) 1 0, .row (i.1.2.map (AV.int .u32)) 1 0]) (fun i => D.length - i.1.1) ⟨(0, []), Nat.zero_le _, Nat.le_refl _, rfl⟩ ?_ ?_
  · rw [hL]; simp only [push_cast, Int.natCast_zero]
    (refine IntoF.nil 5  1 rfl ?_; simp only [push_cast, reduceCtorEq, Nat.reduceAdd, Nat.reduceMul, Nat.reduceSub, Nat.reduceBEq, Nat.reduceGT, Nat.reduceLT, Int.toNat_zero, Nat.reduceLeDiff, Int.reduceEq, Int.reduceLT, Int.reduceLE])
    exact Into.sameA
  rintro ⟨⟨q, out⟩, hq, ho, he⟩
  simp only at hq ho he
  ((first | with_reducible refine holds_of_ex X 400 _ _ _ ?_ | skip); simp (maxSteps := 1000000) only [push_cast, reduceCtorEq, Nat.reduceAdd, Nat.reduceMul, Nat.reduceSub, Nat.reduceBEq, Nat.reduceGT, Nat.reduceLT, Int.toNat_zero, Nat.reduceLeDiff, Int.reduceEq, Int.reduceLT, Int.reduceLE, hP, hΓ, hL, hfin, String.reduceEq, not_false_eq_true, if_true, if_false, Int.toNat_one, Bool.not_not])
  ((with_reducible refine exB_split (fun h => ?_) (fun h => ?_)) <;> (try simp only [decide_eq_true_eq, decide_eq_false_iff_not, Bool.and_eq_true, Bool.or_eq_true, Bool.and_eq_false_iff, Bool.or_eq_false_iff, Bool.not_eq_true', Bool.not_eq_false', Bool.not_eq_true, Bool.not_eq_false, Int.not_lt, Int.not_le, beq_iff_eq, beq_eq_false_iff_ne, ne_eq] at h))
  · have hq' : q < D.length := by omega
    have hdd : D.drop q = D.getD q default :: D.drop (q + 1) := by
      rw [List.drop_eq_getElem_cons hq']; simp [List.getD, hq']
    have hxm : (D.getD q default).length ≤ 4194303 := hmem _ (by rw [List.getD_eq_getElem?_getD, List.getElem?_eq_getElem hq']; exact List.getElem_mem _)
    generalize hxx : D.getD q default = x at *
    have hc := cutQ_le x
    have hx1 : x.length ≤ 4194304 := by omega
    have hx2 : (cutQ x).length ≤ 4194304 := by omega
    have hb3 : (bareF x).length ≤ 4194303 := by rw [← bare_cut]; have := trim_le (cutQ x); omega
    rw [hdd, linesO] at he
    have hcc : List.drop 0 x = x := rfl
    have hol : out.length ≤ 65537 := by omega
    have hat : IntKind.u32.wrap (IntKind.i64.wrap (4 * (out.length : Int))) = 4 * (out.length : Int) := by rw [wr_i64 _ (by constructor <;> omega), u32w]; omega
    by_cases h0 : bareF x = []
    · have hz : (bareF x == []) = true := beq_iff_eq.2 h0
      rw [if_pos h0] at he
      ((first | with_reducible refine holds_of_ex X 400 _ _ _ ?_ | skip); simp (maxSteps := 1000000) only [push_cast, reduceCtorEq, Nat.reduceAdd, Nat.reduceMul, Nat.reduceSub, Nat.reduceBEq, Nat.reduceGT, Nat.reduceLT, Int.toNat_zero, Nat.reduceLeDiff, Int.reduceEq, Int.reduceLT, Int.reduceLE, hP, hΓ, hL, hfin, String.reduceEq, not_false_eq_true, if_true, if_false, Int.toNat_one, Bool.not_not, hxx, h36, hx1, h37, hx2, bare_cut, hz])
      refine ⟨by omega, ⟨by omega, by omega⟩, ⟨(q + 1, out), by simp only; omega, by simp only; omega, he⟩, by simp only; omega, ?_⟩
      dsimp only
      rw [wr_i64 ((q : Int) + 1) (by constructor <;> omega)]
      exact Into.sameA
    · have hz : (bareF x == []) = false := beq_eq_false_iff_ne.2 h0
      rw [if_neg h0] at he
      cases hw : lineO (bareF x) (4 * (out.length : Int)) with
      | some w =>
        rw [hw] at he
        ((first | with_reducible refine holds_of_ex X 400 _ _ _ ?_ | skip); simp (maxSteps := 1000000) only [push_cast, reduceCtorEq, Nat.reduceAdd, Nat.reduceMul, Nat.reduceSub, Nat.reduceBEq, Nat.reduceGT, Nat.reduceLT, Int.toNat_zero, Nat.reduceLeDiff, Int.reduceEq, Int.reduceLT, Int.reduceLE, hP, hΓ, hL, hfin, String.reduceEq, not_false_eq_true, if_true, if_false, Int.toNat_one, Bool.not_not, hxx, h36, hx1, h37, hx2, bare_cut, hz, h38, hb3, hat, hw])
        refine ⟨by omega, ⟨by omega, by omega⟩, ⟨by omega, by omega⟩, by omega, ⟨(q + 1, out ++ [w]), by simp only; omega, by simp only [List.length_append, List.length_cons, List.length_nil]; omega, he⟩, by simp only; omega, ?_⟩
        dsimp only
        rw [wr_i64 ((q : Int) + 1) (by constructor <;> omega), List.map_append, List.length_append]
        (refine IntoF.ver 1  0 (by simp only [push_cast, reduceCtorEq, Nat.reduceAdd, Nat.reduceMul, Nat.reduceSub, Nat.reduceBEq, Nat.reduceGT, Nat.reduceLT, Int.toNat_zero, Nat.reduceLeDiff, Int.reduceEq, Int.reduceLT, Int.reduceLE]) (by first | exact .inr (Nat.zero_le _) | (left; simp only [push_cast, reduceCtorEq, Nat.reduceAdd, Nat.reduceMul, Nat.reduceSub, Nat.reduceBEq, Nat.reduceGT, Nat.reduceLT, Int.toNat_zero, Nat.reduceLeDiff, Int.reduceEq, Int.reduceLT, Int.reduceLE]; first | done | omega) | (right; simp only [push_cast, reduceCtorEq, Nat.reduceAdd, Nat.reduceMul, Nat.reduceSub, Nat.reduceBEq, Nat.reduceGT, Nat.reduceLT, Int.toNat_zero, Nat.reduceLeDiff, Int.reduceEq, Int.reduceLT, Int.reduceLE]; first | done | omega)) ?_; simp only [push_cast, reduceCtorEq, Nat.reduceAdd, Nat.reduceMul, Nat.reduceSub, Nat.reduceBEq, Nat.reduceGT, Nat.reduceLT, Int.toNat_zero, Nat.reduceLeDiff, Int.reduceEq, Int.reduceLT, Int.reduceLE])
        exact Into.sameA
      | none =>
        rw [hw] at he
        ((first | with_reducible refine holds_of_ex X 400 _ _ _ ?_ | skip); simp (maxSteps := 1000000) only [push_cast, reduceCtorEq, Nat.reduceAdd, Nat.reduceMul, Nat.reduceSub, Nat.reduceBEq, Nat.reduceGT, Nat.reduceLT, Int.toNat_zero, Nat.reduceLeDiff, Int.reduceEq, Int.reduceLT, Int.reduceLE, hP, hΓ, hL, hfin, String.reduceEq, not_false_eq_true, if_true, if_false, Int.toNat_one, Bool.not_not, hxx, h36, hx1, h37, hx2, bare_cut, hz, h38, hb3, hat, hw])
        refine ⟨by omega, ⟨by omega, by omega⟩, ⟨by omega, by omega⟩, ?_⟩
        have hR : prsR s = .error (((q + 1 : Nat) : Int), 61) := by rw [e, he]
        have e1 : prA s = .tup [.sl [] 0, .int .i64 ((q + 1 : Nat) : Int), .int .i64 61] := by unfold prA; rw [hR]
        have e2 : prG s = [] := by unfold prG; rw [hR]
        rw [e1, e2, wr_i64 ((q : Int) + 1) (by constructor <;> omega)]
        refine IntoF.soft ?_
        simp only [push_cast]
        exact Into.keep0A
  · obtain rfl : q = D.length := by omega
    have hR : prsR s = .ok out := by rw [e, he, List.drop_length]; rfl
    have e1 : prA s = .tup [.msl 0 0 0 out.length, .int .i64 0, .int .i64 0] := by unfold prA; rw [hR]
    have e2 : prG s = [.row (out.map (AV.int .u32)) 1 0] := by unfold prG; rw [hR]
    rw [e1, e2] at hfin
    ((first | with_reducible refine holds_of_ex X 400 _ _ _ ?_ | skip); simp (maxSteps := 1000000) only [push_cast, reduceCtorEq, Nat.reduceAdd, Nat.reduceMul, Nat.reduceSub, Nat.reduceBEq, Nat.reduceGT, Nat.reduceLT, Int.toNat_zero, Nat.reduceLeDiff, Int.reduceEq, Int.reduceLT, Int.reduceLE, hP, hΓ, hL, hfin, String.reduceEq, not_false_eq_true, if_true, if_false, Int.toNat_one, Bool.not_not])
    exact IntoF.base [1] ⟨(by simp only [push_cast, reduceCtorEq, Nat.reduceAdd, Nat.reduceMul, Nat.reduceSub, Nat.reduceBEq, Nat.reduceGT, Nat.reduceLT, Int.toNat_zero, Nat.reduceLeDiff, Int.reduceEq, Int.reduceLT, Int.reduceLE, leF]), (by first | rfl | (simp only [push_cast, reduceCtorEq, Nat.reduceAdd, Nat.reduceMul, Nat.reduceSub, Nat.reduceBEq, Nat.reduceGT, Nat.reduceLT, Int.toNat_zero, Nat.reduceLeDiff, Int.reduceEq, Int.reduceLT, Int.reduceLE, leF, renO]; done)), (by decide), (by first | rfl | decide), (by simp only [push_cast, reduceCtorEq, Nat.reduceAdd, Nat.reduceMul, Nat.reduceSub, Nat.reduceBEq, Nat.reduceGT, Nat.reduceLT, Int.toNat_zero, Nat.reduceLeDiff, Int.reduceEq, Int.reduceLT, Int.reduceLE]), (by simp only [push_cast, reduceCtorEq, Nat.reduceAdd, Nat.reduceMul, Nat.reduceSub, Nat.reduceBEq, Nat.reduceGT, Nat.reduceLT, Int.toNat_zero, Nat.reduceLeDiff, Int.reduceEq, Int.reduceLT, Int.reduceLE])⟩ (by first | decide | (simp only [push_cast, reduceCtorEq, Nat.reduceAdd, Nat.reduceMul, Nat.reduceSub, Nat.reduceBEq, Nat.reduceGT, Nat.reduceLT, Int.toNat_zero, Nat.reduceLeDiff, Int.reduceEq, Int.reduceLT, Int.reduceLE]; done) | simp)
theorem con12 {Γ : Env} (h : EnvOk Tryz.prog Γ) (h35 : Γ 35 = some S35) (h36 : Γ 36 = some S36) (h37 : Γ 37 = some S37) (h38 : Γ 38 = some S38) : Con Tryz.prog 12 S12 :=
  heapE_con h (fn := Tryz.f12) (by kernel_rfl) rfl (by kernel_rfl) inj12 fun s h => body12 Γ h35 h36 h37 h38 s h
end Go.Proofs.YtgemeilncdmapaaGreatDoor.asmDone
end
section
namespace Go.Proofs.YtgemeilncdmapaaGreatDoor.asmDone
open Go Go.Eng Go.Proofs Go.RowKit
open Go.Asm (showF)
set_option linter.unusedVariables false
set_option linter.unusedSimpArgs false
set_option maxRecDepth 100000
set_option maxHeartbeats 4000000
def txt11 : List UInt8 := [77, 79, 86, 32, 82, 48, 32, 44, 53, 32, 59, 32, 120, 10, 10, 74, 77, 80, 32, 65, 76, 44, 48]
theorem show11a : showF 19398659 0 = [65, 68, 68, 32, 82, 49, 44, 32, 82, 50, 44, 32, 82, 51] := by decide +kernel
theorem show11b : showF 3892314111 100 = [74, 77, 80, 32, 65, 76, 44, 32, 49, 48, 48] := by decide +kernel
theorem prs11 : (match prsR txt11 with | .ok ws => some ws | .error _ => none) = some [1073741829, 3892314110] := by decide +kernel
theorem prs11e : prsR txt11 = .ok [1073741829, 3892314110] := by
  have := prs11
  cases h : prsR txt11 with
  | ok ws => rw [h] at this; rw [Option.some.inj this]
  | error p => rw [h] at this; cases this
def e11 : Unit → List AV := fun _ => []
def p11 : Unit → Prop := fun _ => True
def r11 : Unit → AV := fun _ => .bool true
def g11 : Unit → Heap := fun _ => []
theorem inj11 : ∀ a b, e11 a = e11 b → a = b := fun _ _ _ => rfl
noncomputable def S11 : FSpec := funS e11 p11 r11 g11 true
theorem ps11  : psel e11 p11 [] = (True) := psel_at inj11 p11 ()
theorem rs11  : rsel e11 r11 .any [] = (.bool true) := rsel_at inj11 r11 .any ()
theorem hs11  : rsel e11 g11 [] [] = ([]) := rsel_at inj11 g11 [] ()
attribute [push_cast] S11 ps11 rs11 hs11
theorem body11 (Γ : Env) (h9 : Γ 9 = some S9) (h12 : Γ 12 = some S12) : BodyOk Tryz.prog Γ Tryz.f11 [] [] (.bool true) [] := by
  have e1 : prA txt11 = .tup [.msl 0 0 0 2, .int .i64 0, .int .i64 0] := by unfold prA; rw [prs11e]; rfl
  have e2 : prG txt11 = [.row [.int .u32 1073741829, .int .u32 3892314110] 1 0] := by unfold prG; rw [prs11e]; rfl
  unfold txt11 at e1 e2
  have s1 := show11a
  have s2 := show11b
  (intro X hP hΓ hL hfin; refine ⟨_, rfl, ?_⟩; rw [show Tryz.f11.ntmps = 40 from rfl]; rw [show Tryz.f11.results.toList = [.tmp 0] from rfl] at hfin; apply holds_of_ex X 400; simp (maxSteps := 1000000) only [push_cast, reduceCtorEq, Nat.reduceAdd, Nat.reduceMul, Nat.reduceSub, Nat.reduceBEq, Nat.reduceGT, Nat.reduceLT, Int.toNat_zero, Nat.reduceLeDiff, Int.reduceEq, Int.reduceLT, Int.reduceLE, hP, hΓ, hL, hfin, String.reduceEq, not_false_eq_true, if_true, if_false, Int.toNat_one, Bool.not_not, h9, h12, e1, e2, s1, s2, Int.toNat_one])
  refine ⟨fun _ => by decide, fun _ => by decide, ?_⟩
  exact Into.one rfl rfl
theorem con11 {Γ : Env} (h : EnvOk Tryz.prog Γ) (h9 : Γ 9 = some S9) (h12 : Γ 12 = some S12) : Con Tryz.prog 11 S11 :=
  funS_con h (fn := Tryz.f11) (by kernel_rfl) rfl (by kernel_rfl) inj11 (by first | (intro h; cases h; done) | exact fun _ _ => rfl) fun _ h => body11 Γ h9 h12
def e14 : (List Int) × (List Int) → List AV := fun (a, b) => [.sl (a.map (AV.int .u32)) a.length, .sl (b.map (AV.int .u32)) b.length]
def p14 : (List Int) × (List Int) → Prop := fun (a, b) => a.length ≤ 4194304 ∧ b.length ≤ 4194304
def r14 : (List Int) × (List Int) → AV := fun (a, b) => .bool (a == b)
def g14 : (List Int) × (List Int) → Heap := fun (a, b) => []
theorem inj14 : ∀ a b, e14 a = e14 b → a = b := by
  rintro ⟨a, b⟩ ⟨a', b'⟩ h
  simp only [e14, mi_iff, ms_iff, mb_iff, my_iff, UInt8.toNat_inj, List.cons.injEq, AV.int.injEq, AV.str.injEq, AV.bool.injEq, AV.sl.injEq, AV.agg.injEq, AV.ip.injEq, AV.fn.injEq, AV.ifc.injEq, AV.mpr.injEq, Int.natCast_inj, and_true, true_and] at h
  simp_all only
noncomputable def S14 : FSpec := funS e14 p14 r14 g14 true
theorem ps14 (a : (List Int)) (b : (List Int)) : psel e14 p14 [.sl (a.map (AV.int .u32)) a.length, .sl (b.map (AV.int .u32)) b.length] = (a.length ≤ 4194304 ∧ b.length ≤ 4194304) := psel_at inj14 p14 (a, b)
theorem rs14 (a : (List Int)) (b : (List Int)) : rsel e14 r14 .any [.sl (a.map (AV.int .u32)) a.length, .sl (b.map (AV.int .u32)) b.length] = (.bool (a == b)) := rsel_at inj14 r14 .any (a, b)
theorem hs14 (a : (List Int)) (b : (List Int)) : rsel e14 g14 [] [.sl (a.map (AV.int .u32)) a.length, .sl (b.map (AV.int .u32)) b.length] = ([]) := rsel_at inj14 g14 [] (a, b)
attribute [push_cast] S14 ps14 rs14 hs14
theorem body14 (Γ : Env) (a b : List Int) (ha : a.length ≤ 4194304) (hb : b.length ≤ 4194304) : BodyOk Tryz.prog Γ Tryz.f14 [.sl (a.map (AV.int .u32)) a.length, .sl (b.map (AV.int .u32)) b.length] [] (.bool (a == b)) [] := by
  (intro X hP hΓ hL hfin; refine ⟨_, rfl, ?_⟩; rw [show Tryz.f14.ntmps = 32 from rfl]; rw [show Tryz.f14.results.toList = [.tmp 4] from rfl] at hfin; apply holds_of_ex X 400; simp (maxSteps := 1000000) only [push_cast, reduceCtorEq, Nat.reduceAdd, Nat.reduceMul, Nat.reduceSub, Nat.reduceBEq, Nat.reduceGT, Nat.reduceLT, Int.toNat_zero, Nat.reduceLeDiff, Int.reduceEq, Int.reduceLT, Int.reduceLE, hP, hΓ, hL, hfin, String.reduceEq, not_false_eq_true, if_true, if_false, Int.toNat_one, Bool.not_not])
  refine Holds.loopM (ι := {k : Nat // k ≤ a.length ∧ k ≤ b.length ∧ a.take k = b.take k}) [true, true, false, false, false, false, false, false, false, false, false, false, false, false, false, false, false, false, false, false, false, false, false, false, false, false, false, false, false, false, false, false] (fun i => [(5, .int .i64 i.1)]) (fun i => []) (fun i => a.length - i.1) ⟨0, Nat.zero_le _, Nat.zero_le _, rfl⟩ ?_ ?_
  · (rw [hL]; simp only [push_cast, Int.natCast_zero]; exact Into.sameA)
  rintro ⟨k, hka, hkb, he⟩
  rcases Nat.lt_or_ge k a.length with h1 | h1
  · have d1 : decide ((k : Int) < (a.length : Int)) = true := decide_eq_true (by omega)
    rcases Nat.lt_or_ge k b.length with h2 | h2
    · have d2 : decide ((k : Int) < (b.length : Int)) = true := decide_eq_true (by omega)
      ((first | with_reducible refine holds_of_ex X 400 _ _ _ ?_ | skip); simp (maxSteps := 1000000) only [push_cast, reduceCtorEq, Nat.reduceAdd, Nat.reduceMul, Nat.reduceSub, Nat.reduceBEq, Nat.reduceGT, Nat.reduceLT, Int.toNat_zero, Nat.reduceLeDiff, Int.reduceEq, Int.reduceLT, Int.reduceLE, hP, hΓ, hL, hfin, String.reduceEq, not_false_eq_true, if_true, if_false, Int.toNat_one, Bool.not_not, d1, d2])
      (refine Holds.drawnQ (by rw [hP]; kernel_rfl) (by kernel_rfl) ?_; simp only [push_cast, reduceCtorEq, Nat.reduceAdd, Nat.reduceMul, Nat.reduceSub, Nat.reduceBEq, Nat.reduceGT, Nat.reduceLT, Int.toNat_zero, Nat.reduceLeDiff, Int.reduceEq, Int.reduceLT, Int.reduceLE, hP, hΓ, hL, hfin])
      refine ⟨by omega, by omega, by omega, by omega, ?_⟩
      have ga : a.getD k default = a[k] := by simp [List.getD, h1]
      have gb : b.getD k default = b[k] := by simp [List.getD, h2]
      rcases Decidable.em (a.getD k default = b.getD k default) with hab | hab
      · have dab : decide (a.getD k default = b.getD k default) = true := decide_eq_true hab
        ((first | with_reducible refine holds_of_ex X 400 _ _ _ ?_ | skip); simp (maxSteps := 1000000) only [push_cast, reduceCtorEq, Nat.reduceAdd, Nat.reduceMul, Nat.reduceSub, Nat.reduceBEq, Nat.reduceGT, Nat.reduceLT, Int.toNat_zero, Nat.reduceLeDiff, Int.reduceEq, Int.reduceLT, Int.reduceLE, hP, hΓ, hL, hfin, String.reduceEq, not_false_eq_true, if_true, if_false, Int.toNat_one, Bool.not_not, dab])
        refine ⟨⟨k + 1, h1, h2, by rw [List.take_succ_eq_append_getElem h1, List.take_succ_eq_append_getElem h2, he, ← ga, ← gb, hab]⟩, by simp only; omega, ?_⟩
        dsimp only
        rw [wr_i64 ((k : Int) + 1) (by constructor <;> omega)]
        exact Into.sameA
      · have dab : decide (a.getD k default = b.getD k default) = false := decide_eq_false hab
        have e : (a == b) = false := by
          rw [beq_eq_false_iff_ne]; rintro rfl; exact hab rfl
        ((first | with_reducible refine holds_of_ex X 400 _ _ _ ?_ | skip); simp (maxSteps := 1000000) only [push_cast, reduceCtorEq, Nat.reduceAdd, Nat.reduceMul, Nat.reduceSub, Nat.reduceBEq, Nat.reduceGT, Nat.reduceLT, Int.toNat_zero, Nat.reduceLeDiff, Int.reduceEq, Int.reduceLT, Int.reduceLE, hP, hΓ, hL, hfin, String.reduceEq, not_false_eq_true, if_true, if_false, Int.toNat_one, Bool.not_not, dab])
        rw [e]
        exact Into.one rfl rfl
    · have d2 : decide ((k : Int) < (b.length : Int)) = false := decide_eq_false (by omega)
      ((first | with_reducible refine holds_of_ex X 400 _ _ _ ?_ | skip); simp (maxSteps := 1000000) only [push_cast, reduceCtorEq, Nat.reduceAdd, Nat.reduceMul, Nat.reduceSub, Nat.reduceBEq, Nat.reduceGT, Nat.reduceLT, Int.toNat_zero, Nat.reduceLeDiff, Int.reduceEq, Int.reduceLT, Int.reduceLE, hP, hΓ, hL, hfin, String.reduceEq, not_false_eq_true, if_true, if_false, Int.toNat_one, Bool.not_not, d1, d2])
      have e : decide ((a.length : Int) = (b.length : Int)) = (a == b) := by
        rw [decide_eq_false (by omega)]; symm; rw [beq_eq_false_iff_ne]; rintro rfl; omega
      rw [e]
      exact Into.one rfl rfl
  · have d1 : decide ((k : Int) < (a.length : Int)) = false := decide_eq_false (by omega)
    ((first | with_reducible refine holds_of_ex X 400 _ _ _ ?_ | skip); simp (maxSteps := 1000000) only [push_cast, reduceCtorEq, Nat.reduceAdd, Nat.reduceMul, Nat.reduceSub, Nat.reduceBEq, Nat.reduceGT, Nat.reduceLT, Int.toNat_zero, Nat.reduceLeDiff, Int.reduceEq, Int.reduceLT, Int.reduceLE, hP, hΓ, hL, hfin, String.reduceEq, not_false_eq_true, if_true, if_false, Int.toNat_one, Bool.not_not, d1])
    have e : decide ((a.length : Int) = (b.length : Int)) = (a == b) := by
      rw [Bool.eq_iff_iff, decide_eq_true_eq, beq_iff_eq]
      constructor
      · intro h
        have hk : k = a.length := by omega
        have hk2 : k = b.length := by omega
        rw [hk, List.take_length] at he
        rw [he, ← hk, hk2, List.take_length]
      · rintro rfl; rfl
    rw [e]
    exact Into.one rfl rfl
theorem con14 {Γ : Env} (h : EnvOk Tryz.prog Γ)  : Con Tryz.prog 14 S14 :=
  funS_con h (fn := Tryz.f14) (by kernel_rfl) rfl (by kernel_rfl) inj14 (by first | (intro h; cases h; done) | exact fun _ _ => rfl) fun ⟨a, b⟩ h => body14 Γ a b h.1 h.2
end Go.Proofs.YtgemeilncdmapaaGreatDoor.asmDone
end
section
namespace Go.Proofs.YtgemeilncdmapaaGreatDoor.asmDone
open Go Go.Eng Go.Proofs Go.RowKit
open Go.Asm (showF)
set_option linter.unusedVariables false
set_option linter.unusedSimpArgs false
set_option maxRecDepth 100000
set_option maxHeartbeats 4000000
theorem law3 (Γ : Env) (h9 : Γ 9 = some S9) (h10 : Γ 10 = some S10) (h11 : Γ 11 = some S11) (ws : List Int) (at_ : Int) (hw : ∀ w ∈ ws, 0 ≤ w ∧ w < 4294967296) (hn : ws.length ≤ 4194304) (hat : 0 ≤ at_ ∧ at_ < 4294967296) : BodyOk Tryz.prog Γ Tryz.f3 [.sl (ws.map (AV.int .u32)) ws.length, .int .u32 at_] [] (.bool true) [] := by
  (intro X hP hΓ hL hfin; refine ⟨_, rfl, ?_⟩; rw [show Tryz.f3.ntmps = 26 from rfl]; rw [show Tryz.f3.results.toList = [.tmp 4] from rfl] at hfin; apply holds_of_ex X 400; simp (maxSteps := 1000000) only [push_cast, reduceCtorEq, Nat.reduceAdd, Nat.reduceMul, Nat.reduceSub, Nat.reduceBEq, Nat.reduceGT, Nat.reduceLT, Int.toNat_zero, Nat.reduceLeDiff, Int.reduceEq, Int.reduceLT, Int.reduceLE, hP, hΓ, hL, hfin, String.reduceEq, not_false_eq_true, if_true, if_false, Int.toNat_one, Bool.not_not])
  refine Holds.loopM (ι := {k : Nat // k ≤ ws.length}) [true, true, false, false, false, false, false, false, false, false, false, false, false, false, false, false, false, false, false, false, false, false, false, false, false, false] (fun i => [(5, .int .i64 i.1)]) (fun i => []) (fun i => ws.length - i.1) ⟨0, Nat.zero_le _⟩ ?_ ?_
  · (rw [hL]; simp only [push_cast, Int.natCast_zero]; exact Into.sameA)
  rintro ⟨k, hk⟩
  ((first | with_reducible refine holds_of_ex X 400 _ _ _ ?_ | skip); simp (maxSteps := 1000000) only [push_cast, reduceCtorEq, Nat.reduceAdd, Nat.reduceMul, Nat.reduceSub, Nat.reduceBEq, Nat.reduceGT, Nat.reduceLT, Int.toNat_zero, Nat.reduceLeDiff, Int.reduceEq, Int.reduceLT, Int.reduceLE, hP, hΓ, hL, hfin, String.reduceEq, not_false_eq_true, if_true, if_false, Int.toNat_one, Bool.not_not])
  ((with_reducible refine exB_split (fun h => ?_) (fun h => ?_)) <;> (try simp only [decide_eq_true_eq, decide_eq_false_iff_not, Bool.and_eq_true, Bool.or_eq_true, Bool.and_eq_false_iff, Bool.or_eq_false_iff, Bool.not_eq_true', Bool.not_eq_false', Bool.not_eq_true, Bool.not_eq_false, Int.not_lt, Int.not_le, beq_iff_eq, beq_eq_false_iff_ne, ne_eq] at h))
  · have hk' : k < ws.length := by omega
    have hg : ws.getD k default = ws[k] := by simp [List.getD, hk']
    have hwk := hw _ (List.getElem_mem hk')
    rw [← hg] at hwk
    have hdd : decide (showF (ws.getD k default) at_ = showF (ws.getD k default) at_) = true := decide_eq_true rfl
    ((first | with_reducible refine holds_of_ex X 400 _ _ _ ?_ | skip); simp (maxSteps := 1000000) only [push_cast, reduceCtorEq, Nat.reduceAdd, Nat.reduceMul, Nat.reduceSub, Nat.reduceBEq, Nat.reduceGT, Nat.reduceLT, Int.toNat_zero, Nat.reduceLeDiff, Int.reduceEq, Int.reduceLT, Int.reduceLE, hP, hΓ, hL, hfin, String.reduceEq, not_false_eq_true, if_true, if_false, Int.toNat_one, Bool.not_not])
    (refine Holds.drawnQ (by rw [hP]; kernel_rfl) (by kernel_rfl) ?_; simp only [push_cast, reduceCtorEq, Nat.reduceAdd, Nat.reduceMul, Nat.reduceSub, Nat.reduceBEq, Nat.reduceGT, Nat.reduceLT, Int.toNat_zero, Nat.reduceLeDiff, Int.reduceEq, Int.reduceLT, Int.reduceLE, hP, hΓ, hL, hfin, h9, h10, hwk, hat])
    refine ⟨by omega, by omega, by omega, by omega, ⟨k + 1, hk'⟩, by simp only; omega, ?_⟩
    dsimp only
    rw [wr_i64 ((k : Int) + 1) (by constructor <;> omega)]
    exact Into.sameA
  · ((first | with_reducible refine holds_of_ex X 400 _ _ _ ?_ | skip); simp (maxSteps := 1000000) only [push_cast, reduceCtorEq, Nat.reduceAdd, Nat.reduceMul, Nat.reduceSub, Nat.reduceBEq, Nat.reduceGT, Nat.reduceLT, Int.toNat_zero, Nat.reduceLeDiff, Int.reduceEq, Int.reduceLT, Int.reduceLE, hP, hΓ, hL, hfin, String.reduceEq, not_false_eq_true, if_true, if_false, Int.toNat_one, Bool.not_not, h11])
    exact Into.one rfl rfl
theorem law6 (Γ : Env) (h11 : Γ 11 = some S11) (h15 : Γ 15 = some S15) (h16 : Γ 16 = some S16) (ws : List Int) (hw : ∀ w ∈ ws, 0 ≤ w ∧ w < 4294967296) (hn : ws.length ≤ 4194304) : BodyOk Tryz.prog Γ Tryz.f6 [.sl (ws.map (AV.int .u32)) ws.length] [] (.bool true) [] := by
  have hn2 : ws.length ≤ 1000000000 := by omega
  (intro X hP hΓ hL hfin; refine ⟨_, rfl, ?_⟩; rw [show Tryz.f6.ntmps = 28 from rfl]; rw [show Tryz.f6.results.toList = [.tmp 2] from rfl] at hfin; apply holds_of_ex X 400; simp (maxSteps := 1000000) only [push_cast, reduceCtorEq, Nat.reduceAdd, Nat.reduceMul, Nat.reduceSub, Nat.reduceBEq, Nat.reduceGT, Nat.reduceLT, Int.toNat_zero, Nat.reduceLeDiff, Int.reduceEq, Int.reduceLT, Int.reduceLE, hP, hΓ, hL, hfin, String.reduceEq, not_false_eq_true, if_true, if_false, Int.toNat_one, Bool.not_not, h15, hw, hn2, h16, h11])
  exact ⟨hw, hw, Into.one rfl rfl⟩
end Go.Proofs.YtgemeilncdmapaaGreatDoor.asmDone
end
section
namespace Go.Proofs.YtgemeilncdmapaaGreatDoor.asmDone
open Go Go.Eng Go.Proofs Go.RowKit
open Go.Lines (pieces pieces_le)
open Go.Asm (showF lineO wordO trimF bareF linesO headF restF joinT firm solid_blk line_parts join_last trim_ends show_back encO unhO unhL rightI laidI laid_lo In blk sep)
open Go.Proofs.YtgemeilncdmapaaGreatDoor.linesDone (pcs_pieces)
set_option linter.unusedVariables false
set_option linter.unusedSimpArgs false
set_option maxRecDepth 100000
set_option maxHeartbeats 4000000
theorem join_char : ∀ l : List (List UInt8), (∀ s ∈ l, firm s) → ∀ c ∈ joinT l, c ≠ 10 ∧ c ≠ 59
  | [], _ => by simp [joinT]
  | [x], h => fun c hc => by
    have := solid_blk (List.all_eq_true.1 (h x (by simp)).2 c hc)
    exact ⟨this.2.2.2, this.2.2.1⟩
  | x :: y :: r, h => fun c hc => by
    rw [joinT, List.mem_append, List.mem_append] at hc
    rcases hc with hc | hc | hc
    · have := solid_blk (List.all_eq_true.1 (h x (by simp)).2 c hc)
      exact ⟨this.2.2.2, this.2.2.1⟩
    · simp only [sep, List.mem_cons, List.not_mem_nil, or_false] at hc
      rcases hc with rfl | rfl <;> decide
    · exact join_char (y :: r) (fun s hs => h s (by simp [hs])) c hc
theorem tw_all {p : UInt8 → Bool} {l : List UInt8} (h : ∀ c ∈ l, p c = true) : l.takeWhile p = l := by
  induction l with
  | nil => rfl
  | cons c l ih => rw [List.takeWhile_cons, h c (by simp), if_pos rfl, ih fun x hx => h x (by simp [hx])]
theorem show_line {w at_ : Int} (hw : 0 ≤ w ∧ w < 4294967296) (hat : 0 ≤ at_ ∧ at_ < 4294967296) : bareF (showF w at_) = showF w at_ ∧ showF w at_ ≠ [] ∧ (∀ c ∈ showF w at_, c ≠ 10) ∧ lineO (showF w at_) at_ = some w := by
  obtain ⟨nm, l, e, hn, hl, hf, hv⟩ := show_back at_ hw hat
  have hch : ∀ c ∈ showF w at_, c ≠ 10 ∧ c ≠ 59 := by
    intro c hc
    rw [e, List.mem_append, List.mem_cons] at hc
    rcases hc with hc | rfl | hc
    · have := solid_blk (List.all_eq_true.1 hn.2 c hc)
      exact ⟨this.2.2.2, this.2.2.1⟩
    · decide
    · exact join_char l hf c hc
  refine ⟨?_, ?_, fun c hc => (hch c hc).1, ?_⟩
  · have ht : (showF w at_).takeWhile (fun c => !(c == 59)) = showF w at_ := tw_all fun c hc => by simpa using (hch c hc).2
    rw [bareF, ht, e]
    refine trim_ends ?_ ?_
    · intro c r e2
      obtain ⟨a, b, rfl⟩ := List.exists_cons_of_ne_nil hn.1
      simp only [List.cons_append, List.cons.injEq] at e2
      obtain ⟨rfl, _⟩ := e2
      exact (solid_blk (List.all_eq_true.1 hn.2 a (by simp))).1
    · intro c r e2
      have hne : joinT l ≠ [] := by
        obtain ⟨x, y, rfl⟩ := List.exists_cons_of_ne_nil hl
        obtain ⟨a, b, e9⟩ := List.exists_cons_of_ne_nil (hf x (by simp)).1
        cases y <;> simp [joinT, e9]
      rcases List.eq_nil_or_concat (joinT l) with h | ⟨q, z, hq⟩
      · exact absurd h hne
      · have hq' : joinT l = q ++ [z] := by simpa using hq
        rw [hq'] at e2
        have h2 : (nm ++ 32 :: q) ++ [z] = r ++ [c] := by simpa using e2
        have h3 := (List.append_inj' h2 rfl).2
        cases h3
        exact join_last l hl hf _ _ hq'
  · rw [e]; simp
  · unfold lineO
    obtain ⟨e1, e2⟩ := line_parts hn hl hf
    rw [e, e1, e2]; exact hv
theorem lines_tls : ∀ (ws : List Int) (k q : Nat) (out : List Int), (∀ w ∈ ws, 0 ≤ w ∧ w < 4294967296) → k = out.length → k + ws.length ≤ 16384 → linesO q out (pieces 10 (tls k ws)) = .ok (out ++ ws)
  | [], k, q, out, _, _, _ => by
    have e : bareF [] = [] := rfl
    rw [tls, pieces, linesO, if_pos e, linesO, List.append_nil]
  | w :: r, k, q, out, h, hk, hl => by
    obtain ⟨s1, s2, s3, s4⟩ := show_line (h w (by simp)) (at_ := 4 * (k : Int)) (by simp only [List.length_cons] at hl; omega)
    rw [tls, ← pcs_pieces, Go.Asm.pcs_at _ s3, pcs_pieces, linesO, s1, if_neg s2, ← hk, s4]
    simp only
    rw [lines_tls r (k + 1) (q + 1) (out ++ [w]) (fun x hx => h x (by simp [hx])) (by simp [hk]) (by simp only [List.length_cons] at hl; omega)]
    simp
theorem text_back {ws : List Int} (h : ∀ w ∈ ws, 0 ≤ w ∧ w < 4294967296) (ht : (textR ws).2 = 0) : prsR (textR ws).1 = .ok ws := by
  unfold textR at ht ⊢
  split
  · rename_i h1; rw [if_pos h1] at ht; cases ht
  rename_i h1
  split
  · rename_i h2; rw [if_neg h1, if_pos h2] at ht; cases ht
  rename_i h2
  unfold prsR
  rw [if_neg h2, lines_tls ws 0 1 [] h rfl (by omega)]
  rfl
theorem text_err (ws : List Int) : (textR ws).2 = 0 ∨ (textR ws).2 = 60 := by
  unfold textR
  split
  · exact .inr rfl
  split
  · exact .inr rfl
  · exact .inl rfl
theorem text_len (ws : List Int) : (textR ws).1.length ≤ 65536 := by
  unfold textR
  split
  · simp
  split
  · simp
  · simp only; omega
theorem enc_rng {o : Option In} {w : Int} (h : encO o = some w) : 0 ≤ w ∧ w < 4294967296 := by
  cases o with
  | none => cases h
  | some i =>
    rw [encO] at h
    split at h
    · rename_i hr
      cases h
      exact laid_lo hr
    · cases h
theorem line_rng {s : List UInt8} {at_ w : Int} (h : lineO s at_ = some w) : 0 ≤ w ∧ w < 4294967296 := by
  unfold lineO wordO at h
  split at h
  · split at h
    · rename_i x _
      unfold unhO at h
      split at h
      · cases h
      · rename_i hx
        cases hu : unhL 0 x with
        | none => rw [hu] at h; cases h
        | some n =>
          rw [hu] at h
          cases h
          have h1 := unh_lt _ _ _ hu
          have h2 : 16 ^ x.length ≤ 16 ^ 8 := Nat.pow_le_pow_right (by decide) (by rcases Nat.lt_or_ge 8 x.length with h' | h'; exact absurd (.inr h') hx; exact h')
          have h8 : (16 : Nat) ^ 8 = 4294967296 := by decide
          simp only; omega
    · cases h
  split at h
  · exact enc_rng h
  split at h
  · exact enc_rng h
  · cases h
theorem lines_rng : ∀ (D : List (List UInt8)) (q : Nat) (out ws : List Int), linesO q out D = .ok ws → (∀ w ∈ out, 0 ≤ w ∧ w < 4294967296) → (∀ w ∈ ws, 0 ≤ w ∧ w < 4294967296) ∧ ws.length ≤ out.length + D.length
  | [], q, out, ws, h, ho => by rw [linesO] at h; cases h; exact ⟨ho, by simp⟩
  | s :: r, q, out, ws, h, ho => by
    rw [linesO] at h
    split at h
    · obtain ⟨h1, h2⟩ := lines_rng r _ _ _ h ho
      exact ⟨h1, by simp only [List.length_cons]; omega⟩
    · split at h
      · rename_i w hw
        obtain ⟨h1, h2⟩ := lines_rng r _ _ _ h (fun x hx => by
          rcases List.mem_append.1 hx with hx | hx
          · exact ho x hx
          · rw [List.mem_singleton.1 hx]; exact line_rng hw)
        exact ⟨h1, by simp only [List.length_cons, List.length_append, List.length_nil] at h2 ⊢; omega⟩
      · cases h
theorem prs_rng {s : List UInt8} {ws : List Int} (h : prsR s = .ok ws) : (∀ w ∈ ws, 0 ≤ w ∧ w < 4294967296) ∧ ws.length ≤ 65537 := by
  unfold prsR at h
  split at h
  · cases h
  rename_i hs
  split at h
  · rename_i o ho
    cases h
    obtain ⟨h1, h2⟩ := lines_rng _ _ _ _ ho (by simp)
    have := pieces_le 10 s
    exact ⟨h1, by simp only [List.length_nil] at h2; omega⟩
  · cases h
theorem prs_nil : prsR [] = .ok [] := rfl
theorem text_nil : textR [] = ([], 0) := rfl
end Go.Proofs.YtgemeilncdmapaaGreatDoor.asmDone
end
