/- Of directories: the document's Insert. Conditions stand in each. -/
import Derived.Test.YtbnnhffkbcekcaaGreatDoorPl
import Derived.Test.YtbnnhffkbcekcaaGreatDoorEg
set_option linter.unusedVariables false
set_option linter.unusedSimpArgs false
set_option maxRecDepth 100000
set_option maxHeartbeats 4000000
namespace Go.Eng
open Go
theorem Holds.nilS {X : Cx} {k : List It} {fr : List AV} {L : Heap} (i sz : Nat) (hi : fr.getD i .any = .lit (.slice none 0 0)) (h : Holds X k (fr.set i (.msl L.length 0 0 0)) (L ++ [.row [] sz 0])) : Holds X k fr L :=
  Holds.weak (S := (fr.set i (.msl L.length 0 0 0), L ++ [.row [] sz 0])) (.nil i sz hi (.refl (fr.set i (.msl L.length 0 0 0), L ++ [.row [] sz 0]))) h
end Go.Eng
namespace Go.Proofs.YtbnnhffkbcekcaaGreatDoor.dirDone
open Go Go.Eng Go.Proofs Go.Lib
def insYU (F : List Fl) (Lv U : List Int) (N : Nat) (R : List Wr) (nm : List UInt8) (h ln : Int) : List Int :=
  (uGo 1 0 (inG F nm) (uGo 2 1 (ownL (sOf N R) h ln) (ryU (inL F (sOf N R) nm h ln) Lv N R U)).1).1
def insY (F : List Fl) (Lv U : List Int) (N : Nat) (R : List Wr) (nm : List UInt8) (h ln : Int) : Heap :=
  if inR F U (sOf N R) R nm h ln = 0 then dirY (inL F (sOf N R) nm h ln) (ryE (inL F (sOf N R) nm h ln) N R U).now (insYU F Lv U N R nm h ln) N (ryR (inL F (sOf N R) nm h ln) N R U) else dirY F Lv U N R
def e68 : (List Fl) × (List Int) × (List Int) × (Nat) × (List Wr) × (List UInt8) × (Int) × (Int) → List AV × Heap := fun (F, Lv, U, N, R, nm, h, ln) => ([.ref 0 0 0, .agg [.str nm, .int .i64 h, .int .i64 ln]], dirY F Lv U N R)
def p68 : (List Fl) × (List Int) × (List Int) × (Nat) × (List Wr) × (List UInt8) × (Int) × (Int) → Prop := fun (F, Lv, U, N, R, nm, h, ln) => F.length ≤ 200 ∧ (∀ f ∈ F, flOk f ∧ f.se.length ≤ 251) ∧ Lv.length ≤ 1000 ∧ U.length = N ∧ N ≤ 4096 ∧ R.length ≤ 4096 ∧ nm.length ≤ 1048576
def r68 : (List Fl) × (List Int) × (List Int) × (Nat) × (List Wr) × (List UInt8) × (Int) × (Int) → AV := fun (F, Lv, U, N, R, nm, h, ln) => .int .i64 (inR F U (sOf N R) R nm h ln)
def g68 : (List Fl) × (List Int) × (List Int) × (Nat) × (List Wr) × (List UInt8) × (Int) × (Int) → Heap := fun (F, Lv, U, N, R, nm, h, ln) => insY F Lv U N R nm h ln
theorem inj68 : ∀ a b, e68 a = e68 b → a = b := by
  rintro ⟨F, Lv, U, N, R, nm, h, ln⟩ ⟨F', Lv', U', N', R', nm', h', ln'⟩ h
  simp only [e68, mi_iff, ms_iff, mb_iff, my_iff, UInt8.toNat_inj, secs_iff, wrs_iff, fl_iff, dskH, dskK, dirH, dirK, dirZ, flc_iff, rdkH, wrr_iff, dirY, dirP, rdkM, avinj, List.cons.injEq] at h
  simp_all only
noncomputable def S68 : FSpec := heapE true e68 p68 r68 g68
theorem ps68 (F : (List Fl)) (Lv : (List Int)) (U : (List Int)) (N : (Nat)) (R : (List Wr)) (nm : (List UInt8)) (h : (Int)) (ln : (Int)) : pselK e68 p68 ([.ref 0 0 0, .agg [.str nm, .int .i64 h, .int .i64 ln]], dirY F Lv U N R) = (F.length ≤ 200 ∧ (∀ f ∈ F, flOk f ∧ f.se.length ≤ 251) ∧ Lv.length ≤ 1000 ∧ U.length = N ∧ N ≤ 4096 ∧ R.length ≤ 4096 ∧ nm.length ≤ 1048576) := pselK_at inj68 p68 (F, Lv, U, N, R, nm, h, ln)
theorem rs68 (F : (List Fl)) (Lv : (List Int)) (U : (List Int)) (N : (Nat)) (R : (List Wr)) (nm : (List UInt8)) (h : (Int)) (ln : (Int)) : rselK e68 r68 .any ([.ref 0 0 0, .agg [.str nm, .int .i64 h, .int .i64 ln]], dirY F Lv U N R) = (.int .i64 (inR F U (sOf N R) R nm h ln)) := rselK_at inj68 r68 .any (F, Lv, U, N, R, nm, h, ln)
theorem hs68 (F : (List Fl)) (Lv : (List Int)) (U : (List Int)) (N : (Nat)) (R : (List Wr)) (nm : (List UInt8)) (h : (Int)) (ln : (Int)) : rselK e68 g68 [] ([.ref 0 0 0, .agg [.str nm, .int .i64 h, .int .i64 ln]], dirY F Lv U N R) = (insY F Lv U N R nm h ln) := rselK_at inj68 g68 [] (F, Lv, U, N, R, nm, h, ln)
attribute [push_cast] S68 ps68 rs68 hs68
theorem fl_se (F : List Fl) (i : Nat) (d : AV) (h : i < F.length) : (F.flatMap flC).getD (i * 4 + 3) d = .sl ((F.getD i default).se.map (AV.int .i64)) (F.getD i default).se.length := by rw [getD_fm (n := 4) F i 3 d h (by decide)]; rfl
theorem hdOk_in {S : List Sec} {h ln : Int} (hk : hdOk S h ln) (i : Nat) (hi : i < (ownL S h ln).length) : 0 ≤ (ownL S h ln).getD i default ∧ (ownL S h ln).getD i default < S.length := by
  unfold ownL at hi ⊢
  rw [hdL_len] at hi
  rcases i with _ | i
  · exact hk.1.1
  · have : (hdL (secB S h) h (hdN ln)).getD (i + 1) default = ((hdW (secB S h) i : Nat) : Int) := by
      unfold hdL
      rw [List.getD_cons_succ, List.getD_eq_getElem?_getD, List.getElem?_map, List.getElem?_range (by omega)]
      rfl
    rw [this]
    have := hk.2 i (by omega)
    omega
theorem ryU_len (L : List Fl) (Lv : List Int) (N : Nat) (R : List Wr) (U : List Int) (hR : R.length ≤ 4096) (h : lvN L.length ≤ U.count 0) : (ryU L Lv N R U).length = U.length := by
  unfold ryU
  rw [uGo_len, uGo_len]
  exact (ryK_facts L N R U hR _ h).2.1
theorem body68 (Γ : Env) (h109 : Γ 109 = some S109) (h98 : Γ 98 = some S98) (h120 : Γ 120 = some S120) (h121 : Γ 121 = some S121) (h122 : Γ 122 = some S122) (h99 : Γ 99 = some S99) (F : List Fl) (Lv U : List Int) (N : Nat) (R : List Wr) (nm : List UInt8) (h ln : Int)
    (hF : F.length ≤ 200) (hok : ∀ f ∈ F, flOk f ∧ f.se.length ≤ 251) (hLv : Lv.length ≤ 1000) (hU : U.length = N) (hN : N ≤ 4096) (hR : R.length ≤ 4096) (hn : nm.length ≤ 1048576) :
    BodyOk Tryz.prog Γ Tryz.f68 [.ref 0 0 0, .agg [.str nm, .int .i64 h, .int .i64 ln]] (dirY F Lv U N R) (.int .i64 (inR F U (sOf N R) R nm h ln)) (insY F Lv U N R nm h ln) := by
  have p98 := ps98 N R h ln
  have r98 := rs98 N R h ln
  have g98 := hs98 N R h ln
  have p120 := ps120 F Lv U N R nm
  have r120 := rs120 F Lv U N R nm
  have g120 := hs120 F Lv U N R nm
  have hS := sOf_len N R
  unfold insY
  have hno : inR F U (sOf N R) R nm h ln ≠ 0 → (if inR F U (sOf N R) R nm h ln = 0 then dirY (inL F (sOf N R) nm h ln) (ryE (inL F (sOf N R) nm h ln) N R U).now (insYU F Lv U N R nm h ln) N (ryR (inL F (sOf N R) nm h ln) N R U) else dirY F Lv U N R) = dirY F Lv U N R := fun h' => if_neg h'
  have hyes : inR F U (sOf N R) R nm h ln = 0 → (if inR F U (sOf N R) R nm h ln = 0 then dirY (inL F (sOf N R) nm h ln) (ryE (inL F (sOf N R) nm h ln) N R U).now (insYU F Lv U N R nm h ln) N (ryR (inL F (sOf N R) nm h ln) N R U) else dirY F Lv U N R) = _ := fun h' => if_pos h'
  generalize hH : (if inR F U (sOf N R) R nm h ln = 0 then dirY (inL F (sOf N R) nm h ln) (ryE (inL F (sOf N R) nm h ln) N R U).now (insYU F Lv U N R nm h ln) N (ryR (inL F (sOf N R) nm h ln) N R U) else dirY F Lv U N R) = H at *
  clear hH
  have e1 : ¬ isNm nm = true → inR F U (sOf N R) R nm h ln = 171 := fun c => by unfold inR; rw [if_neg c]
  have e2 : isNm nm = true → ¬ inA U (sOf N R) h ln → inR F U (sOf N R) R nm h ln = 2 := fun c d => by unfold inR; rw [if_pos c, if_neg d]
  have e3 : isNm nm = true → inA U (sOf N R) h ln → ¬ (inL F (sOf N R) nm h ln).length ≤ 200 → inR F U (sOf N R) R nm h ln = 173 := fun c d e => by unfold inR; rw [if_pos c, if_pos d, if_neg e]
  have e4 : isNm nm = true → inA U (sOf N R) h ln → (inL F (sOf N R) nm h ln).length ≤ 200 → ¬ lyOk (inL F (sOf N R) nm h ln) R U → inR F U (sOf N R) R nm h ln = 174 := fun c d e f => by unfold inR; rw [if_pos c, if_pos d, if_pos e, if_neg f]
  have e5 : isNm nm = true → inA U (sOf N R) h ln → (inL F (sOf N R) nm h ln).length ≤ 200 → lyOk (inL F (sOf N R) nm h ln) R U → inR F U (sOf N R) R nm h ln = 0 := fun c d e f => by unfold inR; rw [if_pos c, if_pos d, if_pos e, if_pos f]
  have p109 : nm.length ≤ 9223372036854775807 := by omega
  generalize inR F U (sOf N R) R nm h ln = code at *
  by_cases c1 : isNm nm = true
  case neg =>
    have c1' : isNm nm = false := by simpa using c1
    obtain rfl := e1 c1
    rw [hno (by decide)]
    unfold dirY
    (intro X hP hΓ hL hfin; refine ⟨_, rfl, ?_⟩; rw [show Tryz.f68.ntmps = 133 from rfl]; rw [show Tryz.f68.results.toList = [.tmp 4] from rfl] at hfin; refine gxq (cj2 h109 c1') ?_)
    refine ⟨p109, ?_⟩
    exact Into.keep4A
  by_cases c2 : hdOk (sOf N R) h ln
  case neg =>
    obtain rfl := e2 c1 (fun d => c2 d.1)
    rw [hno (by decide)]
    have a98 : hdA (sOf N R) h ln = _ := if_neg c2
    unfold dirY rdkH at *
    (intro X hP hΓ hL hfin; refine ⟨_, rfl, ?_⟩; rw [show Tryz.f68.ntmps = 133 from rfl]; rw [show Tryz.f68.results.toList = [.tmp 4] from rfl] at hfin; refine gxq (cj2 h109 c1) ?_)
    refine ⟨p109, ?_⟩
    (refine Holds.drawnQ smp (by kernel_rfl) (gwq (cj5 h98 p98 r98 g98 a98) ?_))
    refine ⟨⟨by decide, hR, by omega⟩, ?_⟩
    exact Into.keep4A
  have a98 : hdA (sOf N R) h ln = .tup [.sl ((ownL (sOf N R) h ln).map (AV.int .i64)) (ownL (sOf N R) h ln).length, .bool true] := if_pos c2
  have hol := ownL_len c2
  have hin := hdOk_in c2
  rw [hS] at hin
  have hA : inA U (sOf N R) h ln ↔ tOk U 2 (ownL (sOf N R) h ln) := ⟨fun d => d.2, fun d => ⟨c2, d⟩⟩
  rw [hA] at e2 e3 e4 e5
  replace e2 := e2 c1
  replace e3 := e3 c1
  replace e4 := e4 c1
  replace e5 := e5 c1
  clear e1 hA
  unfold insYU at *
  unfold inL at *
  generalize hown : ownL (sOf N R) h ln = own at *
  unfold dirY rdkH at *
  (intro X hP hΓ hL hfin; refine ⟨_, rfl, ?_⟩; rw [show Tryz.f68.ntmps = 133 from rfl]; rw [show Tryz.f68.results.toList = [.tmp 4] from rfl] at hfin; refine gxq (cj2 h109 c1) ?_)
  refine ⟨p109, ?_⟩
  (refine Holds.drawnQ smp (by kernel_rfl) (gwq (cj5 h98 p98 r98 g98 a98) ?_))
  refine ⟨⟨by decide, hR, by omega⟩, ?_⟩
  refine Holds.loopM (ι := {k : Nat // k ≤ own.length ∧ ∀ i, i < k → tAt U 2 own i}) [tt,ff,ff,tt,ff,ff,tt,ff,ff,ff,tt,tt,tt,tt,tt,tt,ff,ff,ff,ff,ff,ff,ff,ff,ff,ff,ff,ff,ff,ff,ff,ff,ff,ff,ff,ff,ff,ff,ff,ff,ff,ff,ff,ff,ff,ff,ff,ff,ff,ff,ff,ff,ff,ff,ff,ff,ff,ff,ff,ff,ff,ff,ff,ff,ff,ff,ff,ff,ff,ff,ff,ff,ff,ff,ff,ff,ff,ff,ff,ff,ff,ff,ff,ff,ff,ff,ff,ff,ff,ff,ff,ff,ff,ff,ff,ff,ff,ff,ff,ff,ff,ff,ff,ff,ff,ff,ff,ff,ff,ff,ff,ff,ff,ff,ff,ff,ff,ff,ff,ff,ff,ff,ff,ff,ff,ff,ff,ff,ff,ff,ff,ff,ff] (fun i => [(6, .sl (own.map (AV.int .i64)) own.length), (8, .int .i64 i.1)]) (fun i => [.row [.ref 1 0 0, .sl (F.flatMap flC) F.length, .sl (Lv.map (AV.int .i64)) Lv.length, .msl 2 0 0 U.length] 4 0, .row [.sl ((noN N).map AV.str) N, .msl 3 R.length 0 R.length] 2 0, .row (U.map (AV.int .i64)) 1 0, .row (R.flatMap wrR) 2 R.length, .row [.str nm, .int .i64 h, .int .i64 ln] 3 0]) (fun i => own.length - i.1) ⟨0, Nat.zero_le _, fun i hi => absurd hi (Nat.not_lt_zero i)⟩ ?_ ?_
  · (rw [hL]; simp only [push_cast, Int.natCast_zero, ]; exact Into.sameA)
  rintro ⟨k, hk, hp⟩
  dsimp only
  by_cases hk' : k < own.length
  · have dk : decide ((k : Int) < (own.length : Int)) = true := decide_eq_true (by omega)
    have wk : IntKind.i64.wrap ((k : Int) + 1) = (k : Int) + 1 := wr_i64 _ (by constructor <;> omega)
    obtain ⟨hm0, hm1⟩ := hin k hk'
    obtain ⟨m, hm⟩ := Int.eq_ofNat_of_zero_le hm0
    have hmU : m < U.length := by omega
    by_cases c3 : U.getD m default = 2
    case neg =>
      have hx : ¬ tOk U 2 own := fun hc => c3 (by have := (hc k hk').2.2.1; rw [hm, Int.toNat_natCast] at this; exact this)
      obtain rfl := e2 hx
      rw [hno (by decide)] at hfin
      have d3 : decide (U.getD m default = 2) = false := decide_eq_false c3
      (refine gxq dk ?_)
      (refine Holds.drawnQ smp (by kernel_rfl) (gwq (cj4 hk' hm hmU d3) ?_))
      refine ⟨by omega, by omega, by omega, ⟨by omega, by omega⟩, ?_⟩
      exact Into.keep4A
    have d3 : decide (U.getD m default = 2) = true := decide_eq_true c3
    (refine gxq dk ?_)
    (refine Holds.drawnQ smp (by kernel_rfl) (gwq (cj4 hk' hm hmU d3) ?_))
    refine ⟨by omega, by omega, by omega, ⟨by omega, by omega⟩, ?_⟩
    refine Holds.loopM (ι := {q : Nat // q ≤ k ∧ ∀ i, i < q → own.getD i default ≠ own.getD k default}) [tt,ff,ff,tt,ff,ff,tt,ff,tt,ff,tt,tt,tt,tt,tt,tt,ff,ff,ff,ff,ff,ff,ff,ff,ff,ff,ff,ff,ff,ff,ff,ff,ff,ff,ff,ff,ff,ff,ff,ff,ff,ff,ff,ff,ff,ff,ff,ff,ff,ff,ff,ff,ff,ff,ff,ff,ff,ff,ff,ff,ff,ff,ff,ff,ff,ff,ff,ff,ff,ff,ff,ff,ff,ff,ff,ff,ff,ff,ff,ff,ff,ff,ff,ff,ff,ff,ff,ff,ff,ff,ff,ff,ff,ff,ff,ff,ff,ff,ff,ff,ff,ff,ff,ff,ff,ff,ff,ff,ff,ff,ff,ff,ff,ff,ff,ff,ff,ff,ff,ff,ff,ff,ff,ff,ff,ff,ff,ff,ff,ff,ff,ff,ff] (fun i => [(9, .int .i64 i.1)]) (fun i => [.row [.ref 1 0 0, .sl (F.flatMap flC) F.length, .sl (Lv.map (AV.int .i64)) Lv.length, .msl 2 0 0 U.length] 4 0, .row [.sl ((noN N).map AV.str) N, .msl 3 R.length 0 R.length] 2 0, .row (U.map (AV.int .i64)) 1 0, .row (R.flatMap wrR) 2 R.length, .row [.str nm, .int .i64 h, .int .i64 ln] 3 0]) (fun i => k - i.1) ⟨0, Nat.zero_le _, fun i hi => absurd hi (Nat.not_lt_zero i)⟩ ?_ ?_
    · (rw [hL]; simp only [push_cast, Int.natCast_zero, ]; exact Into.sameA)
    rintro ⟨q, hq, hd⟩
    dsimp only
    by_cases hq' : q < k
    · have dq : decide ((q : Int) < (k : Int)) = true := decide_eq_true (by omega)
      have wq : IntKind.i64.wrap ((q : Int) + 1) = (q : Int) + 1 := wr_i64 _ (by constructor <;> omega)
      have hql : q < own.length := by omega
      by_cases c4 : own.getD q default = own.getD k default
      · have hx : ¬ tOk U 2 own := fun hc => (hc k hk').2.2.2 (by
          rw [← c4, getD_of hql]
          exact List.mem_take_iff_getElem.2 ⟨q, by omega, rfl⟩)
        obtain rfl := e2 hx
        rw [hno (by decide)] at hfin
        have d4 : decide (own.getD q default = own.getD k default) = true := decide_eq_true c4
        (refine gxq dq ?_)
        (refine Holds.drawnQ smp (by kernel_rfl) (gwq (cj3 hk' hql d4) ?_))
        refine ⟨by omega, by omega, by omega, by omega, ?_⟩
        exact Into.keep4A
      · have d4 : decide (own.getD q default = own.getD k default) = false := decide_eq_false c4
        (refine gxq dq ?_)
        (refine Holds.drawnQ smp (by kernel_rfl) (gwq (cj4 hk' hql d4 wq) ?_))
        refine ⟨by omega, by omega, by omega, by omega, ⟨q + 1, hq', fun i hi => ?_⟩, by simp only; omega, ?_⟩
        · rcases Nat.lt_succ_iff_lt_or_eq.1 hi with hi | rfl
          · exact hd i hi
          · exact c4
        · exact Into.sameA
    · obtain rfl : q = k := by omega
      have dq : decide ((q : Int) < (q : Int)) = false := decide_eq_false (by omega)
      (refine gxq (cj2 dq wk) ?_)
      refine ⟨⟨q + 1, hk', fun i hi => ?_⟩, by simp only; omega, ?_⟩
      · rcases Nat.lt_succ_iff_lt_or_eq.1 hi with hi | rfl
        · exact hp i hi
        · refine ⟨by omega, by omega, by rw [hm, Int.toNat_natCast]; exact c3, fun hx => ?_⟩
          obtain ⟨j, hj, e⟩ := List.mem_take_iff_getElem.1 hx
          exact hd j (by omega) (by rw [getD_of (by omega)]; exact e)
      · exact Into.sameA
  · obtain rfl : k = own.length := by omega
    have hx : tOk U 2 own := hp
    have dk : decide ((own.length : Int) < (own.length : Int)) = false := decide_eq_false (by omega)
    have hown1 := e3 hx
    have e4' := e4 hx
    have e5' := e5 hx
    clear e2 e3 e4 e5 hp hk hk'
    by_cases d : fiB F nm = true
    · have hd := of_decide_eq_true d
      rw [d] at r120
      have wF1 : IntKind.i64.wrap ((F.length : Int) + 1) = (F.length : Int) + 1 := wr_i64 _ (by constructor <;> omega)
      have wF2 : IntKind.i64.wrap ((F.length : Int) + 1 - 1) = (F.length : Int) := by rw [Int.add_sub_cancel]; exact wr_i64 _ (by constructor <;> omega)
      have p121 := ps121 F Lv U N R F.length
      have r121 := rs121 F Lv U N R F.length
      have g121 := hs121 F Lv U N R F.length
      have d200 : decide ((200 : Int) < (F.length : Int)) = false := decide_eq_false (by omega)
      have eL : inF F nm ⟨nm, h, ln, own⟩ = F.set (fiN F nm) ⟨nm, h, ln, own⟩ := by unfold inF; rw [if_pos d]
      have eG : inG F nm = (F.getD (fiN F nm) default).se := by unfold inG; rw [if_pos d]
      have hLl : (F.set (fiN F nm) ⟨nm, h, ln, own⟩).length = F.length := List.length_set
      rw [eL] at e4' e5' hyes
      rw [eG] at hyes
      have hly : lyOk (F.set (fiN F nm) ⟨nm, h, ln, own⟩) R U ↔ (R.length + lvN F.length + 1 ≤ 4096 ∧ lvN F.length ≤ U.count 0) := by unfold lyOk; rw [hLl]; exact And.comm
      rw [hly] at e4' e5'
      rw [hLl] at e4' e5'
      clear hly hown1
      unfold dirY at p121 r121 g121
      by_cases c5 : R.length + lvN F.length + 1 ≤ 4096 ∧ lvN F.length ≤ U.count 0
      case neg =>
        rw [decide_eq_false c5] at r121
        obtain rfl := e4' hF c5
        rw [hno (by decide)] at hfin
        (refine gxq (cj12 dk h120 p120 r120 g120 wF1 wF2 h121 p121 r121 g121 d200) ?_)
        refine ⟨⟨by decide, by omega⟩, ⟨by decide, hR, by omega, by omega⟩, ?_⟩
        exact Into.keep4A
      rw [decide_eq_true c5] at r121
      obtain rfl := e5' hF c5
      rw [hyes rfl] at hfin
      clear hyes hno e4' e5'
      generalize hfi : fiN F nm = i at *
      obtain ⟨hi, hinm⟩ := hd
      have wI : IntKind.i64.wrap ((i : Int) + 1) = (i : Int) + 1 := wr_i64 _ (by constructor <;> omega)
      have gse := fun d => fl_se F i d hi
      have m1 : min (i * 4) (F.length * 4) = i * 4 := by omega
      have o1 : oneCells (List.take (i * 4) (List.flatMap flC F)) = true := by rw [take_fm]; exact one_fm _
      have o2 : oneCells (List.drop ((i + 1) * 4) (List.flatMap flC F)) = true := by rw [drop_fm]; exact one_fm _
      have tA : List.take (F.length * 4) (List.flatMap flC F) = List.flatMap flC F := fl_all F
      have hset : List.take (i * 4) (List.flatMap flC F) ++ [AV.str nm, AV.int .i64 h, AV.int .i64 ln, AV.sl (List.map (AV.int .i64) own) own.length] ++ List.drop ((i + 1) * 4) (List.flatMap flC F) = (F.set i ⟨nm, h, ln, own⟩).flatMap flC := by
        have := splice_row (g := flC) (n := 4) F i ⟨nm, h, ln, own⟩ hi
        rw [show i * 4 + 4 = (i + 1) * 4 by omega] at this
        exact this
      have hlen : i - 0 + 1 + (F.length - (i + 1)) = F.length := by omega
      (refine gnq 44 (cj20 dk h120 p120 r120 g120 wF1 wF2 h121 p121 r121 g121 d200 wI gse m1 o1 o2 tA hset hlen) ?_)
      refine ⟨⟨by decide, by omega⟩, ⟨by decide, hR, by omega, by omega⟩, ⟨by omega, by omega⟩, ⟨by omega, by omega⟩, ⟨by omega, by omega⟩, by omega, by omega, ⟨by omega, by omega, by omega⟩, ⟨by omega, by omega, by omega⟩, ?_⟩
      have tL : List.take (F.length * 4) (List.flatMap flC (F.set i ⟨nm, h, ln, own⟩)) = List.flatMap flC (F.set i ⟨nm, h, ln, own⟩) := by rw [← hLl]; exact fl_all _
      have hfl : ∀ f ∈ F.set i ⟨nm, h, ln, own⟩, flOk f := fun f hf => by
        rcases List.mem_or_eq_of_mem_set hf with hf | rfl
        · exact (hok f hf).1
        · exact ⟨isNm_len c1, hdOk_rng hN c2⟩
      have hgl : (F.getD i default).se.length ≤ 251 := (hok _ (by rw [getD_of hi]; exact List.getElem_mem hi)).2
      have p122 := ps122 (F.set i ⟨nm, h, ln, own⟩) F Lv U N R
      have r122 := rs122 (F.set i ⟨nm, h, ln, own⟩) F Lv U N R
      have g122 := hs122 (F.set i ⟨nm, h, ln, own⟩) F Lv U N R
      have lU := ryU_len (F.set i ⟨nm, h, ln, own⟩) Lv N R U hR (by rw [hLl]; exact c5.2)
      rw [hLl] at p122 r122 g122
      generalize F.set i ⟨nm, h, ln, own⟩ = L at *
      generalize (F.getD i default).se = gone at *
      generalize (ryE L N R U).now = now at *
      generalize ryU L Lv N R U = U1 at *
      generalize ryR L N R U = R1 at *
      have p1 := ps99_1 L now U1 N R1 own 2 1
      have r1 := rs99_1 L now U1 N R1 own 2 1
      have g1 := hs99_1 L now U1 N R1 own 2 1
      have lU2 := uGo_len 2 1 own U1
      generalize (uGo 2 1 own U1).1 = U2 at *
      have p2 := ps99_1 L now U2 N R1 gone 1 0
      have r2 := rs99_1 L now U2 N R1 gone 1 0
      have g2 := hs99_1 L now U2 N R1 gone 1 0
      have lU3 := uGo_len 1 0 gone U2
      generalize (uGo 1 0 gone U2).1 = U3 at *
      unfold dirY at p122 g122 p1 r1 g1 p2 r2 g2
      rw [hLl] at p1 r1 g1 p2 r2 g2 hfin
      rw [lU3, lU2] at g2 hfin
      rw [lU2] at g1 p2 r2
      rw [lU] at g122 p1 r1 g1 p2 r2 g2 hfin
      rw [hLl] at g122
      (refine Holds.frz 5 (by rw [hL]; simp) smf (gsq ?_))
      (refine gxq (cj12 h122 p122 r122 g122 h99 p1 r1 g1 p2 r2 g2 tL) ?_)
      refine ⟨⟨by decide, ⟨hF, hfl⟩, c5.2, hLv, by omega, hR, by omega⟩, ⟨by decide, by omega, by omega⟩, ⟨by decide, by omega, by omega⟩, ?_⟩
      exact Into.keep4A
    · have d' : fiB F nm = false := by simpa using d
      rw [d'] at r120
      have hi := fiN_le F nm
      have wF1 : IntKind.i64.wrap ((F.length : Int) + 1) = (F.length : Int) + 1 := wr_i64 _ (by constructor <;> omega)
      have p121 := ps121 F Lv U N R (F.length + 1)
      have r121 := rs121 F Lv U N R (F.length + 1)
      have g121 := hs121 F Lv U N R (F.length + 1)
      have eL : inF F nm ⟨nm, h, ln, own⟩ = insF F (fiN F nm) ⟨nm, h, ln, own⟩ := by unfold inF; rw [if_neg d]
      have eG : inG F nm = [] := by unfold inG; rw [if_neg d]
      have hLl : (insF F (fiN F nm) ⟨nm, h, ln, own⟩).length = F.length + 1 := insF_len F _ _ hi
      rw [eL] at e4' e5' hyes hown1
      rw [eG] at hyes
      have hly : lyOk (insF F (fiN F nm) ⟨nm, h, ln, own⟩) R U ↔ (R.length + lvN (F.length + 1) + 1 ≤ 4096 ∧ lvN (F.length + 1) ≤ U.count 0) := by unfold lyOk; rw [hLl]; exact And.comm
      rw [hly] at e4' e5'
      rw [hLl] at e4' e5'
      rw [hLl] at hown1
      clear hly
      unfold dirY at p121 r121 g121
      rw [show ((F.length + 1 : Nat) : Int) = (F.length : Int) + 1 by omega] at p121 r121 g121
      by_cases c200 : F.length + 1 ≤ 200
      case neg =>
        have d200 : decide ((200 : Int) < (F.length : Int) + 1) = true := decide_eq_true (by omega)
        obtain rfl := hown1 c200
        rw [hno (by decide)] at hfin
        (refine gxq (cj11 dk h120 p120 r120 g120 wF1 h121 p121 r121 g121 d200) ?_)
        refine ⟨⟨by decide, by omega⟩, ⟨by decide, hR, by omega, by omega⟩, ?_⟩
        exact Into.keep4A
      have d200 : decide ((200 : Int) < (F.length : Int) + 1) = false := decide_eq_false (by omega)
      by_cases c5 : R.length + lvN (F.length + 1) + 1 ≤ 4096 ∧ lvN (F.length + 1) ≤ U.count 0
      case neg =>
        rw [decide_eq_false c5] at r121
        obtain rfl := e4' c200 c5
        rw [hno (by decide)] at hfin
        (refine gxq (cj11 dk h120 p120 r120 g120 wF1 h121 p121 r121 g121 d200) ?_)
        refine ⟨⟨by decide, by omega⟩, ⟨by decide, hR, by omega, by omega⟩, ?_⟩
        exact Into.keep4A
      rw [decide_eq_true c5] at r121
      obtain rfl := e5' c200 c5
      rw [hyes rfl] at hfin
      clear hyes hno e4' e5'
      generalize hfi : fiN F nm = i at *
      have m1 : min (i * 4) (F.length * 4) = i * 4 := by omega
      have o1 : oneCells (List.take (i * 4) (List.flatMap flC F)) = true := by rw [take_fm]; exact one_fm _
      have o2 : oneCells (List.drop (i * 4) (List.flatMap flC F)) = true := by rw [drop_fm]; exact one_fm _
      have tA : List.take (F.length * 4) (List.flatMap flC F) = List.flatMap flC F := fl_all F
      have hset : List.take (i * 4) (List.flatMap flC F) ++ [AV.str nm, AV.int .i64 h, AV.int .i64 ln, AV.sl (List.map (AV.int .i64) own) own.length] ++ List.drop (i * 4) (List.flatMap flC F) = (insF F i ⟨nm, h, ln, own⟩).flatMap flC := by
        exact (ins_fm F i ⟨nm, h, ln, own⟩).symm
      have hlen : i - 0 + 1 + (F.length - i) = F.length + 1 := by omega
      (refine gnq 42 (cj17 dk h120 p120 r120 g120 wF1 h121 p121 r121 g121 d200 m1 o1 o2 tA hset hlen) ?_)
      refine ⟨⟨by decide, by omega⟩, ⟨by decide, hR, by omega, by omega⟩, ⟨by omega, by omega⟩, ⟨by omega, by omega⟩, ⟨by omega, by omega⟩, ⟨by omega, by omega⟩, ⟨by omega, by omega, by omega⟩, ?_⟩
      have tL : List.take ((F.length + 1) * 4) (List.flatMap flC (insF F i ⟨nm, h, ln, own⟩)) = List.flatMap flC (insF F i ⟨nm, h, ln, own⟩) := by rw [← hLl]; exact fl_all _
      have hfl : ∀ f ∈ insF F i ⟨nm, h, ln, own⟩, flOk f := fun f hf => by
        have : f ∈ inF F nm ⟨nm, h, ln, own⟩ := by rw [eL]; exact hf
        rcases inF_mem this with rfl | hf
        · exact ⟨isNm_len c1, hdOk_rng hN c2⟩
        · exact (hok f hf).1
      have e0 : ∀ V : List Int, (uGo 1 0 [] V).1 = V := fun _ => rfl
      rw [e0] at hfin
      have p122 := ps122 (insF F i ⟨nm, h, ln, own⟩) F Lv U N R
      have r122 := rs122 (insF F i ⟨nm, h, ln, own⟩) F Lv U N R
      have g122 := hs122 (insF F i ⟨nm, h, ln, own⟩) F Lv U N R
      have lU := ryU_len (insF F i ⟨nm, h, ln, own⟩) Lv N R U hR (by rw [hLl]; exact c5.2)
      rw [hLl] at p122 r122 g122
      generalize insF F i ⟨nm, h, ln, own⟩ = L at *
      generalize (ryE L N R U).now = now at *
      generalize ryU L Lv N R U = U1 at *
      generalize ryR L N R U = R1 at *
      have p1 := ps99_1 L now U1 N R1 own 2 1
      have r1 := rs99_1 L now U1 N R1 own 2 1
      have g1 := hs99_1 L now U1 N R1 own 2 1
      have lU2 := uGo_len 2 1 own U1
      generalize (uGo 2 1 own U1).1 = U2 at *
      have p2 := ps99_2 L now U2 N R1 1 0
      have r2 := rs99_2 L now U2 N R1 1 0
      have g2 := hs99_2 L now U2 N R1 1 0
      unfold dirY at p122 g122 p1 r1 g1 p2 r2 g2
      rw [hLl] at p1 r1 g1 p2 r2 g2 hfin
      rw [lU2] at g1 p2 r2 g2 hfin
      rw [lU] at g122 p1 r1 g1 p2 r2 g2 hfin
      rw [hLl] at g122
      (refine Holds.frz 5 (by rw [hL]; simp) smf (gsq ?_))
      (refine gxq (cj12 h122 p122 r122 g122 h99 p1 r1 g1 p2 r2 g2 tL) ?_)
      refine ⟨⟨by decide, ⟨by omega, hfl⟩, c5.2, hLv, by omega, hR, by omega⟩, ⟨by decide, by omega, by omega⟩, by decide, ?_⟩
      exact Into.keep4A
theorem con68 {Γ : Env} (h : EnvOk Tryz.prog Γ) (h109 : Γ 109 = some S109) (h98 : Γ 98 = some S98) (h120 : Γ 120 = some S120) (h121 : Γ 121 = some S121) (h122 : Γ 122 = some S122) (h99 : Γ 99 = some S99) : Con Tryz.prog 68 S68 :=
  heapE_con h (fn := Tryz.f68) (by kernel_rfl) rfl (by kernel_rfl) inj68 fun ⟨F, Lv, U, N, R, nm, h, ln⟩ ⟨h1, h2, h3, h4, h5, h6, h7⟩ => body68 Γ h109 h98 h120 h121 h122 h99 F Lv U N R nm h ln h1 h2 h3 h4 h5 h6 h7
end Go.Proofs.YtbnnhffkbcekcaaGreatDoor.dirDone
