/- Of directories: the document's Insert. Conditions stand in each. Of directories: found, and the disks' images. Conditions stand in each. Of directories: the disks' images. Conditions stand in each. Of directories: files but one; an entry taken out. Conditions stand in each. -/
import Derived.Test.YtbnnhffkbcekcaaGreatDoorGl
import Derived.Test.YtbnnhffkbcekcaaGreatDoorFg
set_option linter.unusedVariables false
set_option linter.unusedSimpArgs false
set_option maxRecDepth 100000
set_option maxHeartbeats 4000000
section
namespace Go.Eng
open Go
theorem Z02.nilS {X : Cx} {k : List It} {fr : List AV} {L : Z01} (i sz : Nat) (hi : fr.getD i .any = .lit (.slice none 0 0)) (h : Z02 X k (fr.set i (.msl L.length 0 0 0)) (L ++ [.row [] sz 0])) : Z02 X k fr L :=
 Z02.weak (S := (fr.set i (.msl L.length 0 0 0), L ++ [.row [] sz 0])) (.nil i sz hi (.refl (fr.set i (.msl L.length 0 0 0), L ++ [.row [] sz 0]))) h
end Go.Eng
namespace Go.Proofs.YtbnnhffkbcekcaaGreatDoor.dirDone
open Go Go.Eng Go.Proofs Go.Lib
def Zbd (F : List Fl) (Lv U : List Int) (N : Nat) (R : List Wr) (nm : List UInt8) (h ln : Int) : List Int :=
 (uGo 1 0 (inG F nm) (uGo 2 1 (Z2E (sOf N R) h ln) (ryU (inL F (sOf N R) nm h ln) Lv N R U)).1).1
def Zhl (F : List Fl) (Lv U : List Int) (N : Nat) (R : List Wr) (nm : List UInt8) (h ln : Int) : Z01 :=
 if inR F U (sOf N R) R nm h ln = 0 then Z0u (inL F (sOf N R) nm h ln) (ryE (inL F (sOf N R) nm h ln) N R U).now (Zbd F Lv U N R nm h ln) N (ryR (inL F (sOf N R) nm h ln) N R U) else Z0u F Lv U N R
def k68 : List Fl × List Int × List Int × Nat × List Wr × List UInt8 × Int × Int → Ct := fun (F, Lv, U, N, R, nm, h, ln) => ⟨([.ref 0 0 0, .agg [.str nm, .int .i64 h, .int .i64 ln]], Z0u F Lv U N R), F.length ≤ 200 ∧ (∀ f ∈ F, Z1E f ∧ f.se.length ≤ 251) ∧ Lv.length ≤ 1000 ∧ U.length = N ∧ N ≤ 4096 ∧ R.length ≤ 4096 ∧ nm.length ≤ 1048576, .int .i64 (inR F U (sOf N R) R nm h ln), Zhl F Lv U N R nm h ln⟩
theorem inj68 : ∀ a b, (k68 a).a = (k68 b).a → a = b := by
 rintro ⟨F, Lv, U, N, R, nm, h, ln⟩ ⟨F', Lv', U', N', R', nm', h', ln'⟩ h
 simp only [k68, Z0g, Z0h, Z0k, Z0j, UInt8.toNat_inj, Z0a, Z0d, Z0p, Z0q, Z17, Z11, Z1x, Z0s, Z0w, Z0G, Z0B, Z0u, Z2f, Z3A, Z0x, List.cons.injEq] at h
 simp_all only
noncomputable def S68 : Z0n := Z0Q true k68
theorem ks68 (F : List Fl) (Lv U : List Int) (N : Nat) (R : List Wr) (nm : List UInt8) (h ln : Int) : KS k68 ([.ref 0 0 0, .agg [.str nm, .int .i64 h, .int .i64 ln]], Z0u F Lv U N R) (F.length ≤ 200 ∧ (∀ f ∈ F, Z1E f ∧ f.se.length ≤ 251) ∧ Lv.length ≤ 1000 ∧ U.length = N ∧ N ≤ 4096 ∧ R.length ≤ 4096 ∧ nm.length ≤ 1048576) (.int .i64 (inR F U (sOf N R) R nm h ln)) (Zhl F Lv U N R nm h ln) := kat inj68 (F, Lv, U, N, R, nm, h, ln)
attribute [push_cast] S68 ks68
theorem ZiC (F : List Fl) (i : Nat) (d : AV) (h : i < F.length) : (F.flatMap flC).getD (i * 4 + 3) d = .sl ((F.getD i default).se.map (AV.int .i64)) (F.getD i default).se.length := by rw [Z3o (n := 4) F i 3 d h (by decide)]; rfl
theorem Ziv {S : List Sec} {h ln : Int} (hk : Z8q S h ln) (i : Nat) (hi : i < (Z2E S h ln).length) : 0 ≤ (Z2E S h ln).getD i default ∧ (Z2E S h ln).getD i default < S.length := by
 unfold Z2E at hi ⊢
 rw [Z3n] at hi
 rcases i with _ | i
 ·exact hk.1.1
 ·have : (hdL (secB S h) h (hdN ln)).getD (i + 1) default = ((hdW (secB S h) i : Nat) : Int) := by
   unfold hdL
   rw [List.getD_cons_succ, List.getD_eq_getElem?_getD, List.getElem?_map, List.getElem?_range (by omega)]
   rfl
  rw [this]
  have := hk.2 i (by omega)
  omega
theorem Z5N (L : List Fl) (Lv : List Int) (N : Nat) (R : List Wr) (U : List Int) (hR : R.length ≤ 4096) (h : lvN L.length ≤ U.count 0) : (ryU L Lv N R U).length = U.length := by
 unfold ryU
 rw [Z1P, Z1P]
 exact (Z3G L N R U hR _ h).2.1
theorem body68 (Γ : Env) (h109 : Γ 109 = some S109) (h98 : Γ 98 = some S98) (h120 : Γ 120 = some S120) (h121 : Γ 121 = some S121) (h122 : Γ 122 = some S122) (h99 : Γ 99 = some S99) (F : List Fl) (Lv U : List Int) (N : Nat) (R : List Wr) (nm : List UInt8) (h ln : Int)
  (hF : F.length ≤ 200) (hok : ∀ f ∈ F, Z1E f ∧ f.se.length ≤ 251) (hLv : Lv.length ≤ 1000) (hU : U.length = N) (hN : N ≤ 4096) (hR : R.length ≤ 4096) (hn : nm.length ≤ 1048576) :
  Z09 Tryz.prog Γ Tryz.f68 [.ref 0 0 0, .agg [.str nm, .int .i64 h, .int .i64 ln]] (Z0u F Lv U N R) (.int .i64 (inR F U (sOf N R) R nm h ln)) (Zhl F Lv U N R nm h ln) := by
 have ⟨p98, r98, g98⟩ := ks98 N R h ln
 have ⟨p120, r120, g120⟩ := ks120 F Lv U N R nm
 have hS := Z0y N R
 unfold Zhl
 have hno : inR F U (sOf N R) R nm h ln ≠ 0 → (if inR F U (sOf N R) R nm h ln = 0 then Z0u (inL F (sOf N R) nm h ln) (ryE (inL F (sOf N R) nm h ln) N R U).now (Zbd F Lv U N R nm h ln) N (ryR (inL F (sOf N R) nm h ln) N R U) else Z0u F Lv U N R) = Z0u F Lv U N R := fun h' => if_neg h'
 have hyes : inR F U (sOf N R) R nm h ln = 0 → (if inR F U (sOf N R) R nm h ln = 0 then Z0u (inL F (sOf N R) nm h ln) (ryE (inL F (sOf N R) nm h ln) N R U).now (Zbd F Lv U N R nm h ln) N (ryR (inL F (sOf N R) nm h ln) N R U) else Z0u F Lv U N R) = _ := fun h' => if_pos h'
 generalize hH : (if inR F U (sOf N R) R nm h ln = 0 then Z0u (inL F (sOf N R) nm h ln) (ryE (inL F (sOf N R) nm h ln) N R U).now (Zbd F Lv U N R nm h ln) N (ryR (inL F (sOf N R) nm h ln) N R U) else Z0u F Lv U N R) = H at *
 clear hH
 have e1 : ¬ Z3z nm = true → inR F U (sOf N R) R nm h ln = 171 := fun c => by unfold inR; rw [if_neg c]
 have e2 : Z3z nm = true → ¬ inA U (sOf N R) h ln → inR F U (sOf N R) R nm h ln = 2 := fun c d => by unfold inR; rw [if_pos c, if_neg d]
 have e3 : Z3z nm = true → inA U (sOf N R) h ln → ¬ (inL F (sOf N R) nm h ln).length ≤ 200 → inR F U (sOf N R) R nm h ln = 173 := fun c d e => by unfold inR; rw [if_pos c, if_pos d, if_neg e]
 have e4 : Z3z nm = true → inA U (sOf N R) h ln → (inL F (sOf N R) nm h ln).length ≤ 200 → ¬ Z2h (inL F (sOf N R) nm h ln) R U → inR F U (sOf N R) R nm h ln = 174 := fun c d e f => by unfold inR; rw [if_pos c, if_pos d, if_pos e, if_neg f]
 have e5 : Z3z nm = true → inA U (sOf N R) h ln → (inL F (sOf N R) nm h ln).length ≤ 200 → Z2h (inL F (sOf N R) nm h ln) R U → inR F U (sOf N R) R nm h ln = 0 := fun c d e f => by unfold inR; rw [if_pos c, if_pos d, if_pos e, if_pos f]
 have p109 : nm.length ≤ 9223372036854775807 := by omega
 generalize inR F U (sOf N R) R nm h ln = code at *
 by_cases c1 : Z3z nm = true
 case neg =>
  have c1' : Z3z nm = false := by simpa using c1
  obtain rfl := e1 c1
  rw [hno (by decide)]
  unfold Z0u
  refine stt 133 [.tmp 4] fun X hP hΓ hL hfin => ?_; refine gxq (cj2 h109 c1') ?_
  refine ⟨p109, ?_⟩
  exact Z07.keep4A
 by_cases c2 : Z8q (sOf N R) h ln
 case neg =>
  obtain rfl := e2 c1 (fun d => c2 d.1)
  rw [hno (by decide)]
  have a98 : hdA (sOf N R) h ln = _ := if_neg c2
  unfold Z0u Z0G at *
  refine stt 133 [.tmp 4] fun X hP hΓ hL hfin => ?_; refine gxq (cj2 h109 c1) ?_
  refine ⟨p109, ?_⟩
  refine Z02.drawnQ smp (by kernel_rfl) (gwq (cj5 h98 p98 r98 g98 a98) ?_)
  refine ⟨⟨by decide, hR, by omega⟩, ?_⟩
  exact Z07.keep4A
 have a98 : hdA (sOf N R) h ln = .tup [.sl ((Z2E (sOf N R) h ln).map (AV.int .i64)) (Z2E (sOf N R) h ln).length, .bool true] := if_pos c2
 have hol := Z7k c2
 have hin := Ziv c2
 rw [hS] at hin
 have hA : inA U (sOf N R) h ln ↔ tOk U 2 (Z2E (sOf N R) h ln) := ⟨fun d => d.2, fun d => ⟨c2, d⟩⟩
 rw [hA] at e2 e3 e4 e5
 replace e2 := e2 c1
 replace e3 := e3 c1
 replace e4 := e4 c1
 replace e5 := e5 c1
 clear e1 hA
 unfold Zbd at *
 unfold inL at *
 generalize hown : Z2E (sOf N R) h ln = own at *
 unfold Z0u Z0G at *
 refine stt 133 [.tmp 4] fun X hP hΓ hL hfin => ?_; refine gxq (cj2 h109 c1) ?_
 refine ⟨p109, ?_⟩
 refine Z02.drawnQ smp (by kernel_rfl) (gwq (cj5 h98 p98 r98 g98 a98) ?_)
 refine ⟨⟨by decide, hR, by omega⟩, ?_⟩
 refine Z02.loopM (ι := {k : Nat // k ≤ own.length ∧ ∀ i, i < k → tAt U 2 own i}) [tt,ff,ff,tt,ff,ff,tt,ff,ff,ff,tt,tt,tt,tt,tt,tt,ff,ff,ff,ff,ff,ff,ff,ff,ff,ff,ff,ff,ff,ff,ff,ff,ff,ff,ff,ff,ff,ff,ff,ff,ff,ff,ff,ff,ff,ff,ff,ff,ff,ff,ff,ff,ff,ff,ff,ff,ff,ff,ff,ff,ff,ff,ff,ff,ff,ff,ff,ff,ff,ff,ff,ff,ff,ff,ff,ff,ff,ff,ff,ff,ff,ff,ff,ff,ff,ff,ff,ff,ff,ff,ff,ff,ff,ff,ff,ff,ff,ff,ff,ff,ff,ff,ff,ff,ff,ff,ff,ff,ff,ff,ff,ff,ff,ff,ff,ff,ff,ff,ff,ff,ff,ff,ff,ff,ff,ff,ff,ff,ff,ff,ff,ff,ff] (fun i => [(6, .sl (own.map (AV.int .i64)) own.length), (8, .int .i64 i.1)]) (fun i => [.row [.ref 1 0 0, .sl (F.flatMap flC) F.length, .sl (Lv.map (AV.int .i64)) Lv.length, .msl 2 0 0 U.length] 4 0, .row [.sl ((noN N).map AV.str) N, .msl 3 R.length 0 R.length] 2 0, .row (U.map (AV.int .i64)) 1 0, .row (R.flatMap wrR) 2 R.length, .row [.str nm, .int .i64 h, .int .i64 ln] 3 0]) (fun i => own.length - i.1) ⟨0, Nat.zero_le _, fun i hi => absurd hi (Nat.not_lt_zero i)⟩ ?_ ?_
 ·(rw [hL]; simp only [push_cast, Int.natCast_zero, ]; exact Z07.sameA)
 rintro ⟨k, hk, hp⟩
 dsimp only
 by_cases hk' : k < own.length
 ·have dk : decide ((k : Int) < (own.length : Int)) = true := decide_eq_true (by omega)
  have wk : IntKind.i64.wrap ((k : Int) + 1) = (k : Int) + 1 := Z08 _ (by constructor <;> omega)
  obtain ⟨hm0, hm1⟩ := hin k hk'
  obtain ⟨m, hm⟩ := Int.eq_ofNat_of_zero_le hm0
  have hmU : m < U.length := by omega
  by_cases c3 : U.getD m default = 2
  case neg =>
   have hx : ¬ tOk U 2 own := fun hc => c3 (by have := (hc k hk').2.2.1; rw [hm, Int.toNat_natCast] at this; exact this)
   obtain rfl := e2 hx
   rw [hno (by decide)] at hfin
   have d3 : decide (U.getD m default = 2) = false := decide_eq_false c3
   refine gxq dk ?_
   refine Z02.drawnQ smp (by kernel_rfl) (gwq (cj4 hk' hm hmU d3) ?_)
   refine ⟨by omega, by omega, by omega, ⟨by omega, by omega⟩, ?_⟩
   exact Z07.keep4A
  have d3 : decide (U.getD m default = 2) = true := decide_eq_true c3
  refine gxq dk ?_
  refine Z02.drawnQ smp (by kernel_rfl) (gwq (cj4 hk' hm hmU d3) ?_)
  refine ⟨by omega, by omega, by omega, ⟨by omega, by omega⟩, ?_⟩
  refine Z02.loopM (ι := {q : Nat // q ≤ k ∧ ∀ i, i < q → own.getD i default ≠ own.getD k default}) [tt,ff,ff,tt,ff,ff,tt,ff,tt,ff,tt,tt,tt,tt,tt,tt,ff,ff,ff,ff,ff,ff,ff,ff,ff,ff,ff,ff,ff,ff,ff,ff,ff,ff,ff,ff,ff,ff,ff,ff,ff,ff,ff,ff,ff,ff,ff,ff,ff,ff,ff,ff,ff,ff,ff,ff,ff,ff,ff,ff,ff,ff,ff,ff,ff,ff,ff,ff,ff,ff,ff,ff,ff,ff,ff,ff,ff,ff,ff,ff,ff,ff,ff,ff,ff,ff,ff,ff,ff,ff,ff,ff,ff,ff,ff,ff,ff,ff,ff,ff,ff,ff,ff,ff,ff,ff,ff,ff,ff,ff,ff,ff,ff,ff,ff,ff,ff,ff,ff,ff,ff,ff,ff,ff,ff,ff,ff,ff,ff,ff,ff,ff,ff] (fun i => [(9, .int .i64 i.1)]) (fun i => [.row [.ref 1 0 0, .sl (F.flatMap flC) F.length, .sl (Lv.map (AV.int .i64)) Lv.length, .msl 2 0 0 U.length] 4 0, .row [.sl ((noN N).map AV.str) N, .msl 3 R.length 0 R.length] 2 0, .row (U.map (AV.int .i64)) 1 0, .row (R.flatMap wrR) 2 R.length, .row [.str nm, .int .i64 h, .int .i64 ln] 3 0]) (fun i => k - i.1) ⟨0, Nat.zero_le _, fun i hi => absurd hi (Nat.not_lt_zero i)⟩ ?_ ?_
  ·(rw [hL]; simp only [push_cast, Int.natCast_zero, ]; exact Z07.sameA)
  rintro ⟨q, hq, hd⟩
  dsimp only
  by_cases hq' : q < k
  ·have dq : decide ((q : Int) < (k : Int)) = true := decide_eq_true (by omega)
   have wq : IntKind.i64.wrap ((q : Int) + 1) = (q : Int) + 1 := Z08 _ (by constructor <;> omega)
   have hql : q < own.length := by omega
   by_cases c4 : own.getD q default = own.getD k default
   ·have hx : ¬ tOk U 2 own := fun hc => (hc k hk').2.2.2 (by
     rw [← c4, Z0S hql]
     exact List.mem_take_iff_getElem.2 ⟨q, by omega, rfl⟩)
    obtain rfl := e2 hx
    rw [hno (by decide)] at hfin
    have d4 : decide (own.getD q default = own.getD k default) = true := decide_eq_true c4
    refine gxq dq ?_
    refine Z02.drawnQ smp (by kernel_rfl) (gwq (cj3 hk' hql d4) ?_)
    refine ⟨by omega, by omega, by omega, by omega, ?_⟩
    exact Z07.keep4A
   ·have d4 : decide (own.getD q default = own.getD k default) = false := decide_eq_false c4
    refine gxq dq ?_
    refine Z02.drawnQ smp (by kernel_rfl) (gwq (cj4 hk' hql d4 wq) ?_)
    refine ⟨by omega, by omega, by omega, by omega, ⟨q + 1, hq', fun i hi => ?_⟩, by simp only; omega, ?_⟩
    ·rcases Nat.lt_succ_iff_lt_or_eq.1 hi with hi | rfl
     ·exact hd i hi
     ·exact c4
    ·exact Z07.sameA
  ·obtain rfl : q = k := by omega
   have dq : decide ((q : Int) < (q : Int)) = false := decide_eq_false (by omega)
   refine gxq (cj2 dq wk) ?_
   refine ⟨⟨q + 1, hk', fun i hi => ?_⟩, by simp only; omega, ?_⟩
   ·rcases Nat.lt_succ_iff_lt_or_eq.1 hi with hi | rfl
    ·exact hp i hi
    ·refine ⟨by omega, by omega, by rw [hm, Int.toNat_natCast]; exact c3, fun hx => ?_⟩
     obtain ⟨j, hj, e⟩ := List.mem_take_iff_getElem.1 hx
     exact hd j (by omega) (by rw [Z0S (by omega)]; exact e)
   ·exact Z07.sameA
 ·obtain rfl : k = own.length := by omega
  have hx : tOk U 2 own := hp
  have dk : decide ((own.length : Int) < (own.length : Int)) = false := decide_eq_false (by omega)
  have hown1 := e3 hx
  have e4' := e4 hx
  have e5' := e5 hx
  clear e2 e3 e4 e5 hp hk hk'
  by_cases d : fiB F nm = true
  ·have hd := of_decide_eq_true d
   rw [d] at r120
   have wF1 : IntKind.i64.wrap ((F.length : Int) + 1) = (F.length : Int) + 1 := Z08 _ (by constructor <;> omega)
   have wF2 : IntKind.i64.wrap ((F.length : Int) + 1 - 1) = (F.length : Int) := by rw [Int.add_sub_cancel]; exact Z08 _ (by constructor <;> omega)
   have p121 := Z5W F Lv U N R F.length
   have r121 := Z5P F Lv U N R F.length
   have g121 := Z69 F Lv U N R F.length
   have d200 : decide ((200 : Int) < (F.length : Int)) = false := decide_eq_false (by omega)
   have eL : inF F nm ⟨nm, h, ln, own⟩ = F.set (fiN F nm) ⟨nm, h, ln, own⟩ := by unfold inF; rw [if_pos d]
   have eG : inG F nm = (F.getD (fiN F nm) default).se := by unfold inG; rw [if_pos d]
   have hLl : (F.set (fiN F nm) ⟨nm, h, ln, own⟩).length = F.length := List.length_set
   rw [eL] at e4' e5' hyes
   rw [eG] at hyes
   have hly : Z2h (F.set (fiN F nm) ⟨nm, h, ln, own⟩) R U ↔ (R.length + lvN F.length + 1 ≤ 4096 ∧ lvN F.length ≤ U.count 0) := by unfold Z2h; rw [hLl]; exact And.comm
   rw [hly] at e4' e5'
   rw [hLl] at e4' e5'
   clear hly hown1
   unfold Z0u at p121 r121 g121
   by_cases c5 : R.length + lvN F.length + 1 ≤ 4096 ∧ lvN F.length ≤ U.count 0
   case neg =>
    rw [decide_eq_false c5] at r121
    obtain rfl := e4' hF c5
    rw [hno (by decide)] at hfin
    refine gxq (Z7N dk h120 p120 r120 g120 wF1 wF2 h121 p121 r121 g121 d200) ?_
    refine ⟨⟨by decide, by omega⟩, ⟨by decide, hR, by omega, by omega⟩, ?_⟩
    exact Z07.keep4A
   rw [decide_eq_true c5] at r121
   obtain rfl := e5' hF c5
   rw [hyes rfl] at hfin
   clear hyes hno e4' e5'
   generalize hfi : fiN F nm = i at *
   obtain ⟨hi, hinm⟩ := hd
   have wI : IntKind.i64.wrap ((i : Int) + 1) = (i : Int) + 1 := Z08 _ (by constructor <;> omega)
   have gse := fun d => ZiC F i d hi
   have m1 : min (i * 4) (F.length * 4) = i * 4 := by omega
   have o1 : Z0c (List.take (i * 4) (List.flatMap flC F)) = true := by rw [Z1X]; exact Z2K _
   have o2 : Z0c (List.drop ((i + 1) * 4) (List.flatMap flC F)) = true := by rw [Z16]; exact Z2K _
   have tA : List.take (F.length * 4) (List.flatMap flC F) = List.flatMap flC F := Z2b F
   have hset : List.take (i * 4) (List.flatMap flC F) ++ [AV.str nm, AV.int .i64 h, AV.int .i64 ln, AV.sl (List.map (AV.int .i64) own) own.length] ++ List.drop ((i + 1) * 4) (List.flatMap flC F) = (F.set i ⟨nm, h, ln, own⟩).flatMap flC := by
    have := Z2X (g := flC) (n := 4) F i ⟨nm, h, ln, own⟩ hi
    rw [show i * 4 + 4 = (i + 1) * 4 by omega] at this
    exact this
   have hlen : i - 0 + 1 + (F.length - (i + 1)) = F.length := by omega
   refine gnq 44 (cj20 dk h120 p120 r120 g120 wF1 wF2 h121 p121 r121 g121 d200 wI gse m1 o1 o2 tA hset hlen) ?_
   refine ⟨⟨by decide, by omega⟩, ⟨by decide, hR, by omega, by omega⟩, ⟨by omega, by omega⟩, ⟨by omega, by omega⟩, ⟨by omega, by omega⟩, by omega, by omega, ⟨by omega, by omega, by omega⟩, ⟨by omega, by omega, by omega⟩, ?_⟩
   have tL : List.take (F.length * 4) (List.flatMap flC (F.set i ⟨nm, h, ln, own⟩)) = List.flatMap flC (F.set i ⟨nm, h, ln, own⟩) := by rw [← hLl]; exact Z2b _
   have hfl : ∀ f ∈ F.set i ⟨nm, h, ln, own⟩, Z1E f := fun f hf => by
    rcases List.mem_or_eq_of_mem_set hf with hf | rfl
    ·exact (hok f hf).1
    ·exact ⟨Z3k c1, Z7y hN c2⟩
   have hgl : (F.getD i default).se.length ≤ 251 := (hok _ (by rw [Z0S hi]; exact List.getElem_mem hi)).2
   have ⟨p122, r122, g122⟩ := ks122 (F.set i ⟨nm, h, ln, own⟩) F Lv U N R
   have lU := Z5N (F.set i ⟨nm, h, ln, own⟩) Lv N R U hR (by rw [hLl]; exact c5.2)
   rw [hLl] at p122 r122 g122
   generalize F.set i ⟨nm, h, ln, own⟩ = L at *
   generalize (F.getD i default).se = gone at *
   generalize (ryE L N R U).now = now at *
   generalize ryU L Lv N R U = U1 at *
   generalize ryR L N R U = R1 at *
   have p1 := Z5V L now U1 N R1 own 2 1
   have r1 := Z5O L now U1 N R1 own 2 1
   have g1 := Z68 L now U1 N R1 own 2 1
   have lU2 := Z1P 2 1 own U1
   generalize (uGo 2 1 own U1).1 = U2 at *
   have p2 := Z5V L now U2 N R1 gone 1 0
   have r2 := Z5O L now U2 N R1 gone 1 0
   have g2 := Z68 L now U2 N R1 gone 1 0
   have lU3 := Z1P 1 0 gone U2
   generalize (uGo 1 0 gone U2).1 = U3 at *
   unfold Z0u at p122 g122 p1 r1 g1 p2 r2 g2
   rw [hLl] at p1 r1 g1 p2 r2 g2 hfin
   rw [lU3, lU2] at g2 hfin
   rw [lU2] at g1 p2 r2
   rw [lU] at g122 p1 r1 g1 p2 r2 g2 hfin
   rw [hLl] at g122
   refine Z02.frz 5 (by rw [hL]; simp) smf (gsq ?_)
   refine gxq (Z7N h122 p122 r122 g122 h99 p1 r1 g1 p2 r2 g2 tL) ?_
   refine ⟨⟨by decide, ⟨hF, hfl⟩, c5.2, hLv, by omega, hR, by omega⟩, ⟨by decide, by omega, by omega⟩, ⟨by decide, by omega, by omega⟩, ?_⟩
   exact Z07.keep4A
  ·have d' : fiB F nm = false := by simpa using d
   rw [d'] at r120
   have hi := Z6e F nm
   have wF1 : IntKind.i64.wrap ((F.length : Int) + 1) = (F.length : Int) + 1 := Z08 _ (by constructor <;> omega)
   have p121 := Z5W F Lv U N R (F.length + 1)
   have r121 := Z5P F Lv U N R (F.length + 1)
   have g121 := Z69 F Lv U N R (F.length + 1)
   have eL : inF F nm ⟨nm, h, ln, own⟩ = insF F (fiN F nm) ⟨nm, h, ln, own⟩ := by unfold inF; rw [if_neg d]
   have eG : inG F nm = [] := by unfold inG; rw [if_neg d]
   have hLl : (insF F (fiN F nm) ⟨nm, h, ln, own⟩).length = F.length + 1 := Z7s F _ _ hi
   rw [eL] at e4' e5' hyes hown1
   rw [eG] at hyes
   have hly : Z2h (insF F (fiN F nm) ⟨nm, h, ln, own⟩) R U ↔ (R.length + lvN (F.length + 1) + 1 ≤ 4096 ∧ lvN (F.length + 1) ≤ U.count 0) := by unfold Z2h; rw [hLl]; exact And.comm
   rw [hly] at e4' e5'
   rw [hLl] at e4' e5'
   rw [hLl] at hown1
   clear hly
   unfold Z0u at p121 r121 g121
   rw [show ((F.length + 1 : Nat) : Int) = (F.length : Int) + 1 by omega] at p121 r121 g121
   by_cases c200 : F.length + 1 ≤ 200
   case neg =>
    have d200 : decide ((200 : Int) < (F.length : Int) + 1) = true := decide_eq_true (by omega)
    obtain rfl := hown1 c200
    rw [hno (by decide)] at hfin
    refine gxq (Zj9 dk h120 p120 r120 g120 wF1 h121 p121 r121 g121 d200) ?_
    refine ⟨⟨by decide, by omega⟩, ⟨by decide, hR, by omega, by omega⟩, ?_⟩
    exact Z07.keep4A
   have d200 : decide ((200 : Int) < (F.length : Int) + 1) = false := decide_eq_false (by omega)
   by_cases c5 : R.length + lvN (F.length + 1) + 1 ≤ 4096 ∧ lvN (F.length + 1) ≤ U.count 0
   case neg =>
    rw [decide_eq_false c5] at r121
    obtain rfl := e4' c200 c5
    rw [hno (by decide)] at hfin
    refine gxq (Zj9 dk h120 p120 r120 g120 wF1 h121 p121 r121 g121 d200) ?_
    refine ⟨⟨by decide, by omega⟩, ⟨by decide, hR, by omega, by omega⟩, ?_⟩
    exact Z07.keep4A
   rw [decide_eq_true c5] at r121
   obtain rfl := e5' c200 c5
   rw [hyes rfl] at hfin
   clear hyes hno e4' e5'
   generalize hfi : fiN F nm = i at *
   have m1 : min (i * 4) (F.length * 4) = i * 4 := by omega
   have o1 : Z0c (List.take (i * 4) (List.flatMap flC F)) = true := by rw [Z1X]; exact Z2K _
   have o2 : Z0c (List.drop (i * 4) (List.flatMap flC F)) = true := by rw [Z16]; exact Z2K _
   have tA : List.take (F.length * 4) (List.flatMap flC F) = List.flatMap flC F := Z2b F
   have hset : List.take (i * 4) (List.flatMap flC F) ++ [AV.str nm, AV.int .i64 h, AV.int .i64 ln, AV.sl (List.map (AV.int .i64) own) own.length] ++ List.drop (i * 4) (List.flatMap flC F) = (insF F i ⟨nm, h, ln, own⟩).flatMap flC := by
    exact (Z8m F i ⟨nm, h, ln, own⟩).symm
   have hlen : i - 0 + 1 + (F.length - i) = F.length + 1 := by omega
   refine gnq 42 (ZlD dk h120 p120 r120 g120 wF1 h121 p121 r121 g121 d200 m1 o1 o2 tA hset hlen) ?_
   refine ⟨⟨by decide, by omega⟩, ⟨by decide, hR, by omega, by omega⟩, ⟨by omega, by omega⟩, ⟨by omega, by omega⟩, ⟨by omega, by omega⟩, ⟨by omega, by omega⟩, ⟨by omega, by omega, by omega⟩, ?_⟩
   have tL : List.take ((F.length + 1) * 4) (List.flatMap flC (insF F i ⟨nm, h, ln, own⟩)) = List.flatMap flC (insF F i ⟨nm, h, ln, own⟩) := by rw [← hLl]; exact Z2b _
   have hfl : ∀ f ∈ insF F i ⟨nm, h, ln, own⟩, Z1E f := fun f hf => by
    have : f ∈ inF F nm ⟨nm, h, ln, own⟩ := by rw [eL]; exact hf
    rcases Zdk this with rfl | hf
    ·exact ⟨Z3k c1, Z7y hN c2⟩
    ·exact (hok f hf).1
   have e0 : ∀ V : List Int, (uGo 1 0 [] V).1 = V := fun _ => rfl
   rw [e0] at hfin
   have ⟨p122, r122, g122⟩ := ks122 (insF F i ⟨nm, h, ln, own⟩) F Lv U N R
   have lU := Z5N (insF F i ⟨nm, h, ln, own⟩) Lv N R U hR (by rw [hLl]; exact c5.2)
   rw [hLl] at p122 r122 g122
   generalize insF F i ⟨nm, h, ln, own⟩ = L at *
   generalize (ryE L N R U).now = now at *
   generalize ryU L Lv N R U = U1 at *
   generalize ryR L N R U = R1 at *
   have p1 := Z5V L now U1 N R1 own 2 1
   have r1 := Z5O L now U1 N R1 own 2 1
   have g1 := Z68 L now U1 N R1 own 2 1
   have lU2 := Z1P 2 1 own U1
   generalize (uGo 2 1 own U1).1 = U2 at *
   have p2 := Zhh L now U2 N R1 1 0
   have r2 := Zh9 L now U2 N R1 1 0
   have g2 := Zhm L now U2 N R1 1 0
   unfold Z0u at p122 g122 p1 r1 g1 p2 r2 g2
   rw [hLl] at p1 r1 g1 p2 r2 g2 hfin
   rw [lU2] at g1 p2 r2 g2 hfin
   rw [lU] at g122 p1 r1 g1 p2 r2 g2 hfin
   rw [hLl] at g122
   refine Z02.frz 5 (by rw [hL]; simp) smf (gsq ?_)
   refine gxq (Z7N h122 p122 r122 g122 h99 p1 r1 g1 p2 r2 g2 tL) ?_
   refine ⟨⟨by decide, ⟨by omega, hfl⟩, c5.2, hLv, by omega, hR, by omega⟩, ⟨by decide, by omega, by omega⟩, by decide, ?_⟩
   exact Z07.keep4A
theorem con68 {Γ : Env} (h : Z06 Tryz.prog Γ) (h109 : Γ 109 = some S109) (h98 : Γ 98 = some S98) (h120 : Γ 120 = some S120) (h121 : Γ 121 = some S121) (h122 : Γ 122 = some S122) (h99 : Γ 99 = some S99) : Con Tryz.prog 68 S68 :=
 Z1W h (fn := Tryz.f68) (by kernel_rfl) rfl (by kernel_rfl) inj68 fun ⟨F, Lv, U, N, R, nm, h, ln⟩ ⟨h1, h2, h3, h4, h5, h6, h7⟩ => body68 Γ h109 h98 h120 h121 h122 h99 F Lv U N R nm h ln h1 h2 h3 h4 h5 h6 h7
def fdE (F : List Fl) (nm : List UInt8) : AV := if fiB F nm = true then .agg [.str (F.getD (fiN F nm) default).nm, .int .i64 (F.getD (fiN F nm) default).hd, .int .i64 (F.getD (fiN F nm) default).ln] else .agg [.str [], .int .i64 0, .int .i64 0]
def fdC (F : List Fl) (nm : List UInt8) : Int := if fiB F nm = true then 0 else 172
def k30 : List Fl × List Int × List Int × List Sec × List Wr × List UInt8 → Ct := fun (F, Lv, U, S, W, nm) => ⟨([.ref 0 0 0, .str nm], Z0s F Lv U S W), F.length ≤ 4194304 ∧ srt F, .tup [fdE F nm, .int .i64 (fdC F nm)], Z0s F Lv U S W⟩
theorem inj30 : ∀ a b, (k30 a).a = (k30 b).a → a = b := by
 rintro ⟨F, Lv, U, S, W, nm⟩ ⟨F', Lv', U', S', W', nm'⟩ h
 simp only [k30, Z0g, Z0h, Z0k, Z0j, UInt8.toNat_inj, Z0a, Z0d, Z0p, Z0q, Z17, Z11, Z1x, Z0s, Z0w, Z0G, Z0B, Z0u, Z2f, Z3A, Z0x, List.cons.injEq] at h
 simp_all only
noncomputable def S30 : Z0n := Z0Q true k30
theorem ks30 (F : List Fl) (Lv U : List Int) (S : List Sec) (W : List Wr) (nm : List UInt8) : KS k30 ([.ref 0 0 0, .str nm], Z0s F Lv U S W) (F.length ≤ 4194304 ∧ srt F) (.tup [fdE F nm, .int .i64 (fdC F nm)]) (Z0s F Lv U S W) := kat inj30 (F, Lv, U, S, W, nm)
attribute [push_cast] S30 ks30
theorem Zhr {F : List Fl} {k : Nat} (hk : k < F.length) : List.take 3 (List.drop (k * 4) (List.flatMap flC F)) = [.str (F.getD k default).nm, .int .i64 (F.getD k default).hd, .int .i64 (F.getD k default).ln] := by
 rw [Z16 (n := 4), List.drop_eq_getElem_cons hk, List.flatMap_cons, ← Z0S hk]; rfl
theorem body30 (Γ : Env) (h77 : Γ 77 = some S77) (F : List Fl) (Lv U : List Int) (S : List Sec) (W : List Wr) (nm : List UInt8) (hF : F.length ≤ 4194304) (hs : srt F) :
  Z09 Tryz.prog Γ Tryz.f30 [.ref 0 0 0, .str nm] (Z0s F Lv U S W) (.tup [fdE F nm, .int .i64 (fdC F nm)]) (Z0s F Lv U S W) := by
 have ⟨p, r, g⟩ := ks77 F Lv U S W nm
 unfold Z0s at *
 unfold fdE fdC
 by_cases c : fiB F nm = true
 ·have hk := (of_decide_eq_true c).1
  have t3 := Zhr hk
  rw [if_pos c, if_pos c]
  rw [c] at r
  generalize fiN F nm = k at *
  have m3 : min 3 (F.length * 4 - k * 4) = 3 := by omega
  refine stt 28 [.cell 4 61, .tmp 5] fun X hP hΓ hL hfin => ?_; refine gxq (cj6 h77 p r g t3 m3) ?_
  refine ⟨⟨by decide, hF, hs⟩, by omega, by omega, ?_⟩
  exact Z07.keep6A
 ·have c' : fiB F nm = false := by simpa using c
  rw [if_neg c, if_neg c]
  rw [c'] at r
  refine stt 28 [.cell 4 61, .tmp 5] fun X hP hΓ hL hfin => ?_; refine gxq (cj4 h77 p r g) ?_
  refine ⟨⟨by decide, hF, hs⟩, ?_⟩
  exact Z07.keep6A
theorem con30 {Γ : Env} (h : Z06 Tryz.prog Γ) (h77 : Γ 77 = some S77) : Con Tryz.prog 30 S30 :=
 Z1W h (fn := Tryz.f30) (by kernel_rfl) rfl (by kernel_rfl) inj30 fun ⟨F, Lv, U, S, W, nm⟩ h => body30 Γ h77 F Lv U S W nm h.1 h.2
def k73 : List Fl × List Int × List Int × Nat × List Wr × List UInt8 → Ct := fun (F, Lv, U, N, R, nm) => ⟨([.ref 0 0 0, .str nm], Z0u F Lv U N R), F.length ≤ 4194304, .tup [fdE F nm, .int .i64 (fdC F nm)], Z0u F Lv U N R⟩
theorem inj73 : ∀ a b, (k73 a).a = (k73 b).a → a = b := by
 rintro ⟨F, Lv, U, N, R, nm⟩ ⟨F', Lv', U', N', R', nm'⟩ h
 simp only [k73, Z0g, Z0h, Z0k, Z0j, UInt8.toNat_inj, Z0a, Z0d, Z0p, Z0q, Z17, Z11, Z1x, Z0s, Z0w, Z0G, Z0B, Z0u, Z2f, Z3A, Z0x, List.cons.injEq] at h
 simp_all only
noncomputable def S73 : Z0n := Z0Q true k73
theorem ks73 (F : List Fl) (Lv U : List Int) (N : Nat) (R : List Wr) (nm : List UInt8) : KS k73 ([.ref 0 0 0, .str nm], Z0u F Lv U N R) (F.length ≤ 4194304) (.tup [fdE F nm, .int .i64 (fdC F nm)]) (Z0u F Lv U N R) := kat inj73 (F, Lv, U, N, R, nm)
attribute [push_cast] S73 ks73
theorem body73 (Γ : Env) (h120 : Γ 120 = some S120) (F : List Fl) (Lv U : List Int) (N : Nat) (R : List Wr) (nm : List UInt8) (hF : F.length ≤ 4194304) :
  Z09 Tryz.prog Γ Tryz.f73 [.ref 0 0 0, .str nm] (Z0u F Lv U N R) (.tup [fdE F nm, .int .i64 (fdC F nm)]) (Z0u F Lv U N R) := by
 have ⟨p, r, g⟩ := ks120 F Lv U N R nm
 unfold Z0u at *
 unfold fdE fdC
 by_cases c : fiB F nm = true
 ·have hk := (of_decide_eq_true c).1
  have t3 := Zhr hk
  rw [if_pos c, if_pos c]
  rw [c] at r
  generalize fiN F nm = k at *
  have m3 : min 3 (F.length * 4 - k * 4) = 3 := by omega
  refine stt 25 [.cell 4 61, .tmp 5] fun X hP hΓ hL hfin => ?_; refine gxq (cj6 h120 p r g t3 m3) ?_
  refine ⟨⟨by decide, hF⟩, by omega, by omega, ?_⟩
  exact Z07.keep4A
 ·have c' : fiB F nm = false := by simpa using c
  rw [if_neg c, if_neg c]
  rw [c'] at r
  refine stt 25 [.cell 4 61, .tmp 5] fun X hP hΓ hL hfin => ?_; refine gxq (cj4 h120 p r g) ?_
  refine ⟨⟨by decide, hF⟩, ?_⟩
  exact Z07.keep4A
theorem con73 {Γ : Env} (h : Z06 Tryz.prog Γ) (h120 : Γ 120 = some S120) : Con Tryz.prog 73 S73 :=
 Z1W h (fn := Tryz.f73) (by kernel_rfl) rfl (by kernel_rfl) inj73 fun ⟨F, Lv, U, N, R, nm⟩ h => body73 Γ h120 F Lv U N R nm h
def imgB (S : List Sec) : List UInt8 := S.flatMap (·.1)
theorem Z3l : ∀ S : List Sec, (imgB S).length = S.length * 1024
 | [] => rfl
 | s :: S => by
  unfold imgB
  rw [List.flatMap_cons, List.length_append, s.2]
  have := Z3l S
  unfold imgB at this
  rw [this, List.length_cons]; omega
theorem Z8n {S : List Sec} {k : Nat} (h : k < S.length) : imgB (S.take (k + 1)) = imgB (S.take k) ++ (S.getD k default).1 := by
 unfold imgB
 rw [List.take_succ_eq_append_getElem h, List.flatMap_append, List.flatMap_singleton, ← Z0S h]
def k40 : List Sec × List Wr → Ct := fun (S, W) => ⟨([.ref 0 0 0], Z0q S W), S.length ≤ 4096, .sl ((imgB S).map Z03) (S.length * 1024), Z0q S W⟩
theorem inj40 : ∀ a b, (k40 a).a = (k40 b).a → a = b := by
 rintro ⟨S, W⟩ ⟨S', W'⟩ h
 simp only [k40, Z0g, Z0h, Z0k, Z0j, UInt8.toNat_inj, Z0a, Z0d, Z0p, Z0q, Z17, Z11, Z1x, Z0s, Z0w, Z0G, Z0B, Z0u, Z2f, Z3A, Z0x, List.cons.injEq] at h
 simp_all only
noncomputable def S40 : Z0n := Z0Q true k40
theorem ks40 (S : List Sec) (W : List Wr) : KS k40 ([.ref 0 0 0], Z0q S W) (S.length ≤ 4096) (.sl ((imgB S).map Z03) (S.length * 1024)) (Z0q S W) := kat inj40 (S, W)
attribute [push_cast] S40 ks40
theorem body40 (Γ : Env) (S : List Sec) (W : List Wr) (hS : S.length ≤ 4096) : Z09 Tryz.prog Γ Tryz.f40 [.ref 0 0 0] (Z0q S W) (.sl ((imgB S).map Z03) (S.length * 1024)) (Z0q S W) := by
 unfold Z0q
 refine stt 22 [.tmp 2] fun X hP hΓ hL hfin => ?_; refine Z0D ?_
 refine Z02.loopM (ι := {k : Nat // k ≤ S.length}) [ff,ff,tt,ff,ff,ff,ff,ff,ff,ff,ff,tt,tt,ff,ff,ff,ff,ff,ff,ff,ff,ff] (fun i => [(3, .msl 3 i.1 0 (i.1 * 1024)), (13, .int .i64 i.1)]) (fun i => [.row [.msl 1 0 0 S.length, .msl 2 W.length 0 W.length] 2 0, .row (S.flatMap Z2B) 1024 0, .row (W.flatMap wrC) 1025 W.length, .row ((imgB (S.take i.1)).map Z03) 1 i.1]) (fun i => S.length - i.1) ⟨0, Nat.zero_le _⟩ ?_ ?_
 ·rw [hL, List.take_zero, show imgB [] = [] from rfl]
  refine Z0o.nil 3  1 rfl (gsq ?_)
  try simp only [push_cast, Int.natCast_zero, List.map_nil, Nat.zero_mul]
  exact Z07.sameA
 rintro ⟨k, hk⟩
 dsimp only
 by_cases hk' : k < S.length
 ·have dk : decide ((k : Int) < (S.length : Int)) = true := decide_eq_true (by omega)
  have wk : IntKind.i64.wrap ((k : Int) + 1) = (k : Int) + 1 := Z08 _ (by constructor <;> omega)
  have hm : (k + 1) * 1024 ≤ S.length * 1024 := Nat.mul_le_mul_right _ hk'
  ((first | with_reducible refine holds_of_ex X 9 _ _ _ ?_ | skip); simp (maxSteps := 1000000) only [push_cast, reduceCtorEq, Nat.reduceAdd, Nat.reduceMul, Nat.reduceSub, Nat.reduceBEq, Nat.reduceGT, Nat.reduceLT, Int.toNat_zero, Nat.reduceLeDiff, Int.reduceEq, Int.reduceLT, Int.reduceLE, hP, hΓ, hL, hfin, String.reduceEq, Int.toNat_one, Bool.not_not,  dk, za121, Zir, hk'])
  refine ⟨by omega, ⟨by omega, by omega⟩, ?_⟩
  refine Z02.frz 4 (by rw [hL]; simp) smf (gsq ?_)
  have hst : List.map Z03 (imgB (List.take k S)) ++ Z2B (S.getD k default) = List.map Z03 (imgB (List.take (k + 1) S)) := by rw [Z8n hk', List.map_append]; rfl
  have hil : (imgB (List.take k S)).length = k * 1024 := by rw [Z3l, List.length_take]; congr 1; omega
  have e1 : k * 1024 + 1024 = (k + 1) * 1024 := by omega
  refine gxq (cj3 wk hst e1) ?_
  refine ⟨⟨hil, by omega⟩, ⟨k + 1, hk'⟩, by simp only; omega, ?_⟩
  exact Z07.keep4A
 ·obtain rfl : k = S.length := by omega
  have dk : decide ((S.length : Int) < (S.length : Int)) = false := decide_eq_false (by omega)
  have tA : List.take (S.length * 1024) (List.map Z03 (imgB S)) = List.map Z03 (imgB S) := List.take_of_length_le (by rw [List.length_map, Z3l]; exact Nat.le_refl _)
  rw [List.take_length]
  refine gxq dk ?_
  refine Z0o.frz 3 smo smf (gsq ?_)
  try rw [tA]
  exact Z07.keep3A
theorem con40 {Γ : Env} (h : Z06 Tryz.prog Γ)  : Con Tryz.prog 40 S40 :=
 Z1W h (fn := Tryz.f40) (by kernel_rfl) rfl (by kernel_rfl) inj40 fun ⟨S, W⟩ h => body40 Γ S W h
theorem Zh2 (N : Nat) (R : List Wr) (k n : Nat) (hk : k < N) (hn : n ≤ R.length) : atK R k n = ((sOf N (R.take n)).getD k default).1 := Z9E N R k hk n hn
def k93 : Nat × List Wr × Nat → Ct := fun (N, R, n) => ⟨([.ref 0 0 0, .int .i64 n], Z0G N R), n ≤ R.length ∧ R.length ≤ 4096 ∧ N ≤ 4096, .tup [.str (imgB (sOf N (R.take n))), .int .i64 0], Z0G N R⟩
theorem inj93 : ∀ a b, (k93 a).a = (k93 b).a → a = b := by
 rintro ⟨N, R, n⟩ ⟨N', R', n'⟩ h
 simp only [k93, Z0g, Z0h, Z0k, Z0j, UInt8.toNat_inj, Z0a, Z0d, Z0p, Z0q, Z17, Z11, Z1x, Z0s, Z0w, Z0G, Z0B, Z0u, Z2f, Z3A, Z0x, List.cons.injEq] at h
 simp_all only
noncomputable def S93 : Z0n := Z0Q true k93
theorem ks93 (N : Nat) (R : List Wr) (n : Nat) : KS k93 ([.ref 0 0 0, .int .i64 n], Z0G N R) (n ≤ R.length ∧ R.length ≤ 4096 ∧ N ≤ 4096) (.tup [.str (imgB (sOf N (R.take n))), .int .i64 0]) (Z0G N R) := kat inj93 (N, R, n)
attribute [push_cast] S93 ks93
theorem body93 (Γ : Env) (h135 : Γ 135 = some S135) (N : Nat) (R : List Wr) (n : Nat) (hn : n ≤ R.length) (hR : R.length ≤ 4096) (hN : N ≤ 4096) : Z09 Tryz.prog Γ Tryz.f93 [.ref 0 0 0, .int .i64 n] (Z0G N R) (.tup [.str (imgB (sOf N (R.take n))), .int .i64 0]) (Z0G N R) := by
 have d1 : decide ((n : Int) < 0) = false := decide_eq_false (by omega)
 have d2 : decide ((R.length : Int) < (n : Int)) = false := decide_eq_false (by omega)
 have hS := Z0y N (R.take n)
 have hat : ∀ k : Nat, k < N → atK R k n = ((sOf N (R.take n)).getD k default).1 := fun k hk => Zh2 N R k n hk hn
 have p := fun k : Int => (ks135 N R k n).1
 have r := fun k : Int => (ks135 N R k n).2.1
 have g := fun k : Int => (ks135 N R k n).2.2
 generalize sOf N (R.take n) = S at *
 unfold Z0G at *
 refine stt 36 [.tmp 4, .tmp 5] fun X hP hΓ hL hfin => ?_; refine gxq (cj2 d1 d2) ?_
 refine Z02.loopM (ι := {k : Nat // k ≤ N}) [tt,tt,ff,ff,tt,tt,ff,ff,ff,ff,ff,ff,ff,ff,ff,ff,ff,ff,ff,ff,ff,ff,ff,ff,ff,ff,ff,ff,ff,ff,ff,ff,ff,ff,ff,ff] (fun i => [(6, .msl 2 i.1 0 (i.1 * 1024)), (7, .int .i64 i.1)]) (fun i => [.row [.sl ((noN N).map AV.str) N, .msl 1 R.length 0 R.length] 2 0, .row (R.flatMap wrR) 2 R.length, .row ((imgB (S.take i.1)).map Z03) 1 i.1]) (fun i => N - i.1) ⟨0, Nat.zero_le _⟩ ?_ ?_
 ·rw [hL, List.take_zero, show imgB [] = [] from rfl]
  refine Z0o.nil 6  1 rfl (gsq ?_)
  try simp only [push_cast, Int.natCast_zero, List.map_nil, Nat.zero_mul]
  exact Z07.sameA
 rintro ⟨k, hk⟩
 dsimp only
 by_cases hk' : k < N
 ·have dk : decide ((k : Int) < (N : Int)) = true := decide_eq_true (by omega)
  have wk : IntKind.i64.wrap ((k : Int) + 1) = (k : Int) + 1 := Z08 _ (by constructor <;> omega)
  have q := p k
  have s := r k
  have u := g k
  rw [hat k hk'] at s
  have hst : List.map Z03 (imgB (List.take k S)) ++ List.map Z03 (S.getD k default).1 = List.map Z03 (imgB (List.take (k + 1) S)) := by rw [Z8n (by omega), List.map_append]
  have hil : (imgB (List.take k S)).length = k * 1024 := by rw [Z3l, List.length_take]; congr 1; omega
  have hxl : (S.getD k default).1.length = 1024 := (S.getD k default).2
  have e1 : k * 1024 + (S.getD k default).1.length = (k + 1) * 1024 := by rw [hxl]; omega
  refine gxq (cj9 dk @Z1t h135 q s u wk hst e1) ?_
  refine ⟨⟨hn, hR, by omega⟩, ⟨hil, by omega⟩, ⟨k + 1, hk'⟩, by simp only; omega, ?_⟩
  exact Z07.sameA
 ·obtain rfl : k = N := by omega
  have dk : decide ((k : Int) < (k : Int)) = false := decide_eq_false (by omega)
  have tA : List.take (k * 1024) (List.map Z03 (imgB S)) = List.map Z03 (imgB S) := List.take_of_length_le (by rw [List.length_map, Z3l, hS]; exact Nat.le_refl _)
  rw [← hS, List.take_length, hS]
  refine gxq (cj2 dk @Z1t) ?_
  rw [tA]
  refine ⟨Z2N _, ?_⟩
  rw [Z3a]
  exact Z07.keep2A
theorem con93 {Γ : Env} (h : Z06 Tryz.prog Γ) (h135 : Γ 135 = some S135) : Con Tryz.prog 93 S93 :=
 Z1W h (fn := Tryz.f93) (by kernel_rfl) rfl (by kernel_rfl) inj93 fun ⟨N, R, n⟩ h => body93 Γ h135 N R n h.1 h.2.1 h.2.2
def k39 : Nat × List Wr → Ct := fun (N, R) => ⟨([.ref 0 0 0], Z0G N R), R.length ≤ 4096 ∧ N ≤ 4096, .sl ((imgB (sOf N R)).map Z03) (N * 1024), Z0G N R⟩
theorem inj39 : ∀ a b, (k39 a).a = (k39 b).a → a = b := by
 rintro ⟨N, R⟩ ⟨N', R'⟩ h
 simp only [k39, Z0g, Z0h, Z0k, Z0j, UInt8.toNat_inj, Z0a, Z0d, Z0p, Z0q, Z17, Z11, Z1x, Z0s, Z0w, Z0G, Z0B, Z0u, Z2f, Z3A, Z0x, List.cons.injEq] at h
 simp_all only
noncomputable def S39 : Z0n := Z0Q true k39
theorem ks39 (N : Nat) (R : List Wr) : KS k39 ([.ref 0 0 0], Z0G N R) (R.length ≤ 4096 ∧ N ≤ 4096) (.sl ((imgB (sOf N R)).map Z03) (N * 1024)) (Z0G N R) := kat inj39 (N, R)
attribute [push_cast] S39 ks39
theorem body39 (Γ : Env) (h93 : Γ 93 = some S93) (N : Nat) (R : List Wr) (hR : R.length ≤ 4096) (hN : N ≤ 4096) : Z09 Tryz.prog Γ Tryz.f39 [.ref 0 0 0] (Z0G N R) (.sl ((imgB (sOf N R)).map Z03) (N * 1024)) (Z0G N R) := by
 have ⟨p, r, g⟩ := ks93 N R R.length
 rw [List.take_length] at r
 have hil : (imgB (sOf N R)).length = N * 1024 := by rw [Z3l, Z0y]
 generalize imgB (sOf N R) = b at *
 unfold Z0G at *
 refine stt 17 [.tmp 2] fun X hP hΓ hL hfin => ?_; refine gxq (cj5 h93 p r g hil) ?_
 have tA : List.take (N * 1024) (List.map Z03 b) = List.map Z03 b := List.take_of_length_le (by rw [List.length_map, hil]; exact Nat.le_refl _)
 refine ⟨⟨Nat.le_refl _, hR, hN⟩, by omega, ?_⟩
 refine Z0o.frz 2 smo smf (gsq ?_)
 try rw [tA]
 exact Z07.keep2A
theorem con39 {Γ : Env} (h : Z06 Tryz.prog Γ) (h93 : Γ 93 = some S93) : Con Tryz.prog 39 S39 :=
 Z1W h (fn := Tryz.f39) (by kernel_rfl) rfl (by kernel_rfl) inj39 fun ⟨N, R⟩ h => body39 Γ h93 N R h.1 h.2
theorem Z7P {F : List Fl} {i : Nat} (h : i < F.length) : (wo F i).length = F.length - 1 := by unfold wo; rw [List.length_append, List.length_take, List.length_drop]; omega
theorem ZlK (F : List Fl) (i : Nat) : (wo F i).flatMap flC = List.take (i * 4) (F.flatMap flC) ++ List.drop ((i + 1) * 4) (F.flatMap flC) := by
 unfold wo; rw [List.flatMap_append, Z1X, Z16]
theorem Z6r {F : List Fl} {i : Nat} {f : Fl} (h : f ∈ wo F i) : f ∈ F := by
 unfold wo at h
 rcases List.mem_append.1 h with h | h
 ·exact List.mem_of_mem_take h
 ·exact List.mem_of_mem_drop h
def k123 : List Fl × List Int × List Int × Nat × List Wr × Nat → Ct := fun (F, Lv, U, N, R, i) => ⟨([.ref 0 0 0, .int .i64 i], Z0u F Lv U N R), i < F.length ∧ F.length ≤ 1000000, .sl ((wo F i).flatMap flC) (wo F i).length, Z0u F Lv U N R⟩
theorem inj123 : ∀ a b, (k123 a).a = (k123 b).a → a = b := by
 rintro ⟨F, Lv, U, N, R, i⟩ ⟨F', Lv', U', N', R', i'⟩ h
 simp only [k123, Z0g, Z0h, Z0k, Z0j, UInt8.toNat_inj, Z0a, Z0d, Z0p, Z0q, Z17, Z11, Z1x, Z0s, Z0w, Z0G, Z0B, Z0u, Z2f, Z3A, Z0x, List.cons.injEq] at h
 simp_all only
noncomputable def S123 : Z0n := Z0Q true k123
theorem ks123 (F : List Fl) (Lv U : List Int) (N : Nat) (R : List Wr) (i : Nat) : KS k123 ([.ref 0 0 0, .int .i64 i], Z0u F Lv U N R) (i < F.length ∧ F.length ≤ 1000000) (.sl ((wo F i).flatMap flC) (wo F i).length) (Z0u F Lv U N R) := kat inj123 (F, Lv, U, N, R, i)
attribute [push_cast] S123 ks123
theorem body123 (Γ : Env) (F : List Fl) (Lv U : List Int) (N : Nat) (R : List Wr) (i : Nat) (hi : i < F.length) (hF : F.length ≤ 1000000) :
  Z09 Tryz.prog Γ Tryz.f123 [.ref 0 0 0, .int .i64 i] (Z0u F Lv U N R) (.sl ((wo F i).flatMap flC) (wo F i).length) (Z0u F Lv U N R) := by
 have o1 : Z0c (List.take (i * 4) (List.flatMap flC F)) = true := by rw [Z1X]; exact Z2K _
 have o2 : Z0c (List.drop ((i + 1) * 4) (List.flatMap flC F)) = true := by rw [Z16]; exact Z2K _
 have tA : List.take (F.length * 4) (List.flatMap flC F) = List.flatMap flC F := Z2b F
 have wI : IntKind.i64.wrap ((i : Int) + 1) = (i : Int) + 1 := Z08 _ (by constructor <;> omega)
 have m1 : min (i * 4) (F.length * 4) = i * 4 := by omega
 have hw := Z7P hi
 have hf := (ZlK F i).symm
 have hlen : i - 0 + (F.length - (i + 1)) = F.length - 1 := by omega
 have tW : List.take ((F.length - 1) * 4) (List.flatMap flC (wo F i)) = List.flatMap flC (wo F i) := by rw [← hw]; exact Z2b _
 rw [hw]
 unfold Z0u
 refine stt 23 [.tmp 4] fun X hP hΓ hL hfin => ?_; refine gxq (cj7 o1 o2 tA wI m1 hf hlen) ?_
 refine ⟨⟨by omega, by omega⟩, ⟨by omega, by omega⟩, ⟨by omega, by omega, by omega⟩, ⟨by omega, by omega, by omega⟩, ?_⟩
 refine Z0o.frz 4 smo smf (gsq ?_)
 try rw [tW]
 exact Z07.keep4A
theorem con123 {Γ : Env} (h : Z06 Tryz.prog Γ)  : Con Tryz.prog 123 S123 :=
 Z1W h (fn := Tryz.f123) (by kernel_rfl) rfl (by kernel_rfl) inj123 fun ⟨F, Lv, U, N, R, i⟩ h => body123 Γ F Lv U N R i h.1 h.2
end Go.Proofs.YtbnnhffkbcekcaaGreatDoor.dirDone
end
