/- Of disks: the law's shown disk; what a directory that is none says. Conditions stand in each. -/
import Derived.Test.YtbnnhffkbcekcaaGreatDoorDG
namespace Go.Proofs.YtbnnhffkbcekcaaGreatDoor.dirDone
open Go Go.Eng Go.Proofs
set_option linter.unusedVariables false
set_option linter.unusedSimpArgs false
set_option maxRecDepth 100000
set_option maxHeartbeats 4000000
theorem fmtS_of {S : List Sec} {W : List Wr} (hS : 0 < S.length) (hW : W.length < 4096) : fmtS S W = S.set 0 (toSec (padP (leW markR))) := by
  have e : wrE S W 0 (padP (leW markR)) = 0 := by
    unfold wrE
    rw [if_neg (fun h => h ⟨by omega, by omega⟩), if_neg (fun h => h (padP_len (by decide))), if_neg (by omega)]
  unfold fmtS wrS
  rw [if_pos e]; rfl
theorem fmtS_len (S : List Sec) (W : List Wr) : (fmtS S W).length = S.length := by
  unfold fmtS wrS; split
  · rw [List.length_set]
  · rfl
theorem fmt_empty {S : List Sec} {W : List Wr} (hS : 0 < S.length) (hW : W.length < 4096) : empty0 (fmtS S W) := by
  have hb : rootB (fmtS S W) = padP (leW markR) := by
    rw [fmtS_of hS hW]
    unfold rootB
    rw [show (S.set 0 (toSec (padP (leW markR)))).getD 0 default = toSec (padP (leW markR)) by simp [List.getD, hS]]
    exact toSec_of (padP_len (by decide))
  unfold empty0
  rw [hb]
  decide +kernel
def e25 : Unit → List AV × Heap := fun _ => ([], [])
def p25 : Unit → Prop := fun _ => True
def r25 : Unit → AV := fun _ => .bool true
def g25 : Unit → Heap := fun _ => []
theorem inj25 : ∀ a b, e25 a = e25 b → a = b := fun _ _ _ => rfl
noncomputable def S25 : FSpec := heapE true e25 p25 r25 g25
theorem ps25  : pselK e25 p25 ([], []) = (True) := pselK_at inj25 p25 ()
theorem rs25  : rselK e25 r25 .any ([], []) = (.bool true) := rselK_at inj25 r25 .any ()
theorem hs25  : rselK e25 g25 [] ([], []) = ([]) := rselK_at inj25 g25 [] ()
attribute [push_cast] S25 ps25 rs25 hs25
theorem body25 (Γ : Env) (h49 : Γ 49 = some S49) (h37 : Γ 37 = some S37) (h18 : Γ 18 = some S18) (h19 : Γ 19 = some S19) : BodyOk Tryz.prog Γ Tryz.f25 [] [] (.bool true) [] := by
  have p1 := ps49 16
  have r1 := rs49 16
  have g1 := hs49 16
  rw [if_pos (by decide)] at r1 g1
  obtain ⟨W0, hW0⟩ : ∃ W0 : List Wr, W0 = [] := ⟨_, rfl⟩
  have hw0 : W0.length = 0 := by rw [hW0]; rfl
  rw [← hW0] at g1
  have hl : (newD 16).length = 16 := rfl
  have p2 := ps37_1 (newD 16) W0
  have r2 := rs37_1 (newD 16) W0
  have g2 := hs37_1 (newD 16) W0
  rw [if_pos (by omega)] at r2 g2
  have hl2 : (fmtS (newD 16) W0).length = 16 := by rw [fmtS_len, hl]
  have he : empty0 (fmtS (newD 16) W0) := fmt_empty (by decide) (by omega)
  have p3 := ps18_1 (fmtS (newD 16) W0) (fmtW (newD 16) W0)
  have r3 := rs18_1 (fmtS (newD 16) W0) (fmtW (newD 16) W0)
  have g3 := hs18_1 (fmtS (newD 16) W0) (fmtW (newD 16) W0)
  have p4 := ps19_1 (fmtS (newD 16) W0) (fmtW (newD 16) W0) (free0 (fmtS (newD 16) W0))
  have r4 := rs19_1 (fmtS (newD 16) W0) (fmtW (newD 16) W0) (free0 (fmtS (newD 16) W0))
  have g4 := hs19_1 (fmtS (newD 16) W0) (fmtW (newD 16) W0) (free0 (fmtS (newD 16) W0))
  have hc : ((free0 (fmtS (newD 16) W0)).count 0 : Nat) = 15 := by unfold free0; rw [hl2]; decide
  have hul : (free0 (fmtS (newD 16) W0)).length = 16 := by unfold free0; rw [List.length_set, List.length_replicate, hl2]
  rw [hc, show ((15 : Nat) : Int) = 15 from rfl] at r4
  unfold dir0 at *
  generalize free0 (fmtS (newD 16) W0) = U at *
  generalize fmtS (newD 16) W0 = S at *
  generalize fmtW (newD 16) W0 = W at *
  generalize newD 16 = S0 at *
  unfold d0H dskH at *
  (intro X hP hΓ hL hfin; refine ⟨_, rfl, ?_⟩; rw [show Tryz.f25.ntmps = 32 from rfl]; rw [show Tryz.f25.results.toList = [.tmp 0] from rfl] at hfin; apply holds_of_ex X 400; simp (maxSteps := 1000000) only [push_cast, reduceCtorEq, Nat.reduceAdd, Nat.reduceMul, Nat.reduceSub, Nat.reduceBEq, Nat.reduceGT, Nat.reduceLT, Int.toNat_zero, Nat.reduceLeDiff, Int.reduceEq, Int.reduceLT, Int.reduceLE, hP, hΓ, hL, hfin, String.reduceEq, Int.toNat_one, Bool.not_not, h49, h37, h18, h19, p1, r1, g1, p2, r2, g2, p3, r3, g3, p4, r4, g4])
  refine ⟨⟨by decide, by omega, by omega⟩, ⟨by decide, by omega, by omega, he⟩, ⟨by decide, by omega⟩, ?_⟩
  exact Into.one rfl rfl
theorem con25 {Γ : Env} (h : EnvOk Tryz.prog Γ) (h49 : Γ 49 = some S49) (h37 : Γ 37 = some S37) (h18 : Γ 18 = some S18) (h19 : Γ 19 = some S19) : Con Tryz.prog 25 S25 :=
  heapE_con h (fn := Tryz.f25) (by kernel_rfl) rfl (by kernel_rfl) inj25 fun _ _ => body25 Γ h49 h37 h18 h19
end Go.Proofs.YtbnnhffkbcekcaaGreatDoor.dirDone
