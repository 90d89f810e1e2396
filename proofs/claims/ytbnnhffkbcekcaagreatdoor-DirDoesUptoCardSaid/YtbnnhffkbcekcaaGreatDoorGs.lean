/- Of directories: the law of scripts: both do the same. Conditions stand in each. Of directories: what is called, in its order. -/
import Derived.Test.YtbnnhffkbcekcaaGreatDoorGr
import Derived.Test.YtbnnhffkbcekcaaGreatDoorFg
import Derived.Test.YtbnnhffkbcekcaaGreatDoorGq
set_option linter.unusedVariables false
set_option linter.unusedSimpArgs false
set_option maxRecDepth 100000
set_option maxHeartbeats 4000000
section
namespace Go.Proofs.YtbnnhffkbcekcaaGreatDoor.dirDone
open Go Go.Eng Go.Proofs Go.Lib
theorem Zd8 (n : Int) : 0 < madeN n ∧ madeN n ≤ 1024 := by unfold madeN; split <;> omega
theorem ZhS {N : Nat} (h : 0 < N) : inv N (st0 N) := opn_inv (Z3w _ _ _ _ (Nat.zero_le _)) (Z7l h (by decide))
theorem body11 (Γ : Env) (h25 : Γ 25 = some S25) (h26 : Γ 26 = some S26) (h27 : Γ 27 = some S27) (h28 : Γ 28 = some S28) (h38 : Γ 38 = some S38) (h39 : Γ 39 = some S39) (h40 : Γ 40 = some S40) (sec : Int) (fs : List Stp) (hf : fs.length ≤ 1048576) (hfs : ∀ s ∈ fs, s.nm.length ≤ 1048576 ∧ s.to.length ≤ 1048576 ∧ s.r.length ≤ 1048576) :
  Z09 Tryz.prog Γ Tryz.f11 [.int .i64 sec, .sl (fs.flatMap stC) fs.length] [] (.bool true) [] := by
 obtain ⟨hN0, hN⟩ := Zd8 sec
 have ⟨p26, r26, g26⟩ := ks26 sec
 have i0 := ZhS hN0
 generalize madeN sec = N at *
 generalize st0 N = s0 at *
 obtain ⟨F0, Lv0, U0, R0⟩ := s0
 unfold bH bK at g26
 dsimp only at g26
 refine stt 66 [.tmp 4] fun X hP hΓ hL hfin => ?_; refine gxq (cj5 h25 h26 p26 r26 g26) ?_
 refine Z02.loopM (ι := {p : Nat × St // p.1 ≤ fs.length ∧ inv N p.2}) [ff,tt,ff,ff,ff,tt,tt,ff,ff,ff,tt,ff,ff,ff,ff,ff,ff,ff,ff,ff,ff,ff,ff,ff,ff,ff,ff,ff,ff,ff,ff,ff,ff,ff,ff,ff,ff,ff,ff,ff,ff,ff,ff,ff,ff,ff,ff,ff,ff,ff,ff,ff,ff,ff,ff,ff,ff,ff,ff,ff,ff,ff,ff,ff,ff,ff] (fun i => [(7, .int .i64 i.1.1)]) (fun i => bH N i.1.2) (fun i => fs.length - i.1.1) ⟨(0, ⟨F0, Lv0, U0, R0⟩), Nat.zero_le _, i0⟩ ?_ ?_
 ·rw [hL]
  unfold bH bK
  simp only [push_cast, reduceCtorEq, Nat.reduceAdd, Nat.reduceMul, Nat.reduceSub, Nat.reduceBEq, Nat.reduceGT, Nat.reduceLT, Int.toNat_zero, Nat.reduceLeDiff, Int.reduceEq, Int.reduceLT, Int.reduceLE, Int.natCast_zero]
  exact Z07.sameA
 clear p26 r26 g26 i0
 rintro ⟨⟨k, ⟨F, Lv, U, R⟩⟩, hk, hi⟩
 replace hk : k ≤ fs.length := hk
 replace hi : inv N ⟨F, Lv, U, R⟩ := hi
 have hU : U.length = N := hi.2.2.2.2.1
 have hR : R.length ≤ 4096 := hi.2.2.2.2.2.1
 have hF2 : F.length ≤ 200 := hi.2.1
 unfold bH
 dsimp only
 unfold bK
 by_cases hk' : k < fs.length
 ·have dk : decide ((k : Int) < (fs.length : Int)) = true := decide_eq_true (by omega)
  have wk : IntKind.i64.wrap ((k : Int) + 1) = (k : Int) + 1 := Z08 _ (by constructor <;> omega)
  obtain ⟨f, hf⟩ : ∃ f, fs.getD k default = f := ⟨_, rfl⟩
  have hfm : f ∈ fs := by rw [← hf, Z0S hk']; exact List.getElem_mem hk'
  obtain ⟨hnm, hto, hr⟩ := hfs f hfm
  have t6 : List.take 6 (List.drop (k * 6) (fs.flatMap stC)) = [.int .i64 f.kd, .str f.nm, .str f.to, .int .i64 f.n, .int .i64 f.len, .str f.r] := by
   rw [Z16 (n := 6), List.drop_eq_getElem_cons hk', List.flatMap_cons, ← Z0S hk', hf]; rfl
  have m6 : min 6 (fs.length * 6 - k * 6) = 6 := by omega
  have ⟨p1, r1, g1⟩ := ks27 F Lv U N R f.kd f.nm f.to f.n f.len f.r
  have i2 := ZbH (t := f) hN0 hN hi
  unfold Zf1 at g1
  rw [show (⟨f.kd, f.nm, f.to, f.n, f.len, f.r⟩ : Stp) = f from rfl] at g1
  by_cases hI : Zkn N ⟨F, Lv, U, R⟩ f
  ·rw [if_pos hI] at g1
   generalize stepS N ⟨F, Lv, U, R⟩ f = s2 at *
   generalize rubL ⟨F, Lv, U, R⟩ f = rub at *
   obtain ⟨F2, Lv2, U2, R2⟩ := s2
   have hU2 : U2.length = N := i2.2.2.2.2.1
   have hR2 : R2.length ≤ 4096 := i2.2.2.2.2.2.1
   have hF3 : F2.length ≤ 200 := i2.2.1
   have ⟨p2, r2, g2⟩ := ks28 F2 Lv2 U2 N R2
   unfold bIH bI at g1
   dsimp only at g1
   generalize sOf N R = S at *
   generalize wOf N R = W at *
   unfold bK at p1 r1 g1 p2 r2 g2
   refine gxq (Z7N dk wk t6 m6 h27 p1 r1 g1 h28 p2 r2 g2) ?_
   refine ⟨by omega, by omega, ⟨by decide, hi, hN0, hN, hnm, hto, hr⟩, ⟨by decide, by omega, by omega, hR2⟩, ⟨(k + 1, ⟨F2, Lv2, U2, R2⟩), hk', i2⟩, by simp only; omega, ?_⟩
   dsimp only
   exact Z0o.base [0, 1, 2, 3, 4, 5, 6, 11, 8, 9, 10] ⟨sml, smr, (by decide), (by first | rfl | decide), sm, sm⟩ smd
  rw [if_neg hI] at g1
  by_cases hN' : Zkm N ⟨F, Lv, U, R⟩ f
  ·rw [if_pos hN'] at g1
   generalize stepS N ⟨F, Lv, U, R⟩ f = s2 at *
   obtain ⟨F2, Lv2, U2, R2⟩ := s2
   have hU2 : U2.length = N := i2.2.2.2.2.1
   have hR2 : R2.length ≤ 4096 := i2.2.2.2.2.2.1
   have hF3 : F2.length ≤ 200 := i2.2.1
   have ⟨p2, r2, g2⟩ := ks28 F2 Lv2 U2 N R2
   unfold bOH bO at g1
   dsimp only at g1
   generalize sOf N R = S at *
   generalize wOf N R = W at *
   unfold bK at p1 r1 g1 p2 r2 g2
   refine gxq (Z7N dk wk t6 m6 h27 p1 r1 g1 h28 p2 r2 g2) ?_
   refine ⟨by omega, by omega, ⟨by decide, hi, hN0, hN, hnm, hto, hr⟩, ⟨by decide, by omega, by omega, hR2⟩, ⟨(k + 1, ⟨F2, Lv2, U2, R2⟩), hk', i2⟩, by simp only; omega, ?_⟩
   dsimp only
   exact Z0o.base [0, 1, 11, 3, 12, 5, 6, 13, 14, 9, 15] ⟨sml, smr, (by decide), (by first | rfl | decide), sm, sm⟩ smd
  ·rw [if_neg hN'] at g1
   generalize stepS N ⟨F, Lv, U, R⟩ f = s2 at *
   obtain ⟨F2, Lv2, U2, R2⟩ := s2
   have hU2 : U2.length = N := i2.2.2.2.2.1
   have hR2 : R2.length ≤ 4096 := i2.2.2.2.2.2.1
   have hF3 : F2.length ≤ 200 := i2.2.1
   have ⟨p2, r2, g2⟩ := ks28 F2 Lv2 U2 N R2
   unfold bH at g1
   dsimp only at g1
   generalize sOf N R = S at *
   generalize wOf N R = W at *
   unfold bK at p1 r1 g1 p2 r2 g2
   refine gxq (Z7N dk wk t6 m6 h27 p1 r1 g1 h28 p2 r2 g2) ?_
   refine ⟨by omega, by omega, ⟨by decide, hi, hN0, hN, hnm, hto, hr⟩, ⟨by decide, by omega, by omega, hR2⟩, ⟨(k + 1, ⟨F2, Lv2, U2, R2⟩), hk', i2⟩, by simp only; omega, ?_⟩
   dsimp only
   exact Z07.keep11A
 ·obtain rfl : k = fs.length := by omega
  have dk : decide ((fs.length : Int) < (fs.length : Int)) = false := decide_eq_false (by omega)
  have hS := Z0y N R
  have ⟨p39, r39, g39⟩ := ks39 N R
  have ⟨p38, r38, g38⟩ := ks38 F Lv U (sOf N R) (wOf N R)
  have ⟨p40, r40, g40⟩ := ks40 (sOf N R) (wOf N R)
  generalize sOf N R = S at *
  generalize wOf N R = W at *
  have il := Z3l S
  generalize imgB S = I at *
  unfold Z0s at p38 r38 g38
  unfold Z0q at p40 r40 g40
  unfold Z0G at p39 r39 g39
  refine gxq (Zfs dk h39 p39 r39 g39 h38 p38 r38 g38 h40 p40 r40 g40) ?_
  refine ⟨⟨by decide, hR, by omega⟩, by omega, by decide, ⟨by decide, by omega⟩, by omega, ⟨by decide, by omega⟩, by omega, ?_⟩
  exact Z07.one rfl rfl
end Go.Proofs.YtbnnhffkbcekcaaGreatDoor.dirDone
end
section
namespace Go.Proofs.YtbnnhffkbcekcaaGreatDoor.dirDone
open Go Go.Eng Go.Proofs Go.RowKit
noncomputable def dq0 : Env := noE
theorem ZhD : Z06 Tryz.prog dq0 := Zkg _
noncomputable def dq1 : Env := Z0X dq0 116 S116
theorem ZhC : Z06 Tryz.prog dq1 := ZhD.add (con116 ZhD)
noncomputable def dq2 : Env := Z0X dq1 64 S64
theorem ZhB : Z06 Tryz.prog dq2 := ZhC.add (con64 ZhC rfl)
noncomputable def dq3 : Env := Z0X dq2 113 S113
theorem ZhA : Z06 Tryz.prog dq3 := ZhB.add (con113 ZhB rfl)
noncomputable def dq4 : Env := Z0X dq3 31 S31
theorem Zhz : Z06 Tryz.prog dq4 := ZhA.add (con31 ZhA)
noncomputable def dq5 : Env := Z0X dq4 115 S115
theorem Zhy : Z06 Tryz.prog dq5 := Zhz.add (con115 Zhz)
noncomputable def dq6 : Env := Z0X dq5 62 S62
theorem Zhx : Z06 Tryz.prog dq6 := Zhy.add (con62 Zhy rfl)
noncomputable def dq7 : Env := Z0X dq6 23 S23
theorem Zhw : Z06 Tryz.prog dq7 := Zhx.add (con23 Zhx)
noncomputable def dq8 : Env := Z0X dq7 61 S61
theorem Zhv : Z06 Tryz.prog dq8 := Zhw.add (con61 Zhw rfl)
noncomputable def dq9 : Env := Z0X dq8 90 S90
theorem Zhu : Z06 Tryz.prog dq9 := Zhv.add (con90 Zhv rfl)
noncomputable def dq10 : Env := Z0X dq9 49 S49
theorem Zf0 : Z06 Tryz.prog dq10 := Zhu.add (con49 Zhu)
noncomputable def dq11 : Env := Z0X dq10 91 S91
theorem ZeZ : Z06 Tryz.prog dq11 := Zf0.add (con91 Zf0)
noncomputable def dq12 : Env := Z0X dq11 92 S92
theorem ZeY : Z06 Tryz.prog dq12 := ZeZ.add (con92 ZeZ rfl)
noncomputable def dq13 : Env := Z0X dq12 37 S37
theorem ZeX : Z06 Tryz.prog dq13 := ZeY.add (con37 ZeY rfl rfl rfl)
noncomputable def dq14 : Env := Z0X dq13 141 S141
theorem ZeW : Z06 Tryz.prog dq14 := ZeX.add (con141 ZeX)
noncomputable def dq15 : Env := Z0X dq14 79 S79
theorem ZeV : Z06 Tryz.prog dq15 := ZeW.add (con79 ZeW)
noncomputable def dq16 : Env := Z0X dq15 126 S126
theorem ZeU : Z06 Tryz.prog dq16 := ZeV.add (con126 ZeV rfl)
noncomputable def dq17 : Env := Z0X dq16 78 S78
theorem ZeT : Z06 Tryz.prog dq17 := ZeU.add (con78 ZeU rfl)
noncomputable def dq18 : Env := Z0X dq17 80 S80
theorem ZeS : Z06 Tryz.prog dq18 := ZeT.add (con80 ZeT rfl rfl rfl)
noncomputable def dq19 : Env := Z0X dq18 56 S56
theorem ZeR : Z06 Tryz.prog dq19 := ZeS.add (con56 ZeS)
noncomputable def dq20 : Env := Z0X dq19 109 S109
theorem Zj3 : Z06 Tryz.prog dq20 := ZeR.add (con109 ZeR)
noncomputable def dq21 : Env := Z0X dq20 185 ixS
theorem ZeQ : Z06 Tryz.prog dq21 := Zj3.add (con185)
noncomputable def dq22 : Env := Z0X dq21 178 ixS
theorem ZeP : Z06 Tryz.prog dq22 := ZeQ.add (con178 ZeQ rfl)
noncomputable def dq23 : Env := Z0X dq22 173 S173
theorem ZeO : Z06 Tryz.prog dq23 := ZeP.add (con173 ZeP rfl)
noncomputable def dq24 : Env := Z0X dq23 164 S164
theorem ZeN : Z06 Tryz.prog dq24 := ZeO.add (con164 ZeO rfl)
noncomputable def dq25 : Env := Z0X dq24 156 S156
theorem ZeM : Z06 Tryz.prog dq25 := ZeN.add (con156 ZeN rfl)
noncomputable def dq26 : Env := Z0X dq25 165 S165
theorem ZeL : Z06 Tryz.prog dq26 := ZeM.add (con165 ZeM)
noncomputable def dq27 : Env := Z0X dq26 166 S166
theorem ZeK : Z06 Tryz.prog dq27 := ZeL.add (con166 ZeL)
noncomputable def dq28 : Env := Z0X dq27 157 S157
theorem ZeJ : Z06 Tryz.prog dq28 := ZeK.add (con157 ZeK rfl rfl)
noncomputable def dq29 : Env := Z0X dq28 139 S139
theorem ZeI : Z06 Tryz.prog dq29 := ZeJ.add (con139 ZeJ)
noncomputable def dq30 : Env := Z0X dq29 114 S114
theorem ZeH : Z06 Tryz.prog dq30 := ZeI.add (con114 ZeI rfl rfl rfl rfl rfl rfl rfl)
noncomputable def dq31 : Env := Z0X dq30 55 S55
theorem ZeG : Z06 Tryz.prog dq31 := ZeH.add (con55 ZeH rfl rfl rfl rfl rfl)
noncomputable def dq32 : Env := Z0X dq31 18 S18
theorem ZeF : Z06 Tryz.prog dq32 := ZeG.add (con18 ZeG rfl rfl)
noncomputable def dq33 : Env := Z0X dq32 19 S19
theorem ZeE : Z06 Tryz.prog dq33 := ZeF.add (con19 ZeF)
noncomputable def dq34 : Env := Z0X dq33 33 S33
theorem ZeD : Z06 Tryz.prog dq34 := ZeE.add (con33 ZeE rfl)
noncomputable def dq35 : Env := Z0X dq34 32 S32
theorem ZeC : Z06 Tryz.prog dq35 := ZeD.add (con32 ZeD rfl)
noncomputable def dq36 : Env := Z0X dq35 38 S38
theorem ZeB : Z06 Tryz.prog dq36 := ZeC.add (con38 ZeC)
noncomputable def dq37 : Env := Z0X dq36 29 S29
theorem Zj2 : Z06 Tryz.prog dq37 := ZeB.add (con29 ZeB)
noncomputable def dq38 : Env := Z0X dq37 154 Zbk
theorem ZeA : Z06 Tryz.prog dq38 := Zj2.add (con154)
noncomputable def dq39 : Env := Z0X dq38 134 Zbk
theorem Zez : Z06 Tryz.prog dq39 := ZeA.add (con134 ZeA rfl)
noncomputable def dq40 : Env := Z0X dq39 89 Zbk
theorem Zey : Z06 Tryz.prog dq40 := Zez.add (con89 Zez rfl)
noncomputable def dq41 : Env := Z0X dq40 125 S125
theorem Zex : Z06 Tryz.prog dq41 := Zey.add (con125 Zey rfl)
noncomputable def dq42 : Env := Z0X dq41 124 S124
theorem Zew : Z06 Tryz.prog dq42 := Zex.add (con124 Zex rfl)
noncomputable def dq43 : Env := Z0X dq42 77 S77
theorem Zev : Z06 Tryz.prog dq43 := Zew.add (con77 Zew rfl)
noncomputable def dq44 : Env := Z0X dq43 81 S81
theorem Zeu : Z06 Tryz.prog dq44 := Zev.add (con81 Zev)
noncomputable def dq45 : Env := Z0X dq44 82 S82
theorem Zet : Z06 Tryz.prog dq45 := Zeu.add (con82 Zeu rfl)
noncomputable def dq46 : Env := Z0X dq45 129 S129
theorem Zes : Z06 Tryz.prog dq46 := Zet.add (con129 Zet)
noncomputable def dq47 : Env := Z0X dq46 130 S130
theorem Zer : Z06 Tryz.prog dq47 := Zes.add (con130 Zes)
noncomputable def dq48 : Env := Z0X dq47 85 S85
theorem Zeq : Z06 Tryz.prog dq48 := Zer.add (con85 Zer rfl rfl rfl rfl rfl rfl rfl rfl)
noncomputable def dq49 : Env := Z0X dq48 83 S83
theorem Zep : Z06 Tryz.prog dq49 := Zeq.add (con83 Zeq)
noncomputable def dq50 : Env := Z0X dq49 84 S84
theorem Zeo : Z06 Tryz.prog dq50 := Zep.add (con84 Zep)
noncomputable def dq51 : Env := Z0X dq50 34 S34
theorem Zen : Z06 Tryz.prog dq51 := Zeo.add (con34 Zeo rfl rfl rfl rfl rfl rfl rfl rfl rfl)
noncomputable def dq52 : Env := Z0X dq51 95 S95
theorem Zem : Z06 Tryz.prog dq52 := Zen.add (con95 Zen)
noncomputable def dq53 : Env := Z0X dq52 135 S135
theorem Zel : Z06 Tryz.prog dq53 := Zem.add (con135 Zem)
noncomputable def dq54 : Env := Z0X dq53 94 S94
theorem Zek : Z06 Tryz.prog dq54 := Zel.add (con94 Zel rfl)
noncomputable def dq55 : Env := Z0X dq54 105 S105
theorem Zej : Z06 Tryz.prog dq55 := Zek.add (con105 Zek)
noncomputable def dq56 : Env := Z0X dq55 51 S51
theorem Zei : Z06 Tryz.prog dq56 := Zej.add (con51 Zej rfl)
noncomputable def dq57 : Env := Z0X dq56 106 S106
theorem Zeh : Z06 Tryz.prog dq57 := Zei.add (con106 Zei)
noncomputable def dq58 : Env := Z0X dq57 107 S107
theorem Zeg : Z06 Tryz.prog dq58 := Zeh.add (con107 Zeh)
noncomputable def dq59 : Env := Z0X dq58 110 S110
theorem Zef : Z06 Tryz.prog dq59 := Zeg.add (con110 Zeg)
noncomputable def dq60 : Env := Z0X dq59 111 S111
theorem Zee : Z06 Tryz.prog dq60 := Zef.add (con111 Zef)
noncomputable def dq61 : Env := Z0X dq60 108 S108
theorem Zed : Z06 Tryz.prog dq61 := Zee.add (con108 Zee)
noncomputable def dq62 : Env := Z0X dq61 136 S136
theorem Zec : Z06 Tryz.prog dq62 := Zed.add (con136 Zed)
noncomputable def dq63 : Env := Z0X dq62 96 S96
theorem Zeb : Z06 Tryz.prog dq63 := Zec.add (con96 Zec rfl)
noncomputable def dq64 : Env := Z0X dq63 99 S99
theorem Zea : Z06 Tryz.prog dq64 := Zeb.add (con99 Zeb)
noncomputable def dq65 : Env := Z0X dq64 76 S76
theorem Ze9 : Z06 Tryz.prog dq65 := Zea.add (con76 Zea)
noncomputable def dq66 : Env := Z0X dq65 71 S71
theorem Ze8 : Z06 Tryz.prog dq66 := Ze9.add (con71 Ze9)
noncomputable def dq67 : Env := Z0X dq66 72 S72
theorem Ze7 : Z06 Tryz.prog dq67 := Ze8.add (con72 Ze8)
noncomputable def dq68 : Env := Z0X dq67 120 S120
theorem Ze6 : Z06 Tryz.prog dq68 := Ze7.add (con120 Ze7)
noncomputable def dq69 : Env := Z0X dq68 98 S98
theorem Ze5 : Z06 Tryz.prog dq69 := Ze6.add (con98 Ze6 rfl rfl rfl rfl)
noncomputable def dq70 : Env := Z0X dq69 137 S137
theorem Ze4 : Z06 Tryz.prog dq70 := Ze5.add (con137 Ze5 rfl rfl)
noncomputable def dq71 : Env := Z0X dq70 97 S97
theorem Ze3 : Z06 Tryz.prog dq71 := Ze4.add (con97 Ze4 rfl rfl rfl rfl)
noncomputable def dq72 : Env := Z0X dq71 43 S43
theorem Ze2 : Z06 Tryz.prog dq72 := Ze3.add (con43 Ze3 rfl rfl rfl rfl rfl rfl)
noncomputable def dq73 : Env := Z0X dq72 103 S103
theorem Ze1 : Z06 Tryz.prog dq73 := Ze2.add (con103 Ze2)
noncomputable def dq74 : Env := Z0X dq73 52 S52
theorem Ze0 : Z06 Tryz.prog dq74 := Ze1.add (con52 Ze1 rfl rfl rfl rfl)
noncomputable def dq75 : Env := Z0X dq74 121 S121
theorem ZdZ : Z06 Tryz.prog dq75 := Ze0.add (con121 Ze0 rfl rfl rfl)
noncomputable def dq76 : Env := Z0X dq75 122 S122
theorem ZdY : Z06 Tryz.prog dq76 := ZdZ.add (con122 ZdZ rfl rfl rfl rfl rfl rfl)
noncomputable def dq77 : Env := Z0X dq76 68 S68
theorem ZdX : Z06 Tryz.prog dq77 := ZdY.add (con68 ZdY rfl rfl rfl rfl rfl rfl)
noncomputable def dq78 : Env := Z0X dq77 25 S25
theorem ZdW : Z06 Tryz.prog dq78 := ZdX.add (con25 ZdX rfl rfl rfl rfl)
noncomputable def dq79 : Env := Z0X dq78 26 S26
theorem ZdV : Z06 Tryz.prog dq79 := ZdW.add (con26 ZdW rfl rfl rfl rfl rfl rfl)
noncomputable def dq80 : Env := Z0X dq79 119 S119
theorem ZdU : Z06 Tryz.prog dq80 := ZdV.add (con119 ZdV rfl rfl)
noncomputable def dq81 : Env := Z0X dq80 118 S118
theorem ZdT : Z06 Tryz.prog dq81 := ZdU.add (con118 ZdU)
noncomputable def dq82 : Env := Z0X dq81 74 S74
theorem ZdS : Z06 Tryz.prog dq82 := ZdT.add (con74 ZdT rfl rfl rfl rfl)
noncomputable def dq83 : Env := Z0X dq82 75 S75
theorem ZdR : Z06 Tryz.prog dq83 := ZdS.add (con75 ZdS rfl rfl rfl rfl)
noncomputable def dq84 : Env := Z0X dq83 67 S67
theorem ZdQ : Z06 Tryz.prog dq84 := ZdR.add (con67 ZdR rfl rfl rfl rfl rfl rfl rfl rfl rfl)
noncomputable def dq85 : Env := Z0X dq84 28 S28
theorem ZdP : Z06 Tryz.prog dq85 := ZdQ.add (con28 ZdQ rfl rfl rfl rfl)
noncomputable def dq86 : Env := Z0X dq85 30 S30
theorem ZdO : Z06 Tryz.prog dq86 := ZdP.add (con30 ZdP rfl)
noncomputable def dq87 : Env := Z0X dq86 73 S73
theorem ZdN : Z06 Tryz.prog dq87 := ZdO.add (con73 ZdO rfl)
noncomputable def dq88 : Env := Z0X dq87 40 S40
theorem ZdM : Z06 Tryz.prog dq88 := ZdN.add (con40 ZdN)
noncomputable def dq89 : Env := Z0X dq88 93 S93
theorem ZdL : Z06 Tryz.prog dq89 := ZdM.add (con93 ZdM rfl)
noncomputable def dq90 : Env := Z0X dq89 39 S39
theorem ZdK : Z06 Tryz.prog dq90 := ZdL.add (con39 ZdL rfl)
noncomputable def dq91 : Env := Z0X dq90 123 S123
theorem ZdJ : Z06 Tryz.prog dq91 := ZdK.add (con123 ZdK)
noncomputable def dq92 : Env := Z0X dq91 69 S69
theorem ZdI : Z06 Tryz.prog dq92 := ZdJ.add (con69 ZdJ rfl rfl rfl rfl rfl)
noncomputable def dq93 : Env := Z0X dq92 70 S70
theorem ZdH : Z06 Tryz.prog dq93 := ZdI.add (con70 ZdI rfl rfl rfl rfl rfl)
noncomputable def dq94 : Env := Z0X dq93 131 S131
theorem ZdG : Z06 Tryz.prog dq94 := ZdH.add (con131 ZdH)
noncomputable def dq95 : Env := Z0X dq94 86 S86
theorem ZdF : Z06 Tryz.prog dq95 := ZdG.add (con86 ZdG rfl)
noncomputable def dq96 : Env := Z0X dq95 35 S35
theorem Zj1 : Z06 Tryz.prog dq96 := ZdF.add (con35 ZdF rfl rfl rfl)
noncomputable def dq97 : Env := Z0X dq96 87 Z6u
theorem ZdE : Z06 Tryz.prog dq97 := Zj1.add (con87)
noncomputable def dq98 : Env := Z0X dq97 36 S36
theorem ZdD : Z06 Tryz.prog dq98 := ZdE.add (con36 ZdE rfl rfl rfl rfl rfl)
noncomputable def dq99 : Env := Z0X dq98 27 S27
theorem Zj0 : Z06 Tryz.prog dq99 := ZdD.add (con27 ZdD rfl rfl rfl rfl rfl rfl rfl rfl rfl rfl rfl rfl rfl rfl rfl)
noncomputable abbrev dqE : Env := dq99
theorem ZkV : Z06 Tryz.prog dqE := Zj0
end Go.Proofs.YtbnnhffkbcekcaaGreatDoor.dirDone
end
