/- Parts of the walk through directories. Conditions stand in each. -/
import Derived.Test.YtbnnhffkbcekcaaGreatDoorGs
import Derived.Test.YtbnnhffkbcekcaaGreatDoorFg
import Derived.Test.YtbnnhffkbcekcaaGreatDoorGm
set_option linter.unusedVariables false
set_option linter.unusedSimpArgs false
set_option maxRecDepth 100000
set_option maxHeartbeats 4000000
section
namespace Go.Proofs.YtbnnhffkbcekcaaGreatDoor.dirDone
open Go Go.Eng Go.Proofs Go.Lib
theorem Z3V (n : Int) : 0 < madeN n ∧ madeN n ≤ 1024 := by unfold madeN; split <;> omega
theorem Z67 {N : Nat} (h : 0 < N) : inv N (st0 N) ∧ mk1 N (st0 N) ∧ dsk N (st0 N) := ⟨opn_inv (Z20 _ _ _ _ (Nat.zero_le _)) (Z2W h (by decide)), opn_mk h (Z20 _ _ _ _ (Nat.zero_le _)) (Z2W h (by decide)), ZiY h⟩
theorem Zbi : ∀ A B : List Int, A.length = B.length → (∀ k : Nat, k < A.length → A.getD k default = 0 → B.getD k default = 0) → A.count 0 ≤ B.count 0
 | [], [], _, _ => Nat.le_refl _
 | [], _ :: _, h, _ => by simp at h
 | _ :: _, [], h, _ => by simp at h
 | a :: A, b :: B, h, hk => by
  have ih := Zbi A B (by simpa using h) fun k hk' e => hk (k + 1) (by simpa using hk') e
  have h0 := hk 0 (by simp)
  simp only [List.getD_cons_zero] at h0
  rw [List.count_cons, List.count_cons]
  by_cases c : a = 0
  ·rw [h0 c, c]; simp; exact ih
  ·have : (if (a == 0) = true then 1 else 0) = 0 := by rw [if_neg (by simpa using c)]
   omega
theorem Zkh {F : List Fl} (hs : srt F) {k : Nat} (hk : k < F.length) : fiN F (F.getD k default).nm = k ∧ fiB F (F.getD k default).nm = true := by
 have e : fiN F (F.getD k default).nm = k := Z7q F _ k (Nat.le_of_lt hk) (fun q hq => Z4P hs hq hk) fun _ => Z7v _
 refine ⟨e, decide_eq_true ⟨?_, ?_⟩⟩
 ·rw [e]; exact hk
 ·rw [e]
def bA (F : List Fl) (Lv U U1 : List Int) (S : List Sec) (W : List Wr) (N : Nat) (R : List Wr) : Z02 := bK F Lv U S W N R ++ [.row (U1.map (AV.int .i64)) 1 0, .row [.ref 1 0 0, .sl (F.flatMap flC) F.length, .msl 13 Lv.length 0 Lv.length, .msl 11 0 0 U1.length] 4 0, .row (Lv.map (AV.int .i64)) 1 Lv.length, .row (F.flatMap etC) 3 F.length, .row (F.flatMap etC) 3 F.length]
theorem body8 (Γ : Env) (h25 : Γ 25 = some S25) (h26 : Γ 26 = some S26) (h27 : Γ 27 = some S27) (h18 : Γ 18 = some S18) (h29 : Γ 29 = some S29) (h19 : Γ 19 = some S19) (h30 : Γ 30 = some S30) (sec : Int) (fs : List Stp) (hf : fs.length ≤ 1048576) (hfs : ∀ s ∈ fs, s.nm.length ≤ 1048576 ∧ s.to.length ≤ 1048576 ∧ s.r.length ≤ 1048576) :
  Z08 Tryz.prog Γ Tryz.f8 [.int .i64 sec, .sl (fs.flatMap stC) fs.length] [] (.bool true) [] := by
 obtain ⟨hN0, hN⟩ := Z3V sec
 have ⟨p26, r26, g26⟩ := ks26 sec
 have i0 := Z67 hN0
 generalize madeN sec = N at *
 generalize st0 N = s0 at *
 obtain ⟨F0, Lv0, U0, R0⟩ := s0
 unfold bH bK at g26
 dsimp only at g26
 refine stt 129 [.tmp 4] fun X hP hΓ hL hfin => ?_; refine gxq (cj5 h25 h26 p26 r26 g26) ?_
 refine Z03.loopM (ι := {p : Nat × St // p.1 ≤ fs.length ∧ inv N p.2 ∧ mk1 N p.2 ∧ dsk N p.2}) [ff,tt,ff,ff,tt,tt,tt,ff,tt,tt,tt,tt,tt,tt,tt,ff,ff,ff,ff,ff,ff,ff,ff,ff,ff,ff,ff,ff,ff,ff,ff,ff,ff,ff,ff,ff,ff,ff,ff,ff,ff,ff,ff,ff,ff,ff,ff,ff,ff,ff,ff,ff,ff,ff,ff,ff,ff,ff,ff,ff,ff,ff,ff,ff,ff,ff,ff,ff,ff,ff,ff,ff,ff,ff,ff,ff,ff,ff,ff,ff,ff,ff,ff,ff,ff,ff,ff,ff,ff,ff,ff,ff,ff,ff,ff,ff,ff,ff,ff,ff,ff,ff,ff,ff,ff,ff,ff,ff,ff,ff,ff,ff,ff,ff,ff,ff,ff,ff,ff,ff,ff,ff,ff,ff,ff,ff,ff,ff,ff] (fun i => [(7, .int .i64 i.1.1)]) (fun i => bH N i.1.2) (fun i => fs.length - i.1.1) ⟨(0, ⟨F0, Lv0, U0, R0⟩), Nat.zero_le _, i0⟩ ?_ ?_
 ·rw [hL]
  unfold bH bK
  simp only [push_cast, reduceCtorEq, Nat.reduceAdd, Nat.reduceMul, Nat.reduceSub, Nat.reduceBEq, Nat.reduceGT, Nat.reduceLT, Int.toNat_zero, Nat.reduceLeDiff, Int.reduceEq, Int.reduceLT, Int.reduceLE, Int.natCast_zero]
  exact Z07.sameA
 clear p26 r26 g26 i0
 rintro ⟨⟨k, ⟨F, Lv, U, R⟩⟩, hk, hi, hm, hd⟩
 replace hk : k ≤ fs.length := hk
 replace hi : inv N ⟨F, Lv, U, R⟩ := hi
 replace hm : mk1 N ⟨F, Lv, U, R⟩ := hm
 replace hd : dsk N ⟨F, Lv, U, R⟩ := hd
 have hU : U.length = N := hi.2.2.2.2.1
 have hR : R.length ≤ 4096 := hi.2.2.2.2.2.1
 have hF2 : F.length ≤ 200 := hi.2.1
 unfold bH
 dsimp only
 unfold bK
 by_cases hk' : k < fs.length
 ·have dk : decide ((k : Int) < (fs.length : Int)) = true := decide_eq_true (by omega)
  have wk : IntKind.i64.wrap ((k : Int) + 1) = (k : Int) + 1 := wrq
  obtain ⟨f, hf⟩ : ∃ f, fs.getD k default = f := ⟨_, rfl⟩
  have hfm : f ∈ fs := by rw [← hf, Z0m hk']; exact List.getElem_mem hk'
  obtain ⟨hnm, hto, hr⟩ := hfs f hfm
  have t6 : List.take 6 (List.drop (k * 6) (fs.flatMap stC)) = [.int .i64 f.kd, .str f.nm, .str f.to, .int .i64 f.n, .int .i64 f.len, .str f.r] := by
   rw [Z10 (n := 6), List.drop_eq_getElem_cons hk', List.flatMap_cons, ← Z0m hk', hf]; rfl
  have m6 : min 6 (fs.length * 6 - k * 6) = 6 := by omega
  have gk : ∀ d, (fs.flatMap stC).getD (k * 6) d = .int .i64 f.kd := fun d => by rw [Z2v (n := 6) fs k d hk' (by decide), hf]; rfl
  by_cases k9 : f.kd = 9
  ·have d9 : decide (f.kd = 9) = true := decide_eq_true k9
   refine gxq (cj4 dk wk gk d9) ?_
   refine ⟨by omega, by omega, ⟨(k + 1, ⟨F, Lv, U, R⟩), hk', hi, hm, hd⟩, by simp only; omega, ?_⟩
   exact Z07.sameA
  have d9 : decide (f.kd = 9) = false := decide_eq_false k9
  have ⟨p1, r1, g1⟩ := ks27 F Lv U N R f.kd f.nm f.to f.n f.len f.r
  have i2 := Z66 (t := f) hN0 hN hi
  have m2 := Zau (t := f) hN0 hi hm
  have d2 := (Zbt (t := f) hN0 (by omega) k9 hi hm hd).1
  unfold Za8 at g1
  rw [show (⟨f.kd, f.nm, f.to, f.n, f.len, f.r⟩ : Stp) = f from rfl] at g1
  by_cases hI : Zmq N ⟨F, Lv, U, R⟩ f
  ·rw [if_pos hI] at g1
   generalize stepS N ⟨F, Lv, U, R⟩ f = s2 at *
   generalize rubL ⟨F, Lv, U, R⟩ f = rub at *
   obtain ⟨F2, Lv2, U2, R2⟩ := s2
   unfold bIH bI at g1
   dsimp only at g1
   generalize sOf N R = S at *
   generalize wOf N R = W at *
   unfold bK at p1 r1 g1
   refine gxq (Zc3 dk wk gk d9 t6 m6 h27 p1 r1 g1) ?_
   refine ⟨by omega, by omega, by omega, by omega, ⟨by decide, hi, hN0, hN, hnm, hto, hr⟩, ⟨(k + 1, ⟨F2, Lv2, U2, R2⟩), hk', i2, m2, d2⟩, by simp only; omega, ?_⟩
   dsimp only
   exact Z0o.base [0, 1, 2, 3, 4, 5, 6, 11, 8, 9, 10] ⟨sml, smr, (by decide), (by first | rfl | decide), sm, sm⟩ smd
  rw [if_neg hI] at g1
  by_cases hN' : Zmp N ⟨F, Lv, U, R⟩ f
  ·rw [if_pos hN'] at g1
   generalize stepS N ⟨F, Lv, U, R⟩ f = s2 at *
   obtain ⟨F2, Lv2, U2, R2⟩ := s2
   unfold bOH bO at g1
   dsimp only at g1
   generalize sOf N R = S at *
   generalize wOf N R = W at *
   unfold bK at p1 r1 g1
   refine gxq (Zc3 dk wk gk d9 t6 m6 h27 p1 r1 g1) ?_
   refine ⟨by omega, by omega, by omega, by omega, ⟨by decide, hi, hN0, hN, hnm, hto, hr⟩, ⟨(k + 1, ⟨F2, Lv2, U2, R2⟩), hk', i2, m2, d2⟩, by simp only; omega, ?_⟩
   dsimp only
   exact Z0o.base [0, 1, 11, 3, 12, 5, 6, 13, 14, 9, 15] ⟨sml, smr, (by decide), (by first | rfl | decide), sm, sm⟩ smd
  ·rw [if_neg hN'] at g1
   generalize stepS N ⟨F, Lv, U, R⟩ f = s2 at *
   obtain ⟨F2, Lv2, U2, R2⟩ := s2
   unfold bH at g1
   dsimp only at g1
   generalize sOf N R = S at *
   generalize wOf N R = W at *
   unfold bK at p1 r1 g1
   refine gxq (Zc3 dk wk gk d9 t6 m6 h27 p1 r1 g1) ?_
   refine ⟨by omega, by omega, by omega, by omega, ⟨by decide, hi, hN0, hN, hnm, hto, hr⟩, ⟨(k + 1, ⟨F2, Lv2, U2, R2⟩), hk', i2, m2, d2⟩, by simp only; omega, ?_⟩
   dsimp only
   exact Z07.keep11A
 ·obtain rfl : k = fs.length := by omega
  have dk : decide ((fs.length : Int) < (fs.length : Int)) = false := decide_eq_false (by omega)
  have hS := Z0r N R
  obtain ⟨U1, eo, l1, u1⟩ := ZkQ hN0 hi hm hS hd
  have hsr : srt F := hi.1
  have hfree : U.count 0 ≤ U1.count 0 := Zbi U U1 (by omega) fun q hq e => by
   rw [u1.1 q (by omega), if_neg]
   intro h
   have := (hm.2.1 q (by omega)).2 h
   dsimp only at this
   rw [e] at this
   exact absurd this (by decide)
  have p18 := Z7b (sOf N R) (wOf N R)
  have r18 := Z72 (sOf N R) (wOf N R)
  have g18 := Z7l (sOf N R) (wOf N R)
  rw [eo] at r18 g18
  rw [if_pos rfl] at r18 g18
  dsimp only at g18
  clear hfs hf hk hi hm hd hk' eo u1
  generalize sOf N R = S at *
  generalize wOf N R = W at *
  have ⟨p1, r1, g1⟩ := ks29 F Lv U S W
  have ⟨p2, r2, g2⟩ := ks29 F Lv U1 S W
  have ⟨p3, r3, g3⟩ := ks19 F Lv U S W
  have ⟨p4, r4, g4⟩ := ks19 F Lv U1 S W
  unfold Z0s Z1B at *
  unfold Z0x at p1 r1 g1 p2 r2 g2 p3 r3 g3 p4 r4 g4
  have dl : decide ((U1.count 0 : Int) < (U.count 0 : Int)) = false := decide_eq_false (by omega)
  refine gxq (Z8i dk h18 p18 r18 g18 h29 p1 r1 g1 p2 r2 g2) ?_
  refine ⟨⟨by decide, by omega, by omega⟩, ⟨by decide, by omega⟩, ⟨by decide, by omega⟩, ?_⟩
  refine Z03.drawnK [] smp (by kernel_rfl) (gyq (cj8 h19 p3 r3 g3 p4 r4 g4 dl) ?_)
  refine ⟨⟨by decide, by omega⟩, ⟨by decide, by omega⟩, ?_⟩
  refine Z0G ?_
  refine Z03.loopM (ι := {k : Nat // k ≤ F.length}) [ff,ff,ff,ff,ff,tt,ff,ff,tt,ff,tt,tt,ff,ff,ff,ff,ff,ff,ff,ff,ff,ff,ff,ff,ff,ff,ff,ff,ff,ff,ff,ff,ff,ff,ff,ff,ff,ff,ff,ff,ff,ff,ff,ff,ff,ff,ff,ff,ff,ff,ff,ff,ff,ff,ff,ff,ff,ff,ff,ff,ff,ff,ff,ff,ff,ff,ff,ff,ff,ff,ff,ff,ff,ff,ff,ff,ff,ff,ff,ff,ff,ff,ff,ff,ff,ff,ff,ff,ff,ff,ff,ff,ff,ff,ff,ff,ff,ff,ff,ff,ff,ff,ff,ff,ff,ff,ff,ff,ff,ff,ff,ff,ff,ff,ff,ff,ff,ff,ff,ff,ff,ff,ff,ff,ff,ff,ff,ff,ff] (fun i => [(12, .int .i64 i.1)]) (fun i => bA F Lv U U1 S W N R) (fun i => F.length - i.1) ⟨0, Nat.zero_le _⟩ ?_ ?_
  ·unfold bA bK
   simp only [List.cons_append, List.nil_append]
   (rw [hL]; simp only [push_cast, Int.natCast_zero]; exact Z07.sameA)
  rintro ⟨k, hk⟩
  dsimp only
  unfold bA bK
  simp only [List.cons_append, List.nil_append]
  by_cases hk' : k < F.length
  ·have dk : decide ((k : Int) < (F.length : Int)) = true := decide_eq_true (by omega)
   have wk : IntKind.i64.wrap ((k : Int) + 1) = (k : Int) + 1 := wrq
   obtain ⟨f, hf⟩ : ∃ f, F.getD k default = f := ⟨_, rfl⟩
   obtain ⟨e1, e2⟩ := Zkh hsr hk'
   have gn : ∀ d, (F.flatMap etC).getD (k * 3) d = .str f.nm := fun d => by rw [Z2v (n := 3) F k d hk' (by decide), hf]; rfl
   have t3 : List.take 3 (List.drop (k * 3) (F.flatMap etC)) = [.str f.nm, .int .i64 f.hd, .int .i64 f.ln] := by
    rw [Z10 (n := 3), List.drop_eq_getElem_cons hk', List.flatMap_cons, ← Z0m hk', hf]; rfl
   have m3 : min 3 (F.length * 3 - k * 3) = 3 := by omega
   have ⟨p30, r30, g30⟩ := ks30 F Lv U1 S W f.nm
   rw [hf] at e1 e2
   have eE : fdE F f.nm = .agg [.str f.nm, .int .i64 f.hd, .int .i64 f.ln] := by unfold fdE; rw [if_pos e2, e1, hf]
   have eC : fdC F f.nm = 0 := by unfold fdC; rw [if_pos e2]
   rw [eE, eC] at r30
   unfold Z0x at p30 r30 g30
   refine gxq (cj6 dk gn h30 p30 r30 g30) ?_
   refine ⟨by omega, ⟨by omega, by omega⟩, ⟨by decide, by omega, hsr⟩, ?_⟩
   by_cases k0 : k = 0
   ·have dz : decide ((0 : Int) < (k : Int)) = false := decide_eq_false (by omega)
    refine Z03.drawnK [25, 26, 27, 28, 29, 30, 31, 32, 33, 34, 35, 36] smp (by kernel_rfl) (gyq (cj3 t3 m3 dz) ?_)
    refine ⟨by omega, ⟨by omega, by omega⟩, by omega, ⟨by omega, by omega⟩, by omega, ⟨by omega, by omega⟩, ?_⟩
    refine gxq wk ?_
    refine ⟨⟨k + 1, hk'⟩, by simp only; omega, ?_⟩
    exact Z07.keep16A
   ·have dz : decide ((0 : Int) < (k : Int)) = true := decide_eq_true (by omega)
    have w1 : IntKind.i64.wrap ((k : Int) - 1) = ((k - 1 : Nat) : Int) := by rw [Z0u _ (by constructor <;> omega)]; omega
    obtain ⟨q, hq⟩ : ∃ q, q = k - 1 := ⟨_, rfl⟩
    rw [← hq] at w1
    have gp : ∀ d, (F.flatMap etC).getD (q * 3) d = .str (F.getD q default).nm := fun d => by rw [Z2v (n := 3) F q d (by omega) (by decide)]; rfl
    have hb : Op.bytesLess (F.getD q default).nm f.nm = true := by rw [← hf]; exact Z4P hsr (by omega) hk'
    refine Z03.drawnK [] smp (by kernel_rfl) (gyq (cj7 t3 m3 dz w1 gp gn hb) ?_)
    refine ⟨by omega, ⟨by omega, by omega⟩, by omega, ⟨by omega, by omega⟩, by omega, ⟨by omega, by omega⟩, by omega, ⟨by omega, by omega⟩, by omega, ⟨by omega, by omega⟩, ?_⟩
    refine gxq wk ?_
    refine ⟨⟨k + 1, hk'⟩, by simp only; omega, ?_⟩
    exact Z07.keep16A
  ·obtain rfl : k = F.length := by omega
   have dk : decide ((F.length : Int) < (F.length : Int)) = false := decide_eq_false (by omega)
   refine gxq dk ?_
   exact Z07.one rfl rfl
end Go.Proofs.YtbnnhffkbcekcaaGreatDoor.dirDone
end
noncomputable section
namespace Go.Proofs.YtbnnhffkbcekcaaGreatDoor.dirDone
open Go Go.Eng Go.Proofs Go.RowKit
def ds0 : Env := noE
theorem Zle : Z01 Tryz.prog ds0 := ZdK _
def ds1 : Env := Z0d ds0 116 S116
theorem Zld : Z01 Tryz.prog ds1 := Zle.add (con116 Zle)
def ds2 : Env := Z0d ds1 64 S64
theorem Zlc : Z01 Tryz.prog ds2 := Zld.add (con64 Zld rfl)
def ds3 : Env := Z0d ds2 113 S113
theorem Zlb : Z01 Tryz.prog ds3 := Zlc.add (con113 Zlc rfl)
def ds4 : Env := Z0d ds3 31 S31
theorem Zla : Z01 Tryz.prog ds4 := Zlb.add (con31 Zlb)
def ds5 : Env := Z0d ds4 115 S115
theorem Zl9 : Z01 Tryz.prog ds5 := Zla.add (con115 Zla)
def ds6 : Env := Z0d ds5 62 S62
theorem Zl8 : Z01 Tryz.prog ds6 := Zl9.add (con62 Zl9 rfl)
def ds7 : Env := Z0d ds6 23 S23
theorem Zl7 : Z01 Tryz.prog ds7 := Zl8.add (con23 Zl8)
def ds8 : Env := Z0d ds7 61 S61
theorem Zl6 : Z01 Tryz.prog ds8 := Zl7.add (con61 Zl7 rfl)
def ds9 : Env := Z0d ds8 90 S90
theorem Zl5 : Z01 Tryz.prog ds9 := Zl6.add (con90 Zl6 rfl)
def ds10 : Env := Z0d ds9 49 S49
theorem ZfF : Z01 Tryz.prog ds10 := Zl5.add (con49 Zl5)
def ds11 : Env := Z0d ds10 91 S91
theorem ZfE : Z01 Tryz.prog ds11 := ZfF.add (con91 ZfF)
def ds12 : Env := Z0d ds11 92 S92
theorem ZfD : Z01 Tryz.prog ds12 := ZfE.add (con92 ZfE rfl)
def ds13 : Env := Z0d ds12 37 S37
theorem ZfC : Z01 Tryz.prog ds13 := ZfD.add (con37 ZfD rfl rfl rfl)
def ds14 : Env := Z0d ds13 141 S141
theorem ZfB : Z01 Tryz.prog ds14 := ZfC.add (con141 ZfC)
def ds15 : Env := Z0d ds14 79 S79
theorem ZfA : Z01 Tryz.prog ds15 := ZfB.add (con79 ZfB)
def ds16 : Env := Z0d ds15 126 S126
theorem Zfz : Z01 Tryz.prog ds16 := ZfA.add (con126 ZfA rfl)
def ds17 : Env := Z0d ds16 78 S78
theorem Zfy : Z01 Tryz.prog ds17 := Zfz.add (con78 Zfz rfl)
def ds18 : Env := Z0d ds17 80 S80
theorem Zfx : Z01 Tryz.prog ds18 := Zfy.add (con80 Zfy rfl rfl rfl)
def ds19 : Env := Z0d ds18 56 S56
theorem Zfw : Z01 Tryz.prog ds19 := Zfx.add (con56 Zfx)
def ds20 : Env := Z0d ds19 109 S109
theorem Zn7 : Z01 Tryz.prog ds20 := Zfw.add (con109 Zfw)
def ds21 : Env := Z0d ds20 185 ixS
theorem Zfv : Z01 Tryz.prog ds21 := Zn7.add (con185)
def ds22 : Env := Z0d ds21 178 ixS
theorem Zfu : Z01 Tryz.prog ds22 := Zfv.add (con178 Zfv rfl)
def ds23 : Env := Z0d ds22 173 S173
theorem Zft : Z01 Tryz.prog ds23 := Zfu.add (con173 Zfu rfl)
def ds24 : Env := Z0d ds23 164 S164
theorem Zfs : Z01 Tryz.prog ds24 := Zft.add (con164 Zft rfl)
def ds25 : Env := Z0d ds24 156 S156
theorem Zfr : Z01 Tryz.prog ds25 := Zfs.add (con156 Zfs rfl)
def ds26 : Env := Z0d ds25 165 S165
theorem Zfq : Z01 Tryz.prog ds26 := Zfr.add (con165 Zfr)
def ds27 : Env := Z0d ds26 166 S166
theorem Zfp : Z01 Tryz.prog ds27 := Zfq.add (con166 Zfq)
def ds28 : Env := Z0d ds27 157 S157
theorem Zfo : Z01 Tryz.prog ds28 := Zfp.add (con157 Zfp rfl rfl)
def ds29 : Env := Z0d ds28 139 S139
theorem Zfn : Z01 Tryz.prog ds29 := Zfo.add (con139 Zfo)
def ds30 : Env := Z0d ds29 114 S114
theorem Zfm : Z01 Tryz.prog ds30 := Zfn.add (con114 Zfn rfl rfl rfl rfl rfl rfl rfl)
def ds31 : Env := Z0d ds30 55 S55
theorem Zfl : Z01 Tryz.prog ds31 := Zfm.add (con55 Zfm rfl rfl rfl rfl rfl)
def ds32 : Env := Z0d ds31 18 S18
theorem Zfk : Z01 Tryz.prog ds32 := Zfl.add (con18 Zfl rfl rfl)
def ds33 : Env := Z0d ds32 19 S19
theorem Zfj : Z01 Tryz.prog ds33 := Zfk.add (con19 Zfk)
def ds34 : Env := Z0d ds33 33 S33
theorem Zfi : Z01 Tryz.prog ds34 := Zfj.add (con33 Zfj rfl)
def ds35 : Env := Z0d ds34 32 S32
theorem Zfh : Z01 Tryz.prog ds35 := Zfi.add (con32 Zfi rfl)
def ds36 : Env := Z0d ds35 29 S29
theorem Zn6 : Z01 Tryz.prog ds36 := Zfh.add (con29 Zfh)
def ds37 : Env := Z0d ds36 154 Z8h
theorem Zfg : Z01 Tryz.prog ds37 := Zn6.add (con154)
def ds38 : Env := Z0d ds37 134 Z8h
theorem Zff : Z01 Tryz.prog ds38 := Zfg.add (con134 Zfg rfl)
def ds39 : Env := Z0d ds38 89 Z8h
theorem Zfe : Z01 Tryz.prog ds39 := Zff.add (con89 Zff rfl)
def ds40 : Env := Z0d ds39 125 S125
theorem Zfd : Z01 Tryz.prog ds40 := Zfe.add (con125 Zfe rfl)
def ds41 : Env := Z0d ds40 124 S124
theorem Zfc : Z01 Tryz.prog ds41 := Zfd.add (con124 Zfd rfl)
def ds42 : Env := Z0d ds41 77 S77
theorem Zfb : Z01 Tryz.prog ds42 := Zfc.add (con77 Zfc rfl)
def ds43 : Env := Z0d ds42 81 S81
theorem Zfa : Z01 Tryz.prog ds43 := Zfb.add (con81 Zfb)
def ds44 : Env := Z0d ds43 82 S82
theorem Zf9 : Z01 Tryz.prog ds44 := Zfa.add (con82 Zfa rfl)
def ds45 : Env := Z0d ds44 129 S129
theorem Zf8 : Z01 Tryz.prog ds45 := Zf9.add (con129 Zf9)
def ds46 : Env := Z0d ds45 130 S130
theorem Zf7 : Z01 Tryz.prog ds46 := Zf8.add (con130 Zf8)
def ds47 : Env := Z0d ds46 85 S85
theorem Zf6 : Z01 Tryz.prog ds47 := Zf7.add (con85 Zf7 rfl rfl rfl rfl rfl rfl rfl rfl)
def ds48 : Env := Z0d ds47 83 S83
theorem Zf5 : Z01 Tryz.prog ds48 := Zf6.add (con83 Zf6)
def ds49 : Env := Z0d ds48 84 S84
theorem Zf4 : Z01 Tryz.prog ds49 := Zf5.add (con84 Zf5)
def ds50 : Env := Z0d ds49 34 S34
theorem Zf3 : Z01 Tryz.prog ds50 := Zf4.add (con34 Zf4 rfl rfl rfl rfl rfl rfl rfl rfl rfl)
def ds51 : Env := Z0d ds50 95 S95
theorem Zf2 : Z01 Tryz.prog ds51 := Zf3.add (con95 Zf3)
def ds52 : Env := Z0d ds51 135 S135
theorem Zf1 : Z01 Tryz.prog ds52 := Zf2.add (con135 Zf2)
def ds53 : Env := Z0d ds52 94 S94
theorem Zf0 : Z01 Tryz.prog ds53 := Zf1.add (con94 Zf1 rfl)
def ds54 : Env := Z0d ds53 105 S105
theorem ZeZ : Z01 Tryz.prog ds54 := Zf0.add (con105 Zf0)
def ds55 : Env := Z0d ds54 51 S51
theorem ZeY : Z01 Tryz.prog ds55 := ZeZ.add (con51 ZeZ rfl)
def ds56 : Env := Z0d ds55 106 S106
theorem ZeX : Z01 Tryz.prog ds56 := ZeY.add (con106 ZeY)
def ds57 : Env := Z0d ds56 107 S107
theorem ZeW : Z01 Tryz.prog ds57 := ZeX.add (con107 ZeX)
def ds58 : Env := Z0d ds57 110 S110
theorem ZeV : Z01 Tryz.prog ds58 := ZeW.add (con110 ZeW)
def ds59 : Env := Z0d ds58 111 S111
theorem ZeU : Z01 Tryz.prog ds59 := ZeV.add (con111 ZeV)
def ds60 : Env := Z0d ds59 108 S108
theorem ZeT : Z01 Tryz.prog ds60 := ZeU.add (con108 ZeU)
def ds61 : Env := Z0d ds60 136 S136
theorem ZeS : Z01 Tryz.prog ds61 := ZeT.add (con136 ZeT)
def ds62 : Env := Z0d ds61 96 S96
theorem ZeR : Z01 Tryz.prog ds62 := ZeS.add (con96 ZeS rfl)
def ds63 : Env := Z0d ds62 99 S99
theorem ZeQ : Z01 Tryz.prog ds63 := ZeR.add (con99 ZeR)
def ds64 : Env := Z0d ds63 76 S76
theorem ZeP : Z01 Tryz.prog ds64 := ZeQ.add (con76 ZeQ)
def ds65 : Env := Z0d ds64 71 S71
theorem ZeO : Z01 Tryz.prog ds65 := ZeP.add (con71 ZeP)
def ds66 : Env := Z0d ds65 72 S72
theorem ZeN : Z01 Tryz.prog ds66 := ZeO.add (con72 ZeO)
def ds67 : Env := Z0d ds66 120 S120
theorem ZeM : Z01 Tryz.prog ds67 := ZeN.add (con120 ZeN)
def ds68 : Env := Z0d ds67 98 S98
theorem ZeL : Z01 Tryz.prog ds68 := ZeM.add (con98 ZeM rfl rfl rfl rfl)
def ds69 : Env := Z0d ds68 137 S137
theorem ZeK : Z01 Tryz.prog ds69 := ZeL.add (con137 ZeL rfl rfl)
def ds70 : Env := Z0d ds69 97 S97
theorem ZeJ : Z01 Tryz.prog ds70 := ZeK.add (con97 ZeK rfl rfl rfl rfl)
def ds71 : Env := Z0d ds70 43 S43
theorem ZeI : Z01 Tryz.prog ds71 := ZeJ.add (con43 ZeJ rfl rfl rfl rfl rfl rfl)
def ds72 : Env := Z0d ds71 103 S103
theorem ZeH : Z01 Tryz.prog ds72 := ZeI.add (con103 ZeI)
def ds73 : Env := Z0d ds72 52 S52
theorem ZeG : Z01 Tryz.prog ds73 := ZeH.add (con52 ZeH rfl rfl rfl rfl)
def ds74 : Env := Z0d ds73 121 S121
theorem ZeF : Z01 Tryz.prog ds74 := ZeG.add (con121 ZeG rfl rfl rfl)
def ds75 : Env := Z0d ds74 122 S122
theorem ZeE : Z01 Tryz.prog ds75 := ZeF.add (con122 ZeF rfl rfl rfl rfl rfl rfl)
def ds76 : Env := Z0d ds75 68 S68
theorem ZeD : Z01 Tryz.prog ds76 := ZeE.add (con68 ZeE rfl rfl rfl rfl rfl rfl)
def ds77 : Env := Z0d ds76 25 S25
theorem ZeC : Z01 Tryz.prog ds77 := ZeD.add (con25 ZeD rfl rfl rfl rfl)
def ds78 : Env := Z0d ds77 26 S26
theorem ZeB : Z01 Tryz.prog ds78 := ZeC.add (con26 ZeC rfl rfl rfl rfl rfl rfl)
def ds79 : Env := Z0d ds78 119 S119
theorem ZeA : Z01 Tryz.prog ds79 := ZeB.add (con119 ZeB rfl rfl)
def ds80 : Env := Z0d ds79 118 S118
theorem Zez : Z01 Tryz.prog ds80 := ZeA.add (con118 ZeA)
def ds81 : Env := Z0d ds80 74 S74
theorem Zey : Z01 Tryz.prog ds81 := Zez.add (con74 Zez rfl rfl rfl rfl)
def ds82 : Env := Z0d ds81 75 S75
theorem Zex : Z01 Tryz.prog ds82 := Zey.add (con75 Zey rfl rfl rfl rfl)
def ds83 : Env := Z0d ds82 67 S67
theorem Zew : Z01 Tryz.prog ds83 := Zex.add (con67 Zex rfl rfl rfl rfl rfl rfl rfl rfl rfl)
def ds84 : Env := Z0d ds83 30 S30
theorem Zev : Z01 Tryz.prog ds84 := Zew.add (con30 Zew rfl)
def ds85 : Env := Z0d ds84 73 S73
theorem Zeu : Z01 Tryz.prog ds85 := Zev.add (con73 Zev rfl)
def ds86 : Env := Z0d ds85 123 S123
theorem Zet : Z01 Tryz.prog ds86 := Zeu.add (con123 Zeu)
def ds87 : Env := Z0d ds86 69 S69
theorem Zes : Z01 Tryz.prog ds87 := Zet.add (con69 Zet rfl rfl rfl rfl rfl)
def ds88 : Env := Z0d ds87 70 S70
theorem Zer : Z01 Tryz.prog ds88 := Zes.add (con70 Zes rfl rfl rfl rfl rfl)
def ds89 : Env := Z0d ds88 131 S131
theorem Zeq : Z01 Tryz.prog ds89 := Zer.add (con131 Zer)
def ds90 : Env := Z0d ds89 86 S86
theorem Zep : Z01 Tryz.prog ds90 := Zeq.add (con86 Zeq rfl)
def ds91 : Env := Z0d ds90 35 S35
theorem Zn5 : Z01 Tryz.prog ds91 := Zep.add (con35 Zep rfl rfl rfl)
def ds92 : Env := Z0d ds91 87 Z5z
theorem Zeo : Z01 Tryz.prog ds92 := Zn5.add (con87)
def ds93 : Env := Z0d ds92 36 S36
theorem Zen : Z01 Tryz.prog ds93 := Zeo.add (con36 Zeo rfl rfl rfl rfl rfl)
def ds94 : Env := Z0d ds93 27 S27
theorem Zn4 : Z01 Tryz.prog ds94 := Zen.add (con27 Zen rfl rfl rfl rfl rfl rfl rfl rfl rfl rfl rfl rfl rfl rfl rfl)
noncomputable abbrev dsE : Env := ds94
theorem Zp5 : Z01 Tryz.prog dsE := Zn4
end Go.Proofs.YtbnnhffkbcekcaaGreatDoor.dirDone
end
