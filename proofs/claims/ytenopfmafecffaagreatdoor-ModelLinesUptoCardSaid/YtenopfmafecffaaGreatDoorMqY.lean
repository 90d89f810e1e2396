/- Of the model of a workstation: what is called, in its order; what comes in. -/
import Derived.Test.YtenopfmafecffaaGreatDoorMqA
import Derived.Test.YtenopfmafecffaaGreatDoorEE
namespace Go.Proofs.YtenopfmafecffaaGreatDoor.modelDone
open Go Go.Eng Go.Proofs Go.Mdl Go.RowKit
open Go.Proofs.YtenopfmafecffaaGreatDoor.lineDone (wordS wordsS cloneS cmdS asksS textS parseS refS)
open Go.Proofs.YtenopfmafecffaaGreatDoor.linesDone (ixS ctS ixTS ctTS splitS split2S linesS)
set_option linter.unusedVariables false
set_option linter.unusedSimpArgs false
set_option maxRecDepth 100000
noncomputable def md0 : Env := noE
theorem md0_ok : EnvOk Tryz.prog md0 := noE_ok _
noncomputable def md1 : Env := addE md0 44 S44
theorem md1_ok : EnvOk Tryz.prog md1 := md0_ok.add (con44 md0_ok)
noncomputable def md2 : Env := addE md1 43 S43
theorem md2_ok : EnvOk Tryz.prog md2 := md1_ok.add (con43 md1_ok)
noncomputable def md3 : Env := addE md2 45 S45
theorem md3_ok : EnvOk Tryz.prog md3 := md2_ok.add (con45 md2_ok)
noncomputable def md4 : Env := addE md3 38 S38
theorem md4_ok : EnvOk Tryz.prog md4 := md3_ok.add (con38 md3_ok)
noncomputable def md5 : Env := addE md4 49 S49
theorem md5_ok : EnvOk Tryz.prog md5 := md4_ok.add (con49 md4_ok)
noncomputable def md6 : Env := addE md5 94 S94
theorem md6_ok : EnvOk Tryz.prog md6 := md5_ok.add (con94 md5_ok rfl)
noncomputable def md7 : Env := addE md6 76 S76
theorem md7_ok : EnvOk Tryz.prog md7 := md6_ok.add (con76 md6_ok rfl)
noncomputable def md8 : Env := addE md7 50 S50
theorem md8_ok : EnvOk Tryz.prog md8 := md7_ok.add (con50 md7_ok rfl)
noncomputable def md9 : Env := addE md8 51 S51
theorem md9_ok : EnvOk Tryz.prog md9 := md8_ok.add (con51)
noncomputable def md10 : Env := addE md9 23 S23
theorem md10_ok : EnvOk Tryz.prog md10 := md9_ok.add (con23 md9_ok rfl rfl)
noncomputable def md11 : Env := addE md10 22 S22
theorem md11_ok : EnvOk Tryz.prog md11 := md10_ok.add (con22 md10_ok)
noncomputable def md12 : Env := addE md11 56 S56
theorem md12_ok : EnvOk Tryz.prog md12 := md11_ok.add (con56)
noncomputable def md13 : Env := addE md12 84 S84
theorem md13_ok : EnvOk Tryz.prog md13 := md12_ok.add (con84 md12_ok rfl)
noncomputable def md14 : Env := addE md13 29 S29
theorem md14_ok : EnvOk Tryz.prog md14 := md13_ok.add (con29 md13_ok rfl)
noncomputable def md15 : Env := addE md14 34 S34
theorem md15_ok : EnvOk Tryz.prog md15 := md14_ok.add (con34 md14_ok)
noncomputable def md16 : Env := addE md15 32 S32
theorem md16_ok : EnvOk Tryz.prog md16 := md15_ok.add (con32 md15_ok rfl)
noncomputable def md17 : Env := addE md16 25 S25
theorem md17_ok : EnvOk Tryz.prog md17 := md16_ok.add (con25 md16_ok)
noncomputable def md18 : Env := addE md17 17 S17
theorem md18_ok : EnvOk Tryz.prog md18 := md17_ok.add (con17 md17_ok rfl rfl)
noncomputable def md19 : Env := addE md18 26 S26
theorem md19_ok : EnvOk Tryz.prog md19 := md18_ok.add (con26 md18_ok rfl rfl rfl rfl)
noncomputable def md20 : Env := addE md19 39 S39
theorem md20_ok : EnvOk Tryz.prog md20 := md19_ok.add (con39 md19_ok)
noncomputable def md21 : Env := addE md20 27 S27
theorem md21_ok : EnvOk Tryz.prog md21 := md20_ok.add (con27 md20_ok rfl rfl)
noncomputable def md22 : Env := addE md21 35 S35
theorem md22_ok : EnvOk Tryz.prog md22 := md21_ok.add (con35 md21_ok rfl rfl rfl rfl)
noncomputable def md23 : Env := addE md22 36 S36
theorem md23_ok : EnvOk Tryz.prog md23 := md22_ok.add (con36 md22_ok rfl rfl rfl)
noncomputable def md24 : Env := addE md23 37 S37
theorem md24_ok : EnvOk Tryz.prog md24 := md23_ok.add (con37 md23_ok rfl rfl rfl rfl rfl rfl rfl)
noncomputable def md25 : Env := addE md24 33 S33
theorem md25_ok : EnvOk Tryz.prog md25 := md24_ok.add (con33 md24_ok rfl)
noncomputable def md26 : Env := addE md25 70 S70
theorem md26_ok : EnvOk Tryz.prog md26 := md25_ok.add (con70 md25_ok)
noncomputable def md27 : Env := addE md26 40 S40
theorem md27_ok : EnvOk Tryz.prog md27 := md26_ok.add (con40 md26_ok rfl)
noncomputable def md28 : Env := addE md27 54 wordS
theorem md28_ok : EnvOk Tryz.prog md28 := md27_ok.add (lineDone.con27 md27_ok)
noncomputable def md29 : Env := addE md28 52 wordsS
theorem md29_ok : EnvOk Tryz.prog md29 := md28_ok.add (lineDone.con25 md28_ok rfl)
noncomputable def md30 : Env := addE md29 67 wordsS
theorem md30_ok : EnvOk Tryz.prog md30 := md29_ok.add (lineDone.con29 md29_ok)
noncomputable def md31 : Env := addE md30 55 cloneS
theorem md31_ok : EnvOk Tryz.prog md31 := md30_ok.add (lineDone.con28 md30_ok)
noncomputable def md32 : Env := addE md31 53 cmdS
theorem md32_ok : EnvOk Tryz.prog md32 := md31_ok.add (lineDone.con26 md31_ok)
noncomputable def md33 : Env := addE md32 68 asksS
theorem md33_ok : EnvOk Tryz.prog md33 := md32_ok.add (lineDone.con30 md32_ok)
noncomputable def md34 : Env := addE md33 69 textS
theorem md34_ok : EnvOk Tryz.prog md34 := md33_ok.add (lineDone.con31 md33_ok)
noncomputable def md35 : Env := addE md34 28 parseS
theorem md35_ok : EnvOk Tryz.prog md35 := md34_ok.add (lineDone.con13 md34_ok rfl rfl rfl rfl)
noncomputable def md36 : Env := addE md35 31 refS
theorem md36_ok : EnvOk Tryz.prog md36 := md35_ok.add (lineDone.con14 md35_ok rfl rfl rfl)
noncomputable def md37 : Env := addE md36 129 ixS
theorem md37_ok : EnvOk Tryz.prog md37 := md36_ok.add (linesDone.con57)
noncomputable def md38 : Env := addE md37 127 ctS
theorem md38_ok : EnvOk Tryz.prog md38 := md37_ok.add (linesDone.con33)
noncomputable def md39 : Env := addE md38 114 ixS
theorem md39_ok : EnvOk Tryz.prog md39 := md38_ok.add (linesDone.con47 md38_ok rfl)
noncomputable def md40 : Env := addE md39 128 ixTS
theorem md40_ok : EnvOk Tryz.prog md40 := md39_ok.add (linesDone.con34 md39_ok rfl)
noncomputable def md41 : Env := addE md40 113 ixTS
theorem md41_ok : EnvOk Tryz.prog md41 := md40_ok.add (linesDone.con27 md40_ok rfl)
noncomputable def md42 : Env := addE md41 112 ctTS
theorem md42_ok : EnvOk Tryz.prog md42 := md41_ok.add (linesDone.con26 md41_ok rfl)
noncomputable def md43 : Env := addE md42 93 splitS
theorem md43_ok : EnvOk Tryz.prog md43 := md42_ok.add (linesDone.con21 md42_ok rfl rfl)
noncomputable def md44 : Env := addE md43 75 split2S
theorem md44_ok : EnvOk Tryz.prog md44 := md43_ok.add (linesDone.con15 md43_ok rfl)
noncomputable def md45 : Env := addE md44 47 linesS
theorem md45_ok : EnvOk Tryz.prog md45 := md44_ok.add (linesDone.con6 md44_ok rfl)
noncomputable def md46 : Env := addE md45 18 linesS
theorem md46_ok : EnvOk Tryz.prog md46 := md45_ok.add (linesDone.con9F md45_ok)
noncomputable def md47 : Env := addE md46 13 S13
theorem md47_ok : EnvOk Tryz.prog md47 := md46_ok.add (con13 md46_ok rfl rfl rfl rfl rfl rfl rfl rfl rfl rfl rfl rfl)
noncomputable def md48 : Env := addE md47 20 S20
theorem md48_ok : EnvOk Tryz.prog md48 := md47_ok.add (con20 md47_ok rfl rfl)
noncomputable def md49 : Env := addE md48 11 S11
theorem md49_ok : EnvOk Tryz.prog md49 := md48_ok.add (con11 md48_ok rfl rfl rfl rfl)
noncomputable def md50 : Env := addE md49 15 S15
theorem md50_ok : EnvOk Tryz.prog md50 := md49_ok.add (con15 md49_ok)
noncomputable def md51 : Env := addE md50 16 S16
theorem md51_ok : EnvOk Tryz.prog md51 := md50_ok.add (con16 md50_ok rfl rfl)
noncomputable def md52 : Env := addE md51 24 S24
theorem md52_ok : EnvOk Tryz.prog md52 := md51_ok.add (con24 md51_ok rfl rfl rfl)
noncomputable def md53 : Env := addE md52 79 S79
theorem md53_ok : EnvOk Tryz.prog md53 := md52_ok.add (con79 md52_ok rfl rfl rfl)
noncomputable def md54 : Env := addE md53 57 S57
theorem md54_ok : EnvOk Tryz.prog md54 := md53_ok.add (con57 md53_ok rfl)
noncomputable def md55 : Env := addE md54 63 S63
theorem md55_ok : EnvOk Tryz.prog md55 := md54_ok.add (con63 md54_ok rfl rfl)
noncomputable def md56 : Env := addE md55 58 S58
theorem md56_ok : EnvOk Tryz.prog md56 := md55_ok.add (con58 md55_ok rfl)
noncomputable def md57 : Env := addE md56 85 S85
theorem md57_ok : EnvOk Tryz.prog md57 := md56_ok.add (con85 md56_ok)
noncomputable def md58 : Env := addE md57 86 S86
theorem md58_ok : EnvOk Tryz.prog md58 := md57_ok.add (con86 md57_ok rfl)
noncomputable def md59 : Env := addE md58 88 S88
theorem md59_ok : EnvOk Tryz.prog md59 := md58_ok.add (con88 md58_ok)
noncomputable def md60 : Env := addE md59 87 S87
theorem md60_ok : EnvOk Tryz.prog md60 := md59_ok.add (con87 md59_ok rfl rfl)
noncomputable def md61 : Env := addE md60 81 S81
theorem md61_ok : EnvOk Tryz.prog md61 := md60_ok.add (con81 md60_ok rfl)
noncomputable def md62 : Env := addE md61 82 S82
theorem md62_ok : EnvOk Tryz.prog md62 := md61_ok.add (con82 md61_ok rfl rfl rfl)
noncomputable def md63 : Env := addE md62 83 S83
theorem md63_ok : EnvOk Tryz.prog md63 := md62_ok.add (con83 md62_ok rfl rfl rfl)
noncomputable def md64 : Env := addE md63 80 S80
theorem md64_ok : EnvOk Tryz.prog md64 := md63_ok.add (con80 md63_ok rfl rfl rfl rfl rfl rfl rfl)
noncomputable def md65 : Env := addE md64 59 S59
theorem md65_ok : EnvOk Tryz.prog md65 := md64_ok.add (con59 md64_ok rfl)
noncomputable def md66 : Env := addE md65 60 S60
theorem md66_ok : EnvOk Tryz.prog md66 := md65_ok.add (con60 md65_ok rfl rfl rfl)
noncomputable def md67 : Env := addE md66 61 S61
theorem md67_ok : EnvOk Tryz.prog md67 := md66_ok.add (con61 md66_ok rfl)
noncomputable def md68 : Env := addE md67 64 S64
theorem md68_ok : EnvOk Tryz.prog md68 := md67_ok.add (con64 md67_ok rfl)
noncomputable def md69 : Env := addE md68 65 S65
theorem md69_ok : EnvOk Tryz.prog md69 := md68_ok.add (con65 md68_ok rfl)
noncomputable def md70 : Env := addE md69 66 S66
theorem md70_ok : EnvOk Tryz.prog md70 := md69_ok.add (con66 md69_ok rfl)
noncomputable def md71 : Env := addE md70 42 S42
theorem md71_ok : EnvOk Tryz.prog md71 := md70_ok.add (con42 md70_ok)
noncomputable def md72 : Env := addE md71 41 S41
theorem md72_ok : EnvOk Tryz.prog md72 := md71_ok.add (con41)
noncomputable def md73 : Env := addE md72 14 S14
theorem md73_ok : EnvOk Tryz.prog md73 := md72_ok.add (con14 md72_ok rfl rfl)
noncomputable def md74 : Env := addE md73 46 bld.S46
theorem md74_ok : EnvOk Tryz.prog md74 := md73_ok.add (bld.con46)
noncomputable def md75 : Env := addE md74 48 bld.S48
theorem md75_ok : EnvOk Tryz.prog md75 := md74_ok.add (bld.con48)
noncomputable def md76 : Env := addE md75 62 S62
theorem md76_ok : EnvOk Tryz.prog md76 := md75_ok.add (con62 md75_ok rfl rfl rfl rfl)
noncomputable def md77 : Env := addE md76 10 S10
theorem md77_ok : EnvOk Tryz.prog md77 := md76_ok.add (con10 md76_ok rfl rfl)
noncomputable def md78 : Env := addE md77 30 S30
theorem md78_ok : EnvOk Tryz.prog md78 := md77_ok.add (con30 md77_ok)
noncomputable def md79 : Env := addE md78 12 S12
theorem md79_ok : EnvOk Tryz.prog md79 := md78_ok.add (con12 md78_ok rfl rfl rfl rfl rfl rfl rfl rfl rfl rfl rfl rfl rfl)
noncomputable def md80 : Env := addE md79 19 S19
theorem md80_ok : EnvOk Tryz.prog md80 := md79_ok.add (con19 md79_ok rfl rfl rfl rfl)
noncomputable def md81 : Env := addE md80 21 S21
theorem md81_ok : EnvOk Tryz.prog md81 := md80_ok.add (con21 md80_ok rfl)
noncomputable def md82 : Env := addE md81 9 S9
theorem md82_ok : EnvOk Tryz.prog md82 := md81_ok.add (con9 md81_ok rfl rfl rfl rfl)
noncomputable def md83 : Env := addE md82 8 S8
theorem md83_ok : EnvOk Tryz.prog md83 := md82_ok.add (con8 md82_ok rfl rfl rfl)
noncomputable abbrev mdE : Env := md83
theorem mdE_ok : EnvOk Tryz.prog mdE := md83_ok
theorem has_files {v : Dv} (h : Dv.has (.sl (.st [.str, .str])) v) : ∃ l : Fs, v.av = .sl (l.flatMap fc) l.length ∧ 3 * l.length ≤ v.vb ∧ ∀ x ∈ l, x.1.length ≤ v.vb ∧ x.2.length ≤ v.vb := by
  obtain ⟨es, rfl, hl, he⟩ := has_sl h
  have key : ∀ es : List Dv, (∀ e ∈ es, Dv.has (.st [.str, .str]) e) → ∃ l : Fs, Dv.cellsL es = l.flatMap fc ∧ es.length = l.length ∧ 3 * l.length ≤ Dv.vbL es ∧ ∀ s ∈ l, s.1.length ≤ Dv.vbL es ∧ s.2.length ≤ Dv.vbL es := by
    intro es
    induction es with
    | nil => intro _; exact ⟨[], rfl, rfl, Nat.zero_le _, by simp⟩
    | cons e es ih =>
      intro he
      obtain ⟨l, h1, h2, h3, h4⟩ := ih fun x hx => he x (by simp [hx])
      obtain ⟨vs, rfl, hv⟩ := has_st (he e (by simp))
      obtain ⟨x, xs, rfl, hx, hv⟩ := hasL_cons hv
      obtain ⟨y, ys, rfl, hy, hv⟩ := hasL_cons hv
      obtain rfl := hasL_nil hv
      obtain ⟨a, rfl, _⟩ := has_str hx
      obtain ⟨b, rfl, _⟩ := has_str hy
      refine ⟨(a, b) :: l, by simp only [Dv.cellsL, Dv.cells, h1, List.flatMap_cons]; rfl, by simp [h2], ?_, fun s hs => ?_⟩
      · simp only [Dv.vbL, Dv.vb, List.length_cons]; omega
      · simp only [Dv.vbL, Dv.vb]
        rcases List.mem_cons.1 hs with rfl | hs
        · simp only; omega
        · have := h4 s hs; omega
  obtain ⟨l, h1, h2, h3, h4⟩ := key es he
  refine ⟨l, ?_, ?_, fun s hs => ?_⟩
  · simp only [Dv.av, Dv.cells, List.getD_cons_zero, h1, h2]
  · simp only [Dv.vb]; omega
  · simp only [Dv.vb]; have := h4 s hs; omega
theorem has_lines {v : Dv} (h : Dv.has (.sl .str) v) : ∃ ss : List Bytes, v.av = .sl (ss.map .str) ss.length ∧ ss.length ≤ v.vb ∧ (ss.map (·.length + 1)).sum ≤ v.vb := by
  obtain ⟨es, rfl, hl, he⟩ := has_sl h
  have key : ∀ es : List Dv, (∀ e ∈ es, Dv.has .str e) → ∃ l : List Bytes, Dv.cellsL es = l.map .str ∧ es.length = l.length ∧ l.length ≤ Dv.vbL es ∧ (l.map (·.length + 1)).sum ≤ Dv.vbL es := by
    intro es
    induction es with
    | nil => intro _; exact ⟨[], rfl, rfl, Nat.zero_le _, Nat.zero_le _⟩
    | cons e es ih =>
      intro he
      obtain ⟨l, h1, h2, h3, h4⟩ := ih fun x hx => he x (by simp [hx])
      obtain ⟨n, rfl, h5⟩ := has_str (he e (by simp))
      refine ⟨n :: l, by simp only [Dv.cellsL, Dv.cells, h1, List.map_cons, List.cons_append, List.nil_append], by simp [h2], ?_, ?_⟩
      · simp only [Dv.vbL, Dv.vb, List.length_cons]; omega
      · simp only [Dv.vbL, Dv.vb, List.map_cons, List.sum_cons]; omega
  obtain ⟨l, h1, h2, h3, h4⟩ := key es he
  refine ⟨l, ?_, ?_, ?_⟩
  · simp only [Dv.av, Dv.cells, List.getD_cons_zero, h1, h2]
  · simp only [Dv.vb]; omega
  · simp only [Dv.vb]; omega
end Go.Proofs.YtenopfmafecffaaGreatDoor.modelDone
