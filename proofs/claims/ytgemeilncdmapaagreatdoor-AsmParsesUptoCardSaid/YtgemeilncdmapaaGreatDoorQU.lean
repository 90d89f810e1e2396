/- Of assembly texts: what comes in. Of assembly texts: what is called, in its order. -/
import Derived.Test.YtgemeilncdmapaaGreatDoorQS
import Derived.Test.YtgemeilncdmapaaGreatDoorEE
import Derived.Test.YtgemeilncdmapaaGreatDoorEF
import Derived.Test.YtgemeilncdmapaaGreatDoorQT
section
namespace Go.Proofs.YtgemeilncdmapaaGreatDoor.asmDone
open Go Go.Eng Go.Proofs Go.RowKit
set_option linter.unusedVariables false
set_option linter.unusedSimpArgs false
set_option maxRecDepth 100000
theorem has_strs {v : Dv} (h : Dv.has (.sl .str) v) : ∃ ss : List (List UInt8), v.av = .sl (ss.map .str) ss.length ∧ ss.length ≤ v.vb ∧ ∀ s ∈ ss, s.length ≤ v.vb := by
  obtain ⟨es, rfl, hl, he⟩ := has_sl h
  have key : ∀ es : List Dv, (∀ e ∈ es, Dv.has .str e) → ∃ l : List (List UInt8), Dv.cellsL es = l.map .str ∧ es.length = l.length ∧ l.length ≤ Dv.vbL es ∧ ∀ s ∈ l, s.length ≤ Dv.vbL es := by
    intro es
    induction es with
    | nil => intro _; exact ⟨[], rfl, rfl, Nat.zero_le _, by simp⟩
    | cons e es ih =>
      intro he
      obtain ⟨l, h1, h2, h3, h4⟩ := ih fun x hx => he x (by simp [hx])
      obtain ⟨n, rfl, h5⟩ := has_str (he e (by simp))
      refine ⟨n :: l, by simp only [Dv.cellsL, Dv.cells, h1, List.map_cons, List.cons_append, List.nil_append], by simp [h2], ?_, ?_⟩
      · simp only [Dv.vbL, Dv.vb, List.length_cons]; omega
      · intro s hs
        simp only [Dv.vbL, Dv.vb]
        rcases List.mem_cons.1 hs with rfl | hs
        · omega
        · have := h4 s hs; omega
  obtain ⟨l, h1, h2, h3, h4⟩ := key es he
  refine ⟨l, ?_, ?_, fun s hs => ?_⟩
  · simp only [Dv.av, Dv.cells, List.getD_cons_zero, h1, h2]
  · simp only [Dv.vb]; omega
  · simp only [Dv.vb]; have := h4 s hs; omega
end Go.Proofs.YtgemeilncdmapaaGreatDoor.asmDone
end
section
namespace Go.Proofs.YtgemeilncdmapaaGreatDoor.asmDone
open Go Go.Eng Go.Proofs Go.RowKit
open Go.Proofs.YtgemeilncdmapaaGreatDoor.linesDone (ixS ctS ixTS ctTS)
set_option linter.unusedVariables false
set_option linter.unusedSimpArgs false
set_option maxRecDepth 100000
noncomputable def an0 : Env := noE
theorem an0_ok : EnvOk Tryz.prog an0 := noE_ok _
noncomputable def an1 : Env := addE an0 104 S104
theorem an1_ok : EnvOk Tryz.prog an1 := an0_ok.add (con104 an0_ok)
noncomputable def an2 : Env := addE an1 105 S105
theorem an2_ok : EnvOk Tryz.prog an2 := an1_ok.add (con105 an1_ok rfl)
noncomputable def an3 : Env := addE an2 79 S79
theorem an3_ok : EnvOk Tryz.prog an3 := an2_ok.add (con79 an2_ok rfl rfl)
noncomputable def an4 : Env := addE an3 80 S80
theorem an4_ok : EnvOk Tryz.prog an4 := an3_ok.add (con80 an3_ok)
noncomputable def an5 : Env := addE an4 44 S44
theorem an5_ok : EnvOk Tryz.prog an5 := an4_ok.add (con44 an4_ok)
noncomputable def an6 : Env := addE an5 45 S45
theorem an6_ok : EnvOk Tryz.prog an6 := an5_ok.add (con45 an5_ok rfl rfl)
noncomputable def an7 : Env := addE an6 17 S17
theorem an7_ok : EnvOk Tryz.prog an7 := an6_ok.add (con17 an6_ok rfl rfl)
noncomputable def an8 : Env := addE an7 87 S87
theorem an8_ok : EnvOk Tryz.prog an8 := an7_ok.add (con87 an7_ok)
noncomputable def an9 : Env := addE an8 53 S53
theorem an9_ok : EnvOk Tryz.prog an9 := an8_ok.add (con53 an8_ok rfl)
noncomputable def an10 : Env := addE an9 88 S88
theorem an10_ok : EnvOk Tryz.prog an10 := an9_ok.add (con88 an9_ok)
noncomputable def an11 : Env := addE an10 54 S54
theorem an11_ok : EnvOk Tryz.prog an11 := an10_ok.add (con54 an10_ok rfl)
noncomputable def an12 : Env := addE an11 77 S77
theorem an12_ok : EnvOk Tryz.prog an12 := an11_ok.add (con77 an11_ok rfl rfl)
noncomputable def an13 : Env := addE an12 21 S21
theorem an13_ok : EnvOk Tryz.prog an13 := an12_ok.add (con21 an12_ok)
noncomputable def an14 : Env := addE an13 22 S22
theorem an14_ok : EnvOk Tryz.prog an14 := an13_ok.add (con22 an13_ok)
noncomputable def an15 : Env := addE an14 48 S48
theorem an15_ok : EnvOk Tryz.prog an15 := an14_ok.add (con48 an14_ok)
noncomputable def an16 : Env := addE an15 49 S49
theorem an16_ok : EnvOk Tryz.prog an16 := an15_ok.add (con49 an15_ok)
noncomputable def an17 : Env := addE an16 33 S33
theorem an17_ok : EnvOk Tryz.prog an17 := an16_ok.add (con33 an16_ok)
noncomputable def an18 : Env := addE an17 24 S24
theorem an18_ok : EnvOk Tryz.prog an18 := an17_ok.add (con24 an17_ok rfl rfl rfl)
noncomputable def an19 : Env := addE an18 18 S18
theorem an19_ok : EnvOk Tryz.prog an19 := an18_ok.add (con18 an18_ok)
noncomputable def an20 : Env := addE an19 81 S81
theorem an20_ok : EnvOk Tryz.prog an20 := an19_ok.add (con81)
noncomputable def an21 : Env := addE an20 82 S82
theorem an21_ok : EnvOk Tryz.prog an21 := an20_ok.add (con82)
noncomputable def an22 : Env := addE an21 46 S46
theorem an22_ok : EnvOk Tryz.prog an22 := an21_ok.add (con46 an21_ok rfl rfl)
noncomputable def an23 : Env := addE an22 20 S20
theorem an23_ok : EnvOk Tryz.prog an23 := an22_ok.add (con20 an22_ok rfl)
noncomputable def an24 : Env := addE an23 23 S23
theorem an24_ok : EnvOk Tryz.prog an24 := an23_ok.add (con23)
noncomputable def an25 : Env := addE an24 122 S122
theorem an25_ok : EnvOk Tryz.prog an25 := an24_ok.add (con122)
noncomputable def an26 : Env := addE an25 121 S121
theorem an26_ok : EnvOk Tryz.prog an26 := an25_ok.add (con121)
noncomputable def an27 : Env := addE an26 98 S98
theorem an27_ok : EnvOk Tryz.prog an27 := an26_ok.add (con98)
noncomputable def an28 : Env := addE an27 37 S37
theorem an28_ok : EnvOk Tryz.prog an28 := an27_ok.add (con37)
noncomputable def an29 : Env := addE an28 32 S32
theorem an29_ok : EnvOk Tryz.prog an29 := an28_ok.add (con32 an28_ok)
noncomputable def an30 : Env := addE an29 55 S55
theorem an30_ok : EnvOk Tryz.prog an30 := an29_ok.add (con55 an29_ok)
noncomputable def an31 : Env := addE an30 25 S25
theorem an31_ok : EnvOk Tryz.prog an31 := an30_ok.add (con25)
noncomputable def an32 : Env := addE an31 19 S19
theorem an32_ok : EnvOk Tryz.prog an32 := an31_ok.add (con19 an31_ok rfl)
noncomputable def an33 : Env := addE an32 9 S9
theorem an33_ok : EnvOk Tryz.prog an33 := an32_ok.add (con9 an32_ok rfl rfl rfl rfl rfl rfl rfl rfl rfl)
noncomputable def an34 : Env := addE an33 97 S97
theorem an34_ok : EnvOk Tryz.prog an34 := an33_ok.add (con97 an33_ok rfl rfl)
noncomputable def an35 : Env := addE an34 69 S69
theorem an35_ok : EnvOk Tryz.prog an35 := an34_ok.add (con69 an34_ok rfl rfl)
noncomputable def an36 : Env := addE an35 102 S102
theorem an36_ok : EnvOk Tryz.prog an36 := an35_ok.add (con102 an35_ok)
noncomputable def an37 : Env := addE an36 101 S101
theorem an37_ok : EnvOk Tryz.prog an37 := an36_ok.add (con101 an36_ok rfl)
noncomputable def an38 : Env := addE an37 99 S99
theorem an38_ok : EnvOk Tryz.prog an38 := an37_ok.add (con99 an37_ok)
noncomputable def an39 : Env := addE an38 100 S100
theorem an39_ok : EnvOk Tryz.prog an39 := an38_ok.add (con100 an38_ok)
noncomputable def an40 : Env := addE an39 68 S68
theorem an40_ok : EnvOk Tryz.prog an40 := an39_ok.add (con68 an39_ok rfl rfl rfl)
noncomputable def an41 : Env := addE an40 74 S74
theorem an41_ok : EnvOk Tryz.prog an41 := an40_ok.add (con74 an40_ok rfl rfl rfl rfl)
noncomputable def an42 : Env := addE an41 70 S70
theorem an42_ok : EnvOk Tryz.prog an42 := an41_ok.add (con70 an41_ok rfl rfl rfl)
noncomputable def an43 : Env := addE an42 76 S76
theorem an43_ok : EnvOk Tryz.prog an43 := an42_ok.add (con76 an42_ok rfl rfl)
noncomputable def an44 : Env := addE an43 66 S66
theorem an44_ok : EnvOk Tryz.prog an44 := an43_ok.add (con66 an43_ok rfl)
noncomputable def an45 : Env := addE an44 75 S75
theorem an45_ok : EnvOk Tryz.prog an45 := an44_ok.add (con75 an44_ok rfl rfl)
noncomputable def an46 : Env := addE an45 67 S67
theorem an46_ok : EnvOk Tryz.prog an46 := an45_ok.add (con67 an45_ok)
noncomputable def an47 : Env := addE an46 73 S73
theorem an47_ok : EnvOk Tryz.prog an47 := an46_ok.add (con73 an46_ok)
noncomputable def an48 : Env := addE an47 71 S71
theorem an48_ok : EnvOk Tryz.prog an48 := an47_ok.add (con71 an47_ok rfl)
noncomputable def an49 : Env := addE an48 39 S39
theorem an49_ok : EnvOk Tryz.prog an49 := an48_ok.add (con39 an48_ok rfl)
noncomputable def an50 : Env := addE an49 126 ixS
theorem an50_ok : EnvOk Tryz.prog an50 := an49_ok.add (linesDone.con57)
noncomputable def an51 : Env := addE an50 113 ctS
theorem an51_ok : EnvOk Tryz.prog an51 := an50_ok.add (linesDone.con33)
noncomputable def an52 : Env := addE an51 114 ixS
theorem an52_ok : EnvOk Tryz.prog an52 := an51_ok.add (linesDone.con47 an51_ok rfl)
noncomputable def an53 : Env := addE an52 92 ixTS
theorem an53_ok : EnvOk Tryz.prog an53 := an52_ok.add (linesDone.con34 an52_ok rfl)
noncomputable def an54 : Env := addE an53 91 ixTS
theorem an54_ok : EnvOk Tryz.prog an54 := an53_ok.add (linesDone.con27 an53_ok rfl)
noncomputable def an55 : Env := addE an54 90 ctTS
theorem an55_ok : EnvOk Tryz.prog an55 := an54_ok.add (linesDone.con26 an54_ok rfl)
noncomputable def an56 : Env := addE an55 56 linesDone.S56
theorem an56_ok : EnvOk Tryz.prog an56 := an55_ok.add (linesDone.con56 an55_ok rfl rfl)
noncomputable def an57 : Env := addE an56 35 linesDone.S35
theorem an57_ok : EnvOk Tryz.prog an57 := an56_ok.add (linesDone.con35 an56_ok rfl)
noncomputable def an58 : Env := addE an57 57 S57
theorem an58_ok : EnvOk Tryz.prog an58 := an57_ok.add (con57 an57_ok rfl)
noncomputable def an59 : Env := addE an58 36 S36
theorem an59_ok : EnvOk Tryz.prog an59 := an58_ok.add (con36 an58_ok rfl)
noncomputable def an60 : Env := addE an59 65 S65
theorem an60_ok : EnvOk Tryz.prog an60 := an59_ok.add (con65 an59_ok rfl rfl)
noncomputable def an61 : Env := addE an60 38 S38
theorem an61_ok : EnvOk Tryz.prog an61 := an60_ok.add (con38 an60_ok rfl rfl rfl rfl rfl rfl rfl)
noncomputable def an62 : Env := addE an61 12 S12
theorem an62_ok : EnvOk Tryz.prog an62 := an61_ok.add (con12 an61_ok rfl rfl rfl rfl)
noncomputable def an63 : Env := addE an62 11 S11
theorem an63_ok : EnvOk Tryz.prog an63 := an62_ok.add (con11 an62_ok rfl rfl)
noncomputable def an64 : Env := addE an63 14 S14
theorem an64_ok : EnvOk Tryz.prog an64 := an63_ok.add (con14 an63_ok)
noncomputable def an65 : Env := addE an64 72 S72
theorem an65_ok : EnvOk Tryz.prog an65 := an64_ok.add (con72 an64_ok rfl rfl)
noncomputable def an66 : Env := addE an65 40 S40
theorem an66_ok : EnvOk Tryz.prog an66 := an65_ok.add (con40 an65_ok rfl rfl rfl rfl rfl rfl)
noncomputable def an67 : Env := addE an66 13 S13
theorem an67_ok : EnvOk Tryz.prog an67 := an66_ok.add (con13 an66_ok rfl rfl)
noncomputable abbrev anE : Env := an67
theorem anE_ok : EnvOk Tryz.prog anE := an67_ok
end Go.Proofs.YtgemeilncdmapaaGreatDoor.asmDone
end
