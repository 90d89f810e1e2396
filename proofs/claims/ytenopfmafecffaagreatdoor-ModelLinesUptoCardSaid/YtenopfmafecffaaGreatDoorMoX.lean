/- Of the model of a workstation: what stays true; a run, a new disk by the document. Conditions stand in each. -/
import Derived.Test.YtenopfmafecffaaGreatDoorMoW
namespace Go.Proofs.YtenopfmafecffaaGreatDoor.modelDone
open Go Go.Eng Go.Proofs Go.Mdl Go.RowKit
open Go.Lines (pres)
open Go.Proofs.YtenopfmafecffaaGreatDoor.lineDone (cmd refS refV parseP)
set_option linter.unusedVariables false
set_option linter.unusedSimpArgs false
set_option maxRecDepth 100000
set_option maxHeartbeats 4000000
theorem pieces_0 (n : Nat) : 0 ≤ pieces n := by unfold pieces; omega
theorem cost_0 (A : Fs) : 0 ≤ cost A := by
  induction A with
  | nil => exact Int.le_refl _
  | cons x A ih => have := pieces_0 x.2.length; simp only [cost]; omega
theorem cost_split (A : Fs) (i : Nat) : cost (A.take i) + cost (A.drop i) = cost A := by rw [← cost_app, List.take_append_drop]
theorem cost_out {A : Fs} {i : Nat} (h : i < A.length) : cost (out A i) + (1 + pieces (A.getD i default).2.length) = cost A := by
  have h1 := cost_split A (i + 1)
  rw [take_get h, cost_app] at h1
  rw [out, cost_app]
  simp only [cost] at h1 ⊢
  omega
theorem cost_lay {A : Fs} (hs : sorted A) (n : Bytes) : cost (lay1 A n) ≤ cost A := by
  rw [lay1]; split
  · rename_i h
    have := cost_out (has_lt hs h)
    have := pieces_0 (A.getD (pl A n) default).2.length
    omega
  · exact Int.le_refl _
theorem cost_ins {A : Fs} (hs : sorted A) (n d : Bytes) : cost (ins A n d) ≤ cost A + 1 + pieces d.length := by
  have h1 := cost_lay hs n
  have h2 := cost_split (lay1 A n) (pl A n)
  rw [ins_eq, cost_app]
  simp only [cost]
  omega
theorem leaves_mono {a b : Int} (h : a ≤ b) : leaves a ≤ leaves b := by unfold leaves; omega
theorem leaves_0 (n : Nat) : 0 ≤ leaves n := by unfold leaves; omega
theorem write_s {S : Int} {A : Fs} (h : okS S A) (n d : Bytes) : okS S (writeF S A n d).2 := by
  refine ⟨write_ok h.ok, h.lo, h.hi, ?_⟩
  unfold writeF
  split
  · exact h.fr
  split
  · rename_i hf
    have hq := fits_0 hf
    have hfr := h.fr
    have hc := cost_ins h.ok.so n d
    have hl := len_ins h.ok.so n d
    have h0 := leaves_0 A.length
    have e : ((ins A n d).length : Int) = (A.length : Int) + (if has A n then 0 else 1) := by
      rw [hl]; cases has A n <;> simp
    unfold fitsF at hf
    rw [if_neg (by omega), if_neg (by omega)] at hf
    generalize hq' : (A.length : Int) + (if has A n then 0 else 1) = q at *
    by_cases hn : freeF S A < 1 + pieces d.length + leaves q
    · rw [if_pos hn] at hf; omega
    · simp only
      unfold freeF at hn ⊢
      rw [e]; omega
  · exact h.fr
theorem copy_s {S : Int} {A : Fs} (h : okS S A) (a b : Bytes) : okS S (copyF S A a b).2 := by
  unfold copyF; split
  · exact h
  · exact write_s h _ _
theorem rename_s {S : Int} {A : Fs} (h : okS S A) (a b : Bytes) : okS S (renameF S A a b).2 := by
  refine ⟨rename_ok h.ok, h.lo, h.hi, ?_⟩
  unfold renameF
  by_cases c1 : nameB b = false
  · rw [if_pos c1]; exact h.fr
  rw [if_neg c1]
  by_cases c2 : has A a = false
  · rw [if_pos c2]; exact h.fr
  rw [if_neg c2]
  split
  · exact h.fr
  split
  · exact h.fr
  have c2' : has A a = true := by simpa using c2
  have hp := has_lt h.ok.so c2'
  have h1 := cost_out hp
  have h2 := cost_ins (ok_out h.ok c2').so b (dataF A a)
  have h3 := len_out h.ok.so c2'
  have h4 := len_ins (ok_out h.ok c2').so b (dataF A a)
  have h5 : (ins (out A (pl A a)) b (dataF A a)).length ≤ A.length := by rw [h4]; split <;> omega
  have h6 := leaves_mono (a := (ins (out A (pl A a)) b (dataF A a)).length) (b := A.length) (by omega)
  have hfr := h.fr
  simp only
  unfold freeF at hfr ⊢
  unfold dataF at *
  omega
theorem out_s {S : Int} {A : Fs} (h : okS S A) {a : Bytes} (ha : has A a = true) : okS S (out A (pl A a)) := by
  refine ⟨ok_out h.ok ha, h.lo, h.hi, ?_⟩
  have h1 := cost_out (has_lt h.ok.so ha)
  have h3 := len_out h.ok.so ha
  have h6 := leaves_mono (a := (out A (pl A a)).length) (b := A.length) (by omega)
  have h7 := pieces_0 (A.getD (pl A a) default).2.length
  have hfr := h.fr
  unfold freeF at hfr ⊢
  omega
theorem do_s {S : Int} {A : Fs} (h : okS S A) (l : Bytes) : okS S (doF S A l).2 := by
  unfold doF
  have hp := pres_pr l
  generalize (pres l).1 = c at *
  generalize (pres l).2.1 = w at *
  generalize (pres l).2.2.1 = t at *
  generalize (pres l).2.2.2 = e at *
  by_cases c0 : e = 0
  · rw [if_pos c0]
    unfold doC
    by_cases d0 : c = []
    · rw [if_pos d0]; exact h
    rw [if_neg d0]
    by_cases d1 : c = [100, 105, 114]
    · rw [if_pos d1]; exact h
    rw [if_neg d1]
    by_cases d2 : c = [102, 114, 101, 101]
    · rw [if_pos d2]; exact h
    rw [if_neg d2]
    by_cases d3 : c = [112, 117, 116]
    · rw [if_pos d3]; exact write_s h _ _
    rw [if_neg d3]
    by_cases d4 : c = [97, 100, 100]
    · rw [if_pos d4]; exact write_s h _ _
    rw [if_neg d4]
    by_cases d5 : c = [99, 111, 112, 121]
    · rw [if_pos d5]; exact copy_s h _ _
    rw [if_neg d5]
    by_cases d6 : c = [114, 101, 110, 97, 109, 101]
    · rw [if_pos d6]; exact rename_s h _ _
    rw [if_neg d6]
    by_cases d7 : has A (w.getD 0 []) = false
    · rw [if_pos d7]; exact h
    rw [if_neg d7]
    by_cases d8 : c = [115, 104, 111, 119]
    · rw [if_pos d8]; exact h
    rw [if_neg d8]
    by_cases d9 : c = [115, 105, 122, 101]
    · rw [if_pos d9]; exact h
    rw [if_neg d9]
    by_cases d10 : c = [100, 101, 108, 101, 116, 101]
    · rw [if_pos d10]
      by_cases d11 : freeF S A < leaves ((A.length : Int) - 1)
      · rw [if_pos d11]; exact h
      · rw [if_neg d11]; exact out_s h (by simpa using d7)
    rw [if_neg d10]
    exact h
  · rw [if_neg c0]; exact h
/-- all lines of an input: what is told, the files behind -/
def runF (S : Int) : Fs → List Bytes → Bytes × Fs
  | A, [] => ([], A)
  | A, l :: ls => ((doF S A l).1 ++ [62, 32] ++ (runF S (doF S A l).2 ls).1, (runF S (doF S A l).2 ls).2)
/-- a new disk: what is wrong, the files -/
def newF (S : Int) : Fs → Fs → Int × Fs
  | A, [] => (0, A)
  | A, x :: l => if has A x.1 then (175, A) else if nameB x.1 = false then (171, A) else if fitsF S A x.1 x.2.length = 0 then newF S (ins A x.1 x.2) l else (fitsF S A x.1 x.2.length, A)
theorem lay_s {S : Int} {A : Fs} (h : okS S A) {n d : Bytes} (hn : nameB n = true) (hf : fitsF S A n d.length = 0) : okS S (ins A n d) := by
  have := write_s h n d
  unfold writeF at this
  rwa [if_neg (by simp [hn]), if_pos hf] at this
end Go.Proofs.YtenopfmafecffaaGreatDoor.modelDone
