/- Of the model of a workstation: a command line by the document. Conditions stand in each. -/
import Derived.Test.YtenopfmafecffaaGreatDoorPD
import Derived.Test.YtenopfmafecffaaGreatDoorLP
namespace Go.Proofs.YtenopfmafecffaaGreatDoor.modelDone
open Go Go.Eng Go.Proofs Go.Mdl Go.RowKit
open Go.Lines (pres)
open Go.Proofs.YtenopfmafecffaaGreatDoor.lineDone (cmd refS refV parseP)
set_option linter.unusedVariables false
set_option linter.unusedSimpArgs false
set_option maxRecDepth 100000
set_option maxHeartbeats 4000000
structure okS (S : Int) (A : Fs) : Prop where
  ok : okF A
  lo : 0 ≤ S
  hi : S ≤ 1000000000
  fr : 0 ≤ freeF S A
def oldF (A : Fs) (n : Bytes) : Bytes := if has A n then dataF A n else []
/-- what a command tells, and the files behind it -/
def doC (S : Int) (A : Fs) (c : Bytes) (w : List Bytes) (t : Bytes) : Bytes × Fs :=
  if c = [] then ([], A)
  else if c = [100, 105, 114] then (dirF A, A)
  else if c = [102, 114, 101, 101] then (numT (freeF S A), A)
  else if c = [112, 117, 116] then writeF S A (w.getD 0 []) (t ++ [10])
  else if c = [97, 100, 100] then writeF S A (w.getD 0 []) (oldF A (w.getD 0 []) ++ t ++ [10])
  else if c = [99, 111, 112, 121] then copyF S A (w.getD 0 []) (w.getD 1 [])
  else if c = [114, 101, 110, 97, 109, 101] then renameF S A (w.getD 0 []) (w.getD 1 [])
  else if has A (w.getD 0 []) = false then (wrongT 172, A)
  else if c = [115, 104, 111, 119] then (dataF A (w.getD 0 []), A)
  else if c = [115, 105, 122, 101] then (numT (dataF A (w.getD 0 [])).length, A)
  else if c = [100, 101, 108, 101, 116, 101] then (if freeF S A < leaves ((A.length : Int) - 1) then (wrongT 174, A) else ([], out A (pl A (w.getD 0 []))))
  else (if progR (dataF A (w.getD 0 [])) then [] else [63, 32, 49, 57, 57, 10], A)
def doF (S : Int) (A : Fs) (l : Bytes) : Bytes × Fs :=
  if (pres l).2.2.2 = 0 then doC S A (pres l).1 (pres l).2.1 (pres l).2.2.1 else (wrongT (pres l).2.2.2, A)
inductive Cm : Bytes → Nat → Prop
  | free : Cm [102, 114, 101, 101] 0
  | dir : Cm [100, 105, 114] 0
  | size : Cm [115, 105, 122, 101] 1
  | show : Cm [115, 104, 111, 119] 1
  | run : Cm [114, 117, 110] 1
  | delete : Cm [100, 101, 108, 101, 116, 101] 1
  | rename : Cm [114, 101, 110, 97, 109, 101] 2
  | copy : Cm [99, 111, 112, 121] 2
  | put : Cm [112, 117, 116] 1
  | add : Cm [97, 100, 100] 1
theorem cmd_cm {c : Bytes} {k t : Nat} (h : cmd c = some (k, t)) : Cm c k := by
  simp only [cmd] at h
  split at h
  · rename_i h'; simp at h; obtain ⟨rfl, rfl⟩ := h
    rcases h' with rfl | rfl
    · exact .free
    · exact .dir
  split at h
  · rename_i h'; simp at h; obtain ⟨rfl, rfl⟩ := h
    rcases h' with rfl | rfl | rfl | rfl
    · exact .size
    · exact .show
    · exact .run
    · exact .delete
  split at h
  · rename_i h'; simp at h; obtain ⟨rfl, rfl⟩ := h
    rcases h' with rfl | rfl
    · exact .rename
    · exact .copy
  split at h
  · rename_i h'; simp at h; obtain ⟨rfl, rfl⟩ := h
    rcases h' with rfl | rfl
    · exact .put
    · exact .add
  · cases h
/-- what a line can be -/
inductive Pr : Bytes → List Bytes → Bytes → Nat → Prop
  | bad (e : Nat) (h : 0 < e ∧ e ≤ 200) : Pr [] [] [] e
  | nil : Pr [] [] [] 0
  | cm (c : Bytes) (w : List Bytes) (t : Bytes) (h : Cm c w.length) (hw : ∀ x ∈ w, x.length ≤ 200) (ht : t.length ≤ 200) : Pr c w t 0
theorem ws_mem : ∀ (n : Nat) (l : List UInt8), l.length ≤ n → ∀ x ∈ Lines.ws l, x.length ≤ l.length := by
  intro n
  induction n with
  | zero => intro l h; rw [show l = [] from List.eq_nil_of_length_eq_zero (by omega), Lines.ws_nil]; simp
  | succ n ih =>
    intro l h x hx
    rw [Lines.ws] at hx
    split at hx
    · cases hx
    · rename_i hne
      have := Lines.wTo_le l
      have : Lines.wFrom l ≤ Lines.wTo l := by unfold Lines.wTo; omega
      rcases List.mem_cons.1 hx with rfl | hx
      · simp only [List.length_drop, List.length_take]; omega
      · have := ih (l.drop (Lines.wTo l)) (by simp; omega) x hx
        rw [List.length_drop] at this; omega
theorem aft_len (l : List UInt8) : ∀ n, (Lines.aft n l).length ≤ l.length
  | 0 => Nat.le_refl _
  | n + 1 => by
    have := aft_len l n
    rw [Lines.aft, List.length_drop]; omega
theorem text_len (l : List UInt8) (n : Nat) : (Lines.text n l).length ≤ l.length := by
  have := aft_len l n
  rw [Lines.text, List.length_drop]; omega
theorem pres_pr (l : Bytes) : Pr (pres l).1 (pres l).2.1 (pres l).2.2.1 (pres l).2.2.2 := by
  by_cases hl : 200 < l.length
  · rw [Lines.pres_long hl]; exact .bad 190 (by omega)
  cases hw : Lines.ws l with
  | nil => rw [Lines.pres_nil (by omega) hw]; exact .nil
  | cons w r =>
    cases hc : cmd w with
    | none => rw [Lines.pres_none (by omega) hw hc]; exact .bad 191 (by omega)
    | some p =>
      obtain ⟨k, t⟩ := p
      by_cases hk : r.length < k ∨ (k < r.length ∧ t = 0)
      · rw [Lines.pres_bad (by omega) hw hc hk]; exact .bad 192 (by omega)
      · rw [Lines.pres_good (by omega) hw hc hk]
        refine .cm _ _ _ ?_ ?_ ?_
        · rw [List.length_take, Nat.min_eq_left (by omega)]; exact cmd_cm hc
        · intro x hx
          have hx' : x ∈ Lines.ws l := by rw [hw]; exact List.mem_cons_of_mem _ (List.mem_of_mem_take hx)
          have := ws_mem l.length l (Nat.le_refl _) x hx'
          omega
        · have := text_len l (k + 1)
          simp only
          omega
theorem len_sum (a b : Bytes) : (a ++ b).length = a.length + b.length := List.length_append
theorem q_dir_e : (([100, 105, 114] : Bytes) == []) = false := by decide
theorem q_dir_dir : (([100, 105, 114] : Bytes) == [100, 105, 114]) = true := by decide
theorem q_dir_free : (([100, 105, 114] : Bytes) == [102, 114, 101, 101]) = false := by decide
theorem q_dir_put : (([100, 105, 114] : Bytes) == [112, 117, 116]) = false := by decide
theorem q_dir_add : (([100, 105, 114] : Bytes) == [97, 100, 100]) = false := by decide
theorem q_dir_copy : (([100, 105, 114] : Bytes) == [99, 111, 112, 121]) = false := by decide
theorem q_dir_rename : (([100, 105, 114] : Bytes) == [114, 101, 110, 97, 109, 101]) = false := by decide
theorem q_dir_show : (([100, 105, 114] : Bytes) == [115, 104, 111, 119]) = false := by decide
theorem q_dir_size : (([100, 105, 114] : Bytes) == [115, 105, 122, 101]) = false := by decide
theorem q_dir_delete : (([100, 105, 114] : Bytes) == [100, 101, 108, 101, 116, 101]) = false := by decide
theorem q_free_e : (([102, 114, 101, 101] : Bytes) == []) = false := by decide
theorem q_free_dir : (([102, 114, 101, 101] : Bytes) == [100, 105, 114]) = false := by decide
theorem q_free_free : (([102, 114, 101, 101] : Bytes) == [102, 114, 101, 101]) = true := by decide
theorem q_free_put : (([102, 114, 101, 101] : Bytes) == [112, 117, 116]) = false := by decide
theorem q_free_add : (([102, 114, 101, 101] : Bytes) == [97, 100, 100]) = false := by decide
theorem q_free_copy : (([102, 114, 101, 101] : Bytes) == [99, 111, 112, 121]) = false := by decide
theorem q_free_rename : (([102, 114, 101, 101] : Bytes) == [114, 101, 110, 97, 109, 101]) = false := by decide
theorem q_free_show : (([102, 114, 101, 101] : Bytes) == [115, 104, 111, 119]) = false := by decide
theorem q_free_size : (([102, 114, 101, 101] : Bytes) == [115, 105, 122, 101]) = false := by decide
theorem q_free_delete : (([102, 114, 101, 101] : Bytes) == [100, 101, 108, 101, 116, 101]) = false := by decide
theorem q_put_e : (([112, 117, 116] : Bytes) == []) = false := by decide
theorem q_put_dir : (([112, 117, 116] : Bytes) == [100, 105, 114]) = false := by decide
theorem q_put_free : (([112, 117, 116] : Bytes) == [102, 114, 101, 101]) = false := by decide
theorem q_put_put : (([112, 117, 116] : Bytes) == [112, 117, 116]) = true := by decide
theorem q_put_add : (([112, 117, 116] : Bytes) == [97, 100, 100]) = false := by decide
theorem q_put_copy : (([112, 117, 116] : Bytes) == [99, 111, 112, 121]) = false := by decide
theorem q_put_rename : (([112, 117, 116] : Bytes) == [114, 101, 110, 97, 109, 101]) = false := by decide
theorem q_put_show : (([112, 117, 116] : Bytes) == [115, 104, 111, 119]) = false := by decide
theorem q_put_size : (([112, 117, 116] : Bytes) == [115, 105, 122, 101]) = false := by decide
theorem q_put_delete : (([112, 117, 116] : Bytes) == [100, 101, 108, 101, 116, 101]) = false := by decide
theorem q_add_e : (([97, 100, 100] : Bytes) == []) = false := by decide
theorem q_add_dir : (([97, 100, 100] : Bytes) == [100, 105, 114]) = false := by decide
theorem q_add_free : (([97, 100, 100] : Bytes) == [102, 114, 101, 101]) = false := by decide
theorem q_add_put : (([97, 100, 100] : Bytes) == [112, 117, 116]) = false := by decide
theorem q_add_add : (([97, 100, 100] : Bytes) == [97, 100, 100]) = true := by decide
theorem q_add_copy : (([97, 100, 100] : Bytes) == [99, 111, 112, 121]) = false := by decide
theorem q_add_rename : (([97, 100, 100] : Bytes) == [114, 101, 110, 97, 109, 101]) = false := by decide
theorem q_add_show : (([97, 100, 100] : Bytes) == [115, 104, 111, 119]) = false := by decide
theorem q_add_size : (([97, 100, 100] : Bytes) == [115, 105, 122, 101]) = false := by decide
theorem q_add_delete : (([97, 100, 100] : Bytes) == [100, 101, 108, 101, 116, 101]) = false := by decide
theorem q_copy_e : (([99, 111, 112, 121] : Bytes) == []) = false := by decide
theorem q_copy_dir : (([99, 111, 112, 121] : Bytes) == [100, 105, 114]) = false := by decide
theorem q_copy_free : (([99, 111, 112, 121] : Bytes) == [102, 114, 101, 101]) = false := by decide
theorem q_copy_put : (([99, 111, 112, 121] : Bytes) == [112, 117, 116]) = false := by decide
theorem q_copy_add : (([99, 111, 112, 121] : Bytes) == [97, 100, 100]) = false := by decide
theorem q_copy_copy : (([99, 111, 112, 121] : Bytes) == [99, 111, 112, 121]) = true := by decide
theorem q_copy_rename : (([99, 111, 112, 121] : Bytes) == [114, 101, 110, 97, 109, 101]) = false := by decide
theorem q_copy_show : (([99, 111, 112, 121] : Bytes) == [115, 104, 111, 119]) = false := by decide
theorem q_copy_size : (([99, 111, 112, 121] : Bytes) == [115, 105, 122, 101]) = false := by decide
theorem q_copy_delete : (([99, 111, 112, 121] : Bytes) == [100, 101, 108, 101, 116, 101]) = false := by decide
theorem q_rename_e : (([114, 101, 110, 97, 109, 101] : Bytes) == []) = false := by decide
theorem q_rename_dir : (([114, 101, 110, 97, 109, 101] : Bytes) == [100, 105, 114]) = false := by decide
theorem q_rename_free : (([114, 101, 110, 97, 109, 101] : Bytes) == [102, 114, 101, 101]) = false := by decide
theorem q_rename_put : (([114, 101, 110, 97, 109, 101] : Bytes) == [112, 117, 116]) = false := by decide
theorem q_rename_add : (([114, 101, 110, 97, 109, 101] : Bytes) == [97, 100, 100]) = false := by decide
theorem q_rename_copy : (([114, 101, 110, 97, 109, 101] : Bytes) == [99, 111, 112, 121]) = false := by decide
theorem q_rename_rename : (([114, 101, 110, 97, 109, 101] : Bytes) == [114, 101, 110, 97, 109, 101]) = true := by decide
theorem q_rename_show : (([114, 101, 110, 97, 109, 101] : Bytes) == [115, 104, 111, 119]) = false := by decide
theorem q_rename_size : (([114, 101, 110, 97, 109, 101] : Bytes) == [115, 105, 122, 101]) = false := by decide
theorem q_rename_delete : (([114, 101, 110, 97, 109, 101] : Bytes) == [100, 101, 108, 101, 116, 101]) = false := by decide
theorem q_show_e : (([115, 104, 111, 119] : Bytes) == []) = false := by decide
theorem q_show_dir : (([115, 104, 111, 119] : Bytes) == [100, 105, 114]) = false := by decide
theorem q_show_free : (([115, 104, 111, 119] : Bytes) == [102, 114, 101, 101]) = false := by decide
theorem q_show_put : (([115, 104, 111, 119] : Bytes) == [112, 117, 116]) = false := by decide
theorem q_show_add : (([115, 104, 111, 119] : Bytes) == [97, 100, 100]) = false := by decide
theorem q_show_copy : (([115, 104, 111, 119] : Bytes) == [99, 111, 112, 121]) = false := by decide
theorem q_show_rename : (([115, 104, 111, 119] : Bytes) == [114, 101, 110, 97, 109, 101]) = false := by decide
theorem q_show_show : (([115, 104, 111, 119] : Bytes) == [115, 104, 111, 119]) = true := by decide
theorem q_show_size : (([115, 104, 111, 119] : Bytes) == [115, 105, 122, 101]) = false := by decide
theorem q_show_delete : (([115, 104, 111, 119] : Bytes) == [100, 101, 108, 101, 116, 101]) = false := by decide
theorem q_size_e : (([115, 105, 122, 101] : Bytes) == []) = false := by decide
theorem q_size_dir : (([115, 105, 122, 101] : Bytes) == [100, 105, 114]) = false := by decide
theorem q_size_free : (([115, 105, 122, 101] : Bytes) == [102, 114, 101, 101]) = false := by decide
theorem q_size_put : (([115, 105, 122, 101] : Bytes) == [112, 117, 116]) = false := by decide
theorem q_size_add : (([115, 105, 122, 101] : Bytes) == [97, 100, 100]) = false := by decide
theorem q_size_copy : (([115, 105, 122, 101] : Bytes) == [99, 111, 112, 121]) = false := by decide
theorem q_size_rename : (([115, 105, 122, 101] : Bytes) == [114, 101, 110, 97, 109, 101]) = false := by decide
theorem q_size_show : (([115, 105, 122, 101] : Bytes) == [115, 104, 111, 119]) = false := by decide
theorem q_size_size : (([115, 105, 122, 101] : Bytes) == [115, 105, 122, 101]) = true := by decide
theorem q_size_delete : (([115, 105, 122, 101] : Bytes) == [100, 101, 108, 101, 116, 101]) = false := by decide
theorem q_delete_e : (([100, 101, 108, 101, 116, 101] : Bytes) == []) = false := by decide
theorem q_delete_dir : (([100, 101, 108, 101, 116, 101] : Bytes) == [100, 105, 114]) = false := by decide
theorem q_delete_free : (([100, 101, 108, 101, 116, 101] : Bytes) == [102, 114, 101, 101]) = false := by decide
theorem q_delete_put : (([100, 101, 108, 101, 116, 101] : Bytes) == [112, 117, 116]) = false := by decide
theorem q_delete_add : (([100, 101, 108, 101, 116, 101] : Bytes) == [97, 100, 100]) = false := by decide
theorem q_delete_copy : (([100, 101, 108, 101, 116, 101] : Bytes) == [99, 111, 112, 121]) = false := by decide
theorem q_delete_rename : (([100, 101, 108, 101, 116, 101] : Bytes) == [114, 101, 110, 97, 109, 101]) = false := by decide
theorem q_delete_show : (([100, 101, 108, 101, 116, 101] : Bytes) == [115, 104, 111, 119]) = false := by decide
theorem q_delete_size : (([100, 101, 108, 101, 116, 101] : Bytes) == [115, 105, 122, 101]) = false := by decide
theorem q_delete_delete : (([100, 101, 108, 101, 116, 101] : Bytes) == [100, 101, 108, 101, 116, 101]) = true := by decide
theorem q_run_e : (([114, 117, 110] : Bytes) == []) = false := by decide
theorem q_run_dir : (([114, 117, 110] : Bytes) == [100, 105, 114]) = false := by decide
theorem q_run_free : (([114, 117, 110] : Bytes) == [102, 114, 101, 101]) = false := by decide
theorem q_run_put : (([114, 117, 110] : Bytes) == [112, 117, 116]) = false := by decide
theorem q_run_add : (([114, 117, 110] : Bytes) == [97, 100, 100]) = false := by decide
theorem q_run_copy : (([114, 117, 110] : Bytes) == [99, 111, 112, 121]) = false := by decide
theorem q_run_rename : (([114, 117, 110] : Bytes) == [114, 101, 110, 97, 109, 101]) = false := by decide
theorem q_run_show : (([114, 117, 110] : Bytes) == [115, 104, 111, 119]) = false := by decide
theorem q_run_size : (([114, 117, 110] : Bytes) == [115, 105, 122, 101]) = false := by decide
theorem q_run_delete : (([114, 117, 110] : Bytes) == [100, 101, 108, 101, 116, 101]) = false := by decide
theorem do_dir (S : Int) (A : Fs) (w : List Bytes) (t : Bytes) : doC S A [100, 105, 114] w t = (dirF A, A) := by simp [doC]
theorem do_free (S : Int) (A : Fs) (w : List Bytes) (t : Bytes) : doC S A [102, 114, 101, 101] w t = (numT (freeF S A), A) := by simp [doC]
theorem do_put (S : Int) (A : Fs) (a : Bytes) (t : Bytes) : doC S A [112, 117, 116] [a] t = writeF S A a (t ++ [10]) := by simp [doC]
theorem do_add (S : Int) (A : Fs) (a : Bytes) (t : Bytes) : doC S A [97, 100, 100] [a] t = writeF S A a (oldF A a ++ t ++ [10]) := by simp [doC]
theorem do_copy (S : Int) (A : Fs) (a b : Bytes) (t : Bytes) : doC S A [99, 111, 112, 121] [a, b] t = copyF S A a b := by simp [doC]
theorem do_rename (S : Int) (A : Fs) (a b : Bytes) (t : Bytes) : doC S A [114, 101, 110, 97, 109, 101] [a, b] t = renameF S A a b := by simp [doC]
theorem do_show (S : Int) (A : Fs) (a : Bytes) (t : Bytes) (h : has A a = true) : doC S A [115, 104, 111, 119] [a] t = (dataF A a, A) := by simp [doC, h]
theorem dn_show (S : Int) (A : Fs) (a : Bytes) (t : Bytes) (h : has A a = false) : doC S A [115, 104, 111, 119] [a] t = (wrongT 172, A) := by simp [doC, h]
theorem do_size (S : Int) (A : Fs) (a : Bytes) (t : Bytes) (h : has A a = true) : doC S A [115, 105, 122, 101] [a] t = (numT (dataF A a).length, A) := by simp [doC, h]
theorem dn_size (S : Int) (A : Fs) (a : Bytes) (t : Bytes) (h : has A a = false) : doC S A [115, 105, 122, 101] [a] t = (wrongT 172, A) := by simp [doC, h]
theorem do_delete (S : Int) (A : Fs) (a : Bytes) (t : Bytes) (h : has A a = true) : doC S A [100, 101, 108, 101, 116, 101] [a] t = (if freeF S A < leaves ((A.length : Int) - 1) then (wrongT 174, A) else ([], out A (pl A a))) := by simp [doC, h]
theorem dn_delete (S : Int) (A : Fs) (a : Bytes) (t : Bytes) (h : has A a = false) : doC S A [100, 101, 108, 101, 116, 101] [a] t = (wrongT 172, A) := by simp [doC, h]
theorem do_run (S : Int) (A : Fs) (a : Bytes) (t : Bytes) (h : has A a = true) : doC S A [114, 117, 110] [a] t = (if progR (dataF A a) then [] else [63, 32, 49, 57, 57, 10], A) := by simp [doC, h]
theorem dn_run (S : Int) (A : Fs) (a : Bytes) (t : Bytes) (h : has A a = false) : doC S A [114, 117, 110] [a] t = (wrongT 172, A) := by simp [doC, h]
theorem toN1 : Int.toNat 1 = 1 := rfl
theorem gd1 (a b : AV) (d : AV) : [a, b].getD 1 d = b := rfl
def e13 : (Fs) × (Int) × (Bytes) → List AV × Heap := fun (A, S, l) => ([.ref 0 0 0, .str l], [.row [.sl (A.flatMap fc) A.length, .int .i64 S] 2 0])
def p13 : (Fs) × (Int) × (Bytes) → Prop := fun (A, S, l) => okS S A
def r13 : (Fs) × (Int) × (Bytes) → AV := fun (A, S, l) => .str (doF S A l).1
def g13 : (Fs) × (Int) × (Bytes) → Heap := fun (A, S, l) => [.row [.sl ((doF S A l).2.flatMap fc) (doF S A l).2.length, .int .i64 S] 2 0]
theorem inj13 : ∀ a b, e13 a = e13 b → a = b := by
  rintro ⟨A, S, l⟩ ⟨A', S', l'⟩ h
  simp only [e13, mi_iff, ms_iff, mb_iff, my_iff, UInt8.toNat_inj, fc_iff, Prod.mk.injEq, List.cons.injEq, AObj.row.injEq, AV.int.injEq, AV.str.injEq, AV.bool.injEq, AV.sl.injEq, AV.agg.injEq, AV.ip.injEq, AV.fn.injEq, AV.ifc.injEq, AV.mpr.injEq, AV.msl.injEq, AV.ref.injEq, Int.natCast_inj, and_true, true_and] at h
  simp_all only
noncomputable def S13 : FSpec := heapE false e13 p13 r13 g13
theorem ps13 (A : (Fs)) (S : (Int)) (l : (Bytes)) : pselK e13 p13 ([.ref 0 0 0, .str l], [.row [.sl (A.flatMap fc) A.length, .int .i64 S] 2 0]) = (okS S A) := pselK_at inj13 p13 (A, S, l)
theorem rs13 (A : (Fs)) (S : (Int)) (l : (Bytes)) : rselK e13 r13 .any ([.ref 0 0 0, .str l], [.row [.sl (A.flatMap fc) A.length, .int .i64 S] 2 0]) = (.str (doF S A l).1) := rselK_at inj13 r13 .any (A, S, l)
theorem hs13 (A : (Fs)) (S : (Int)) (l : (Bytes)) : rselK e13 g13 [] ([.ref 0 0 0, .str l], [.row [.sl (A.flatMap fc) A.length, .int .i64 S] 2 0]) = ([.row [.sl ((doF S A l).2.flatMap fc) (doF S A l).2.length, .int .i64 S] 2 0]) := rselK_at inj13 g13 [] (A, S, l)
attribute [push_cast] S13 ps13 rs13 hs13
theorem body13 (Γ : Env) (h17 : Γ 17 = some S17) (h25 : Γ 25 = some S25) (h31 : Γ 31 = some refS) (h32 : Γ 32 = some S32) (h33 : Γ 33 = some S33) (h34 : Γ 34 = some S34) (h35 : Γ 35 = some S35) (h36 : Γ 36 = some S36) (h37 : Γ 37 = some S37) (h38 : Γ 38 = some S38) (h39 : Γ 39 = some S39) (h40 : Γ 40 = some S40) (A : Fs) (S : Int) (l : Bytes) (hA : okS S A) : BodyOk Tryz.prog Γ Tryz.f13 [.ref 0 0 0, .str l] [.row [.sl (A.flatMap fc) A.length, .int .i64 S] 2 0] (.str (doF S A l).1) [.row [.sl ((doF S A l).2.flatMap fc) (doF S A l).2.length, .int .i64 S] 2 0] := by
  have hP := pres_pr l
  have hfb := free_b hA.ok S ⟨hA.lo, hA.hi⟩
  have hfr := hA.fr
  have hl := hA.ok.le
  have hpre : parseP [.str l] := trivial
  unfold doF
  (intro X hP hΓ hL hfin; refine ⟨_, rfl, ?_⟩; rw [show Tryz.f13.ntmps = 127 from rfl]; rw [show Tryz.f13.results.toList = [.tmp 4] from rfl] at hfin; apply holds_of_ex X 400; simp (maxSteps := 1000000) only [push_cast, reduceCtorEq, Nat.reduceAdd, Nat.reduceMul, Nat.reduceSub, Nat.reduceBEq, Nat.reduceGT, Nat.reduceLT, Int.toNat_zero, Nat.reduceLeDiff, Int.reduceEq, Int.reduceLT, Int.reduceLE, hP, hΓ, hL, hfin, String.reduceEq, not_false_eq_true, if_true, fz0, fz1, bytesLess_eq, h31])
  generalize (pres l).1 = c at *
  generalize (pres l).2.1 = w at *
  generalize (pres l).2.2.1 = t at *
  generalize (pres l).2.2.2 = e at *
  cases hP with
  | bad e he =>
    have h1 : ¬ (e : Int) = 0 := by omega
    have h2 : ¬ e = 0 := by omega
    ((first | with_reducible refine holds_of_ex X 400 _ _ _ ?_ | skip); simp (maxSteps := 1000000) only [push_cast, reduceCtorEq, Nat.reduceAdd, Nat.reduceMul, Nat.reduceSub, Nat.reduceBEq, Nat.reduceGT, Nat.reduceLT, Int.toNat_zero, Nat.reduceLeDiff, Int.reduceEq, Int.reduceLT, Int.reduceLE, hP, hΓ, hL, hfin, String.reduceEq, not_false_eq_true, if_true, fz0, fz1, bytesLess_eq, h1, h2, h32])
    refine ⟨by omega, ?_⟩
    exact Into.sameA
  | nil =>
    ((first | with_reducible refine holds_of_ex X 400 _ _ _ ?_ | skip); simp (maxSteps := 1000000) only [push_cast, reduceCtorEq, Nat.reduceAdd, Nat.reduceMul, Nat.reduceSub, Nat.reduceBEq, Nat.reduceGT, Nat.reduceLT, Int.toNat_zero, Nat.reduceLeDiff, Int.reduceEq, Int.reduceLT, Int.reduceLE, hP, hΓ, hL, hfin, String.reduceEq, not_false_eq_true, if_true, fz0, fz1, bytesLess_eq])
    rw [doC, if_pos rfl]
    exact Into.sameA
  | cm c w t hc hw ht =>
    have hok := hA.ok
    have hlo := hA.lo
    have hhi := hA.hi
    have one : ∀ k, w.length = k → k = 1 → ∃ a, w = [a] := fun k h1 h2 => List.length_eq_one_iff.1 (h1.trans h2)
    have two : ∀ k, w.length = k → k = 2 → ∃ a b, w = [a, b] := fun k h1 h2 => by
      match w, h1.trans h2 with
      | [a, b], _ => exact ⟨a, b, rfl⟩
    generalize hk : w.length = k at hc
    cases hc with
    | free =>
      ((first | with_reducible refine holds_of_ex X 400 _ _ _ ?_ | skip); simp (maxSteps := 1000000) only [push_cast, reduceCtorEq, Nat.reduceAdd, Nat.reduceMul, Nat.reduceSub, Nat.reduceBEq, Nat.reduceGT, Nat.reduceLT, Int.toNat_zero, Nat.reduceLeDiff, Int.reduceEq, Int.reduceLT, Int.reduceLE, hP, hΓ, hL, hfin, String.reduceEq, not_false_eq_true, if_true, fz0, fz1, bytesLess_eq, q_free_e, q_free_dir, q_free_free, q_free_put, q_free_add, q_free_copy, q_free_rename, q_free_show, q_free_size, q_free_delete, h17, h34])
      rw [do_free, numT]
      refine ⟨⟨hok, hlo, hhi⟩, ⟨hfr, hfb.2⟩, ?_⟩
      have hdd : (dec (freeF S A)).length ≤ 10 := by rw [dec]; exact dec_len _ (by omega)
      refine ⟨by omega, ?_⟩
      exact Into.sameA
    | dir =>
      ((first | with_reducible refine holds_of_ex X 400 _ _ _ ?_ | skip); simp (maxSteps := 1000000) only [push_cast, reduceCtorEq, Nat.reduceAdd, Nat.reduceMul, Nat.reduceSub, Nat.reduceBEq, Nat.reduceGT, Nat.reduceLT, Int.toNat_zero, Nat.reduceLeDiff, Int.reduceEq, Int.reduceLT, Int.reduceLE, hP, hΓ, hL, hfin, String.reduceEq, not_false_eq_true, if_true, fz0, fz1, bytesLess_eq, q_dir_e, q_dir_dir, q_dir_free, q_dir_put, q_dir_add, q_dir_copy, q_dir_rename, q_dir_show, q_dir_size, q_dir_delete, h33])
      rw [do_dir]
      refine ⟨hok, ?_⟩
      exact Into.sameA
    | size =>
      obtain ⟨a, rfl⟩ := one _ hk rfl
      have ha := hw a (by simp)
      ((first | with_reducible refine holds_of_ex X 400 _ _ _ ?_ | skip); simp (maxSteps := 1000000) only [push_cast, reduceCtorEq, Nat.reduceAdd, Nat.reduceMul, Nat.reduceSub, Nat.reduceBEq, Nat.reduceGT, Nat.reduceLT, Int.toNat_zero, Nat.reduceLeDiff, Int.reduceEq, Int.reduceLT, Int.reduceLE, hP, hΓ, hL, hfin, String.reduceEq, not_false_eq_true, if_true, fz0, fz1, bytesLess_eq, q_size_e, q_size_dir, q_size_free, q_size_put, q_size_add, q_size_copy, q_size_rename, q_size_show, q_size_size, q_size_delete, h25])
      refine ⟨by omega, ?_⟩
      cases hh : has A a
      case true =>
        have hp := has_lt hok.so hh
        have hp' : (pl A a : Int) < A.length := by omega
        have hp2 : 0 < A.length * 2 - pl A a * 2 := by omega
        have hp3 : 1 < A.length * 2 - pl A a * 2 := by omega
        have hp4 : 0 < A.length * 2 - pl A a * 2 - 1 := by omega
        have hg : (A.getD (pl A a) default).2 = dataF A a := rfl
        have hdl := data_le hok a
        ((first | with_reducible refine holds_of_ex X 400 _ _ _ ?_ | skip); simp (maxSteps := 1000000) only [push_cast, reduceCtorEq, Nat.reduceAdd, Nat.reduceMul, Nat.reduceSub, Nat.reduceBEq, Nat.reduceGT, Nat.reduceLT, Int.toNat_zero, Nat.reduceLeDiff, Int.reduceEq, Int.reduceLT, Int.reduceLE, hP, hΓ, hL, hfin, String.reduceEq, not_false_eq_true, if_true, fz0, fz1, bytesLess_eq, hh, hp', hp2, hp3, hp4, hg, h34, q_size_e, q_size_dir, q_size_free, q_size_put, q_size_add, q_size_copy, q_size_rename, q_size_show, q_size_size, q_size_delete])
        have hdd : (dec (dataF A a).length).length ≤ 10 := by rw [dec, Int.toNat_natCast]; exact dec_len _ (by omega)
        rw [do_size _ _ _ _ hh, numT]
        refine ⟨by omega, by omega, by omega, ?_⟩
        exact Into.sameA
      case false =>
        ((first | with_reducible refine holds_of_ex X 400 _ _ _ ?_ | skip); simp (maxSteps := 1000000) only [push_cast, reduceCtorEq, Nat.reduceAdd, Nat.reduceMul, Nat.reduceSub, Nat.reduceBEq, Nat.reduceGT, Nat.reduceLT, Int.toNat_zero, Nat.reduceLeDiff, Int.reduceEq, Int.reduceLT, Int.reduceLE, hP, hΓ, hL, hfin, String.reduceEq, not_false_eq_true, if_true, fz0, fz1, bytesLess_eq, hh, h32, q_size_e, q_size_dir, q_size_free, q_size_put, q_size_add, q_size_copy, q_size_rename, q_size_show, q_size_size, q_size_delete])
        rw [dn_size _ _ _ _ hh]
        refine ⟨by omega, ?_⟩
        exact Into.sameA
    | «show» =>
      obtain ⟨a, rfl⟩ := one _ hk rfl
      have ha := hw a (by simp)
      ((first | with_reducible refine holds_of_ex X 400 _ _ _ ?_ | skip); simp (maxSteps := 1000000) only [push_cast, reduceCtorEq, Nat.reduceAdd, Nat.reduceMul, Nat.reduceSub, Nat.reduceBEq, Nat.reduceGT, Nat.reduceLT, Int.toNat_zero, Nat.reduceLeDiff, Int.reduceEq, Int.reduceLT, Int.reduceLE, hP, hΓ, hL, hfin, String.reduceEq, not_false_eq_true, if_true, fz0, fz1, bytesLess_eq, q_show_e, q_show_dir, q_show_free, q_show_put, q_show_add, q_show_copy, q_show_rename, q_show_show, q_show_size, q_show_delete, h25])
      refine ⟨by omega, ?_⟩
      cases hh : has A a
      case true =>
        have hp := has_lt hok.so hh
        have hp' : (pl A a : Int) < A.length := by omega
        have hp2 : 0 < A.length * 2 - pl A a * 2 := by omega
        have hp3 : 1 < A.length * 2 - pl A a * 2 := by omega
        have hp4 : 0 < A.length * 2 - pl A a * 2 - 1 := by omega
        have hg : (A.getD (pl A a) default).2 = dataF A a := rfl
        have hdl := data_le hok a
        ((first | with_reducible refine holds_of_ex X 400 _ _ _ ?_ | skip); simp (maxSteps := 1000000) only [push_cast, reduceCtorEq, Nat.reduceAdd, Nat.reduceMul, Nat.reduceSub, Nat.reduceBEq, Nat.reduceGT, Nat.reduceLT, Int.toNat_zero, Nat.reduceLeDiff, Int.reduceEq, Int.reduceLT, Int.reduceLE, hP, hΓ, hL, hfin, String.reduceEq, not_false_eq_true, if_true, fz0, fz1, bytesLess_eq, hh, hp', hp2, hp3, hp4, hg, h34, q_show_e, q_show_dir, q_show_free, q_show_put, q_show_add, q_show_copy, q_show_rename, q_show_show, q_show_size, q_show_delete])
        rw [do_show _ _ _ _ hh]
        refine ⟨by omega, ?_⟩
        exact Into.sameA
      case false =>
        ((first | with_reducible refine holds_of_ex X 400 _ _ _ ?_ | skip); simp (maxSteps := 1000000) only [push_cast, reduceCtorEq, Nat.reduceAdd, Nat.reduceMul, Nat.reduceSub, Nat.reduceBEq, Nat.reduceGT, Nat.reduceLT, Int.toNat_zero, Nat.reduceLeDiff, Int.reduceEq, Int.reduceLT, Int.reduceLE, hP, hΓ, hL, hfin, String.reduceEq, not_false_eq_true, if_true, fz0, fz1, bytesLess_eq, hh, h32, q_show_e, q_show_dir, q_show_free, q_show_put, q_show_add, q_show_copy, q_show_rename, q_show_show, q_show_size, q_show_delete])
        rw [dn_show _ _ _ _ hh]
        refine ⟨by omega, ?_⟩
        exact Into.sameA
    | run =>
      obtain ⟨a, rfl⟩ := one _ hk rfl
      have ha := hw a (by simp)
      ((first | with_reducible refine holds_of_ex X 400 _ _ _ ?_ | skip); simp (maxSteps := 1000000) only [push_cast, reduceCtorEq, Nat.reduceAdd, Nat.reduceMul, Nat.reduceSub, Nat.reduceBEq, Nat.reduceGT, Nat.reduceLT, Int.toNat_zero, Nat.reduceLeDiff, Int.reduceEq, Int.reduceLT, Int.reduceLE, hP, hΓ, hL, hfin, String.reduceEq, not_false_eq_true, if_true, fz0, fz1, bytesLess_eq, q_run_e, q_run_dir, q_run_free, q_run_put, q_run_add, q_run_copy, q_run_rename, q_run_show, q_run_size, q_run_delete, h25])
      refine ⟨by omega, ?_⟩
      cases hh : has A a
      case true =>
        have hp := has_lt hok.so hh
        have hp' : (pl A a : Int) < A.length := by omega
        have hp2 : 0 < A.length * 2 - pl A a * 2 := by omega
        have hp3 : 1 < A.length * 2 - pl A a * 2 := by omega
        have hp4 : 0 < A.length * 2 - pl A a * 2 - 1 := by omega
        have hg : (A.getD (pl A a) default).2 = dataF A a := rfl
        have hdl := data_le hok a
        ((first | with_reducible refine holds_of_ex X 400 _ _ _ ?_ | skip); simp (maxSteps := 1000000) only [push_cast, reduceCtorEq, Nat.reduceAdd, Nat.reduceMul, Nat.reduceSub, Nat.reduceBEq, Nat.reduceGT, Nat.reduceLT, Int.toNat_zero, Nat.reduceLeDiff, Int.reduceEq, Int.reduceLT, Int.reduceLE, hP, hΓ, hL, hfin, String.reduceEq, not_false_eq_true, if_true, fz0, fz1, bytesLess_eq, hh, hp', hp2, hp3, hp4, hg, h40, q_run_e, q_run_dir, q_run_free, q_run_put, q_run_add, q_run_copy, q_run_rename, q_run_show, q_run_size, q_run_delete])
        refine ⟨by omega, by omega, ?_⟩
        cases hq : progR (dataF A a)
        case true =>
          ((first | with_reducible refine holds_of_ex X 400 _ _ _ ?_ | skip); simp (maxSteps := 1000000) only [push_cast, reduceCtorEq, Nat.reduceAdd, Nat.reduceMul, Nat.reduceSub, Nat.reduceBEq, Nat.reduceGT, Nat.reduceLT, Int.toNat_zero, Nat.reduceLeDiff, Int.reduceEq, Int.reduceLT, Int.reduceLE, hP, hΓ, hL, hfin, String.reduceEq, not_false_eq_true, if_true, fz0, fz1, bytesLess_eq, hq])
          rw [do_run _ _ _ _ hh, hq]
          exact Into.sameA
        case false =>
          ((first | with_reducible refine holds_of_ex X 400 _ _ _ ?_ | skip); simp (maxSteps := 1000000) only [push_cast, reduceCtorEq, Nat.reduceAdd, Nat.reduceMul, Nat.reduceSub, Nat.reduceBEq, Nat.reduceGT, Nat.reduceLT, Int.toNat_zero, Nat.reduceLeDiff, Int.reduceEq, Int.reduceLT, Int.reduceLE, hP, hΓ, hL, hfin, String.reduceEq, not_false_eq_true, if_true, fz0, fz1, bytesLess_eq, hq])
          rw [do_run _ _ _ _ hh, hq]
          exact Into.sameA
      case false =>
        ((first | with_reducible refine holds_of_ex X 400 _ _ _ ?_ | skip); simp (maxSteps := 1000000) only [push_cast, reduceCtorEq, Nat.reduceAdd, Nat.reduceMul, Nat.reduceSub, Nat.reduceBEq, Nat.reduceGT, Nat.reduceLT, Int.toNat_zero, Nat.reduceLeDiff, Int.reduceEq, Int.reduceLT, Int.reduceLE, hP, hΓ, hL, hfin, String.reduceEq, not_false_eq_true, if_true, fz0, fz1, bytesLess_eq, hh, h32, q_run_e, q_run_dir, q_run_free, q_run_put, q_run_add, q_run_copy, q_run_rename, q_run_show, q_run_size, q_run_delete])
        rw [dn_run _ _ _ _ hh]
        refine ⟨by omega, ?_⟩
        exact Into.sameA
    | delete =>
      obtain ⟨a, rfl⟩ := one _ hk rfl
      have ha := hw a (by simp)
      ((first | with_reducible refine holds_of_ex X 400 _ _ _ ?_ | skip); simp (maxSteps := 1000000) only [push_cast, reduceCtorEq, Nat.reduceAdd, Nat.reduceMul, Nat.reduceSub, Nat.reduceBEq, Nat.reduceGT, Nat.reduceLT, Int.toNat_zero, Nat.reduceLeDiff, Int.reduceEq, Int.reduceLT, Int.reduceLE, hP, hΓ, hL, hfin, String.reduceEq, not_false_eq_true, if_true, fz0, fz1, bytesLess_eq, q_delete_e, q_delete_dir, q_delete_free, q_delete_put, q_delete_add, q_delete_copy, q_delete_rename, q_delete_show, q_delete_size, q_delete_delete, h25])
      refine ⟨by omega, ?_⟩
      cases hh : has A a
      case true =>
        have hp := has_lt hok.so hh
        have hp' : (pl A a : Int) < A.length := by omega
        have hp2 : 0 < A.length * 2 - pl A a * 2 := by omega
        have hp3 : 1 < A.length * 2 - pl A a * 2 := by omega
        have hp4 : 0 < A.length * 2 - pl A a * 2 - 1 := by omega
        have hg : (A.getD (pl A a) default).2 = dataF A a := rfl
        have hdl := data_le hok a
        ((first | with_reducible refine holds_of_ex X 400 _ _ _ ?_ | skip); simp (maxSteps := 1000000) only [push_cast, reduceCtorEq, Nat.reduceAdd, Nat.reduceMul, Nat.reduceSub, Nat.reduceBEq, Nat.reduceGT, Nat.reduceLT, Int.toNat_zero, Nat.reduceLeDiff, Int.reduceEq, Int.reduceLT, Int.reduceLE, hP, hΓ, hL, hfin, String.reduceEq, not_false_eq_true, if_true, fz0, fz1, bytesLess_eq, hh, hp', hp2, hp3, hp4, hg, h38, h17, h39, wr_i64 ((A.length : Int) - 1) (by constructor <;> omega), q_delete_e, q_delete_dir, q_delete_free, q_delete_put, q_delete_add, q_delete_copy, q_delete_rename, q_delete_show, q_delete_size, q_delete_delete])
        refine ⟨by omega, ⟨by omega, by omega⟩, ⟨hok, hlo, hhi⟩, ?_⟩
        by_cases c4 : freeF S A < leaves ((A.length : Int) - 1)
        · ((first | with_reducible refine holds_of_ex X 400 _ _ _ ?_ | skip); simp (maxSteps := 1000000) only [push_cast, reduceCtorEq, Nat.reduceAdd, Nat.reduceMul, Nat.reduceSub, Nat.reduceBEq, Nat.reduceGT, Nat.reduceLT, Int.toNat_zero, Nat.reduceLeDiff, Int.reduceEq, Int.reduceLT, Int.reduceLE, hP, hΓ, hL, hfin, String.reduceEq, not_false_eq_true, if_true, fz0, fz1, bytesLess_eq, c4, h32])
          rw [do_delete _ _ _ _ hh, if_pos c4]
          exact Into.sameA
        · ((first | with_reducible refine holds_of_ex X 400 _ _ _ ?_ | skip); simp (maxSteps := 1000000) only [push_cast, reduceCtorEq, Nat.reduceAdd, Nat.reduceMul, Nat.reduceSub, Nat.reduceBEq, Nat.reduceGT, Nat.reduceLT, Int.toNat_zero, Nat.reduceLeDiff, Int.reduceEq, Int.reduceLT, Int.reduceLE, hP, hΓ, hL, hfin, String.reduceEq, not_false_eq_true, if_true, fz0, fz1, bytesLess_eq, c4, h39])
          rw [do_delete _ _ _ _ hh, if_neg c4]
          refine ⟨⟨hok, hp⟩, ?_⟩
          exact Into.sameA
      case false =>
        ((first | with_reducible refine holds_of_ex X 400 _ _ _ ?_ | skip); simp (maxSteps := 1000000) only [push_cast, reduceCtorEq, Nat.reduceAdd, Nat.reduceMul, Nat.reduceSub, Nat.reduceBEq, Nat.reduceGT, Nat.reduceLT, Int.toNat_zero, Nat.reduceLeDiff, Int.reduceEq, Int.reduceLT, Int.reduceLE, hP, hΓ, hL, hfin, String.reduceEq, not_false_eq_true, if_true, fz0, fz1, bytesLess_eq, hh, h32, q_delete_e, q_delete_dir, q_delete_free, q_delete_put, q_delete_add, q_delete_copy, q_delete_rename, q_delete_show, q_delete_size, q_delete_delete])
        rw [dn_delete _ _ _ _ hh]
        refine ⟨by omega, ?_⟩
        exact Into.sameA
    | rename =>
      obtain ⟨a, b, rfl⟩ := two _ hk rfl
      have ha := hw a (by simp)
      have hb := hw b (by simp)
      ((first | with_reducible refine holds_of_ex X 400 _ _ _ ?_ | skip); simp (maxSteps := 1000000) only [push_cast, reduceCtorEq, Nat.reduceAdd, Nat.reduceMul, Nat.reduceSub, Nat.reduceBEq, Nat.reduceGT, Nat.reduceLT, Int.toNat_zero, Nat.reduceLeDiff, Int.reduceEq, Int.reduceLT, Int.reduceLE, hP, hΓ, hL, hfin, String.reduceEq, not_false_eq_true, if_true, fz0, fz1, bytesLess_eq, q_rename_e, q_rename_dir, q_rename_free, q_rename_put, q_rename_add, q_rename_copy, q_rename_rename, q_rename_show, q_rename_size, q_rename_delete, h25])
      refine ⟨by omega, ?_⟩
      cases hh : has A a
      case true =>
        have hp := has_lt hok.so hh
        have hp' : (pl A a : Int) < A.length := by omega
        have hp2 : 0 < A.length * 2 - pl A a * 2 := by omega
        have hp3 : 1 < A.length * 2 - pl A a * 2 := by omega
        have hp4 : 0 < A.length * 2 - pl A a * 2 - 1 := by omega
        have hg : (A.getD (pl A a) default).2 = dataF A a := rfl
        have hdl := data_le hok a
        ((first | with_reducible refine holds_of_ex X 400 _ _ _ ?_ | skip); simp (maxSteps := 1000000) only [push_cast, reduceCtorEq, Nat.reduceAdd, Nat.reduceMul, Nat.reduceSub, Nat.reduceBEq, Nat.reduceGT, Nat.reduceLT, Int.toNat_zero, Nat.reduceLeDiff, Int.reduceEq, Int.reduceLT, Int.reduceLE, hP, hΓ, hL, hfin, String.reduceEq, not_false_eq_true, if_true, fz0, fz1, bytesLess_eq, hh, hp', hp2, hp3, hp4, hg, h37, q_rename_e, q_rename_dir, q_rename_free, q_rename_put, q_rename_add, q_rename_copy, q_rename_rename, q_rename_show, q_rename_size, q_rename_delete])
        refine ⟨by omega, ?_⟩
        (refine Holds.drawnE (patH [.row 2 0]) [0, 1, 2, 3, 4, 5, 6, 7, 8] [] [] false (by rw [hP]; kernel_rfl) (by kernel_rfl) (by kernel_rfl) (by kernel_rfl) (by first | exact .inl rfl | exact .inr fun _ _ h => patH_app _ _ h) (by first | (simp only [push_cast]; done) | (simp only [push_cast, and_true]; omega)) ?_; simp (maxSteps := 1000000) only [↓reduceIte, Option.getD_some, push_cast, reduceCtorEq, Nat.reduceAdd, Nat.reduceMul, Nat.reduceSub, Nat.reduceBEq, Nat.reduceGT, Nat.reduceLT, Int.toNat_zero, Nat.reduceLeDiff, Int.reduceEq, Int.reduceLT, Int.reduceLE, hP, hΓ, hL, hfin, String.reduceEq, not_false_eq_true, if_true, fz0, fz1, bytesLess_eq, h37, toN1, gd1])
        refine ⟨by omega, by omega, ⟨hok, hlo, hhi, by omega⟩, ?_⟩
        ((first | with_reducible refine holds_of_ex X 400 _ _ _ ?_ | skip); simp (maxSteps := 1000000) only [push_cast, reduceCtorEq, Nat.reduceAdd, Nat.reduceMul, Nat.reduceSub, Nat.reduceBEq, Nat.reduceGT, Nat.reduceLT, Int.toNat_zero, Nat.reduceLeDiff, Int.reduceEq, Int.reduceLT, Int.reduceLE, hP, hΓ, hL, hfin, String.reduceEq, not_false_eq_true, if_true, fz0, fz1, bytesLess_eq])
        rw [do_rename]
        exact Into.sameA
      case false =>
        ((first | with_reducible refine holds_of_ex X 400 _ _ _ ?_ | skip); simp (maxSteps := 1000000) only [push_cast, reduceCtorEq, Nat.reduceAdd, Nat.reduceMul, Nat.reduceSub, Nat.reduceBEq, Nat.reduceGT, Nat.reduceLT, Int.toNat_zero, Nat.reduceLeDiff, Int.reduceEq, Int.reduceLT, Int.reduceLE, hP, hΓ, hL, hfin, String.reduceEq, not_false_eq_true, if_true, fz0, fz1, bytesLess_eq, hh, h37, q_rename_e, q_rename_dir, q_rename_free, q_rename_put, q_rename_add, q_rename_copy, q_rename_rename, q_rename_show, q_rename_size, q_rename_delete])
        refine ⟨by omega, ?_⟩
        (refine Holds.drawnE (patH [.row 2 0]) [0, 1, 2, 3, 4, 5, 6, 7, 8] [] [] false (by rw [hP]; kernel_rfl) (by kernel_rfl) (by kernel_rfl) (by kernel_rfl) (by first | exact .inl rfl | exact .inr fun _ _ h => patH_app _ _ h) (by first | (simp only [push_cast]; done) | (simp only [push_cast, and_true]; omega)) ?_; simp (maxSteps := 1000000) only [↓reduceIte, Option.getD_some, push_cast, reduceCtorEq, Nat.reduceAdd, Nat.reduceMul, Nat.reduceSub, Nat.reduceBEq, Nat.reduceGT, Nat.reduceLT, Int.toNat_zero, Nat.reduceLeDiff, Int.reduceEq, Int.reduceLT, Int.reduceLE, hP, hΓ, hL, hfin, String.reduceEq, not_false_eq_true, if_true, fz0, fz1, bytesLess_eq, h37, toN1, gd1])
        refine ⟨by omega, by omega, ⟨hok, hlo, hhi, by omega⟩, ?_⟩
        ((first | with_reducible refine holds_of_ex X 400 _ _ _ ?_ | skip); simp (maxSteps := 1000000) only [push_cast, reduceCtorEq, Nat.reduceAdd, Nat.reduceMul, Nat.reduceSub, Nat.reduceBEq, Nat.reduceGT, Nat.reduceLT, Int.toNat_zero, Nat.reduceLeDiff, Int.reduceEq, Int.reduceLT, Int.reduceLE, hP, hΓ, hL, hfin, String.reduceEq, not_false_eq_true, if_true, fz0, fz1, bytesLess_eq])
        rw [do_rename]
        exact Into.sameA
    | copy =>
      obtain ⟨a, b, rfl⟩ := two _ hk rfl
      have ha := hw a (by simp)
      have hb := hw b (by simp)
      ((first | with_reducible refine holds_of_ex X 400 _ _ _ ?_ | skip); simp (maxSteps := 1000000) only [push_cast, reduceCtorEq, Nat.reduceAdd, Nat.reduceMul, Nat.reduceSub, Nat.reduceBEq, Nat.reduceGT, Nat.reduceLT, Int.toNat_zero, Nat.reduceLeDiff, Int.reduceEq, Int.reduceLT, Int.reduceLE, hP, hΓ, hL, hfin, String.reduceEq, not_false_eq_true, if_true, fz0, fz1, bytesLess_eq, q_copy_e, q_copy_dir, q_copy_free, q_copy_put, q_copy_add, q_copy_copy, q_copy_rename, q_copy_show, q_copy_size, q_copy_delete, h25])
      refine ⟨by omega, ?_⟩
      cases hh : has A a
      case true =>
        have hp := has_lt hok.so hh
        have hp' : (pl A a : Int) < A.length := by omega
        have hp2 : 0 < A.length * 2 - pl A a * 2 := by omega
        have hp3 : 1 < A.length * 2 - pl A a * 2 := by omega
        have hp4 : 0 < A.length * 2 - pl A a * 2 - 1 := by omega
        have hg : (A.getD (pl A a) default).2 = dataF A a := rfl
        have hdl := data_le hok a
        ((first | with_reducible refine holds_of_ex X 400 _ _ _ ?_ | skip); simp (maxSteps := 1000000) only [push_cast, reduceCtorEq, Nat.reduceAdd, Nat.reduceMul, Nat.reduceSub, Nat.reduceBEq, Nat.reduceGT, Nat.reduceLT, Int.toNat_zero, Nat.reduceLeDiff, Int.reduceEq, Int.reduceLT, Int.reduceLE, hP, hΓ, hL, hfin, String.reduceEq, not_false_eq_true, if_true, fz0, fz1, bytesLess_eq, hh, hp', hp2, hp3, hp4, hg, h36, q_copy_e, q_copy_dir, q_copy_free, q_copy_put, q_copy_add, q_copy_copy, q_copy_rename, q_copy_show, q_copy_size, q_copy_delete])
        refine ⟨by omega, ?_⟩
        (refine Holds.drawnE (patH [.row 2 0]) [0, 1, 2, 3, 4, 5, 6, 7, 8] [] [] false (by rw [hP]; kernel_rfl) (by kernel_rfl) (by kernel_rfl) (by kernel_rfl) (by first | exact .inl rfl | exact .inr fun _ _ h => patH_app _ _ h) (by first | (simp only [push_cast]; done) | (simp only [push_cast, and_true]; omega)) ?_; simp (maxSteps := 1000000) only [↓reduceIte, Option.getD_some, push_cast, reduceCtorEq, Nat.reduceAdd, Nat.reduceMul, Nat.reduceSub, Nat.reduceBEq, Nat.reduceGT, Nat.reduceLT, Int.toNat_zero, Nat.reduceLeDiff, Int.reduceEq, Int.reduceLT, Int.reduceLE, hP, hΓ, hL, hfin, String.reduceEq, not_false_eq_true, if_true, fz0, fz1, bytesLess_eq, h36, toN1, gd1])
        refine ⟨by omega, by omega, ⟨hok, hlo, hhi, by omega⟩, ?_⟩
        ((first | with_reducible refine holds_of_ex X 400 _ _ _ ?_ | skip); simp (maxSteps := 1000000) only [push_cast, reduceCtorEq, Nat.reduceAdd, Nat.reduceMul, Nat.reduceSub, Nat.reduceBEq, Nat.reduceGT, Nat.reduceLT, Int.toNat_zero, Nat.reduceLeDiff, Int.reduceEq, Int.reduceLT, Int.reduceLE, hP, hΓ, hL, hfin, String.reduceEq, not_false_eq_true, if_true, fz0, fz1, bytesLess_eq])
        rw [do_copy]
        exact Into.sameA
      case false =>
        ((first | with_reducible refine holds_of_ex X 400 _ _ _ ?_ | skip); simp (maxSteps := 1000000) only [push_cast, reduceCtorEq, Nat.reduceAdd, Nat.reduceMul, Nat.reduceSub, Nat.reduceBEq, Nat.reduceGT, Nat.reduceLT, Int.toNat_zero, Nat.reduceLeDiff, Int.reduceEq, Int.reduceLT, Int.reduceLE, hP, hΓ, hL, hfin, String.reduceEq, not_false_eq_true, if_true, fz0, fz1, bytesLess_eq, hh, h36, q_copy_e, q_copy_dir, q_copy_free, q_copy_put, q_copy_add, q_copy_copy, q_copy_rename, q_copy_show, q_copy_size, q_copy_delete])
        refine ⟨by omega, ?_⟩
        (refine Holds.drawnE (patH [.row 2 0]) [0, 1, 2, 3, 4, 5, 6, 7, 8] [] [] false (by rw [hP]; kernel_rfl) (by kernel_rfl) (by kernel_rfl) (by kernel_rfl) (by first | exact .inl rfl | exact .inr fun _ _ h => patH_app _ _ h) (by first | (simp only [push_cast]; done) | (simp only [push_cast, and_true]; omega)) ?_; simp (maxSteps := 1000000) only [↓reduceIte, Option.getD_some, push_cast, reduceCtorEq, Nat.reduceAdd, Nat.reduceMul, Nat.reduceSub, Nat.reduceBEq, Nat.reduceGT, Nat.reduceLT, Int.toNat_zero, Nat.reduceLeDiff, Int.reduceEq, Int.reduceLT, Int.reduceLE, hP, hΓ, hL, hfin, String.reduceEq, not_false_eq_true, if_true, fz0, fz1, bytesLess_eq, h36, toN1, gd1])
        refine ⟨by omega, by omega, ⟨hok, hlo, hhi, by omega⟩, ?_⟩
        ((first | with_reducible refine holds_of_ex X 400 _ _ _ ?_ | skip); simp (maxSteps := 1000000) only [push_cast, reduceCtorEq, Nat.reduceAdd, Nat.reduceMul, Nat.reduceSub, Nat.reduceBEq, Nat.reduceGT, Nat.reduceLT, Int.toNat_zero, Nat.reduceLeDiff, Int.reduceEq, Int.reduceLT, Int.reduceLE, hP, hΓ, hL, hfin, String.reduceEq, not_false_eq_true, if_true, fz0, fz1, bytesLess_eq])
        rw [do_copy]
        exact Into.sameA
    | put =>
      obtain ⟨a, rfl⟩ := one _ hk rfl
      have ha := hw a (by simp)
      ((first | with_reducible refine holds_of_ex X 400 _ _ _ ?_ | skip); simp (maxSteps := 1000000) only [push_cast, reduceCtorEq, Nat.reduceAdd, Nat.reduceMul, Nat.reduceSub, Nat.reduceBEq, Nat.reduceGT, Nat.reduceLT, Int.toNat_zero, Nat.reduceLeDiff, Int.reduceEq, Int.reduceLT, Int.reduceLE, hP, hΓ, hL, hfin, String.reduceEq, not_false_eq_true, if_true, fz0, fz1, bytesLess_eq, q_put_e, q_put_dir, q_put_free, q_put_put, q_put_add, q_put_copy, q_put_rename, q_put_show, q_put_size, q_put_delete, h25])
      refine ⟨by omega, ?_⟩
      cases hh : has A a
      case true =>
        have hp := has_lt hok.so hh
        have hp' : (pl A a : Int) < A.length := by omega
        have hp2 : 0 < A.length * 2 - pl A a * 2 := by omega
        have hp3 : 1 < A.length * 2 - pl A a * 2 := by omega
        have hp4 : 0 < A.length * 2 - pl A a * 2 - 1 := by omega
        have hg : (A.getD (pl A a) default).2 = dataF A a := rfl
        have hdl := data_le hok a
        ((first | with_reducible refine holds_of_ex X 400 _ _ _ ?_ | skip); simp (maxSteps := 1000000) only [push_cast, reduceCtorEq, Nat.reduceAdd, Nat.reduceMul, Nat.reduceSub, Nat.reduceBEq, Nat.reduceGT, Nat.reduceLT, Int.toNat_zero, Nat.reduceLeDiff, Int.reduceEq, Int.reduceLT, Int.reduceLE, hP, hΓ, hL, hfin, String.reduceEq, not_false_eq_true, if_true, fz0, fz1, bytesLess_eq, hh, hp', hp2, hp3, hp4, hg, h35, q_put_e, q_put_dir, q_put_free, q_put_put, q_put_add, q_put_copy, q_put_rename, q_put_show, q_put_size, q_put_delete])
        rw [do_put]
        refine ⟨by omega, by omega, by omega, ⟨hok, hlo, hhi, by omega, by omega⟩, ?_⟩
        exact Into.sameA
      case false =>
        ((first | with_reducible refine holds_of_ex X 400 _ _ _ ?_ | skip); simp (maxSteps := 1000000) only [push_cast, reduceCtorEq, Nat.reduceAdd, Nat.reduceMul, Nat.reduceSub, Nat.reduceBEq, Nat.reduceGT, Nat.reduceLT, Int.toNat_zero, Nat.reduceLeDiff, Int.reduceEq, Int.reduceLT, Int.reduceLE, hP, hΓ, hL, hfin, String.reduceEq, not_false_eq_true, if_true, fz0, fz1, bytesLess_eq, hh, h35, q_put_e, q_put_dir, q_put_free, q_put_put, q_put_add, q_put_copy, q_put_rename, q_put_show, q_put_size, q_put_delete])
        rw [do_put]
        refine ⟨by omega, by omega, by omega, ⟨hok, hlo, hhi, by omega, by omega⟩, ?_⟩
        exact Into.sameA
    | add =>
      obtain ⟨a, rfl⟩ := one _ hk rfl
      have ha := hw a (by simp)
      ((first | with_reducible refine holds_of_ex X 400 _ _ _ ?_ | skip); simp (maxSteps := 1000000) only [push_cast, reduceCtorEq, Nat.reduceAdd, Nat.reduceMul, Nat.reduceSub, Nat.reduceBEq, Nat.reduceGT, Nat.reduceLT, Int.toNat_zero, Nat.reduceLeDiff, Int.reduceEq, Int.reduceLT, Int.reduceLE, hP, hΓ, hL, hfin, String.reduceEq, not_false_eq_true, if_true, fz0, fz1, bytesLess_eq, q_add_e, q_add_dir, q_add_free, q_add_put, q_add_add, q_add_copy, q_add_rename, q_add_show, q_add_size, q_add_delete, h25])
      refine ⟨by omega, ?_⟩
      cases hh : has A a
      case true =>
        have hp := has_lt hok.so hh
        have hp' : (pl A a : Int) < A.length := by omega
        have hp2 : 0 < A.length * 2 - pl A a * 2 := by omega
        have hp3 : 1 < A.length * 2 - pl A a * 2 := by omega
        have hp4 : 0 < A.length * 2 - pl A a * 2 - 1 := by omega
        have hg : (A.getD (pl A a) default).2 = dataF A a := rfl
        have hdl := data_le hok a
        ((first | with_reducible refine holds_of_ex X 400 _ _ _ ?_ | skip); simp (maxSteps := 1000000) only [push_cast, reduceCtorEq, Nat.reduceAdd, Nat.reduceMul, Nat.reduceSub, Nat.reduceBEq, Nat.reduceGT, Nat.reduceLT, Int.toNat_zero, Nat.reduceLeDiff, Int.reduceEq, Int.reduceLT, Int.reduceLE, hP, hΓ, hL, hfin, String.reduceEq, not_false_eq_true, if_true, fz0, fz1, bytesLess_eq, hh, hp', hp2, hp3, hp4, hg, h35, q_add_e, q_add_dir, q_add_free, q_add_put, q_add_add, q_add_copy, q_add_rename, q_add_show, q_add_size, q_add_delete])
        rw [do_add, oldF, if_pos hh]
        refine ⟨by omega, by omega, by omega, by omega, ⟨hok, hlo, hhi, by omega, by omega⟩, ?_⟩
        exact Into.sameA
      case false =>
        ((first | with_reducible refine holds_of_ex X 400 _ _ _ ?_ | skip); simp (maxSteps := 1000000) only [push_cast, reduceCtorEq, Nat.reduceAdd, Nat.reduceMul, Nat.reduceSub, Nat.reduceBEq, Nat.reduceGT, Nat.reduceLT, Int.toNat_zero, Nat.reduceLeDiff, Int.reduceEq, Int.reduceLT, Int.reduceLE, hP, hΓ, hL, hfin, String.reduceEq, not_false_eq_true, if_true, fz0, fz1, bytesLess_eq, hh, h35, q_add_e, q_add_dir, q_add_free, q_add_put, q_add_add, q_add_copy, q_add_rename, q_add_show, q_add_size, q_add_delete])
        rw [do_add, oldF, if_neg (by simp [hh]), List.nil_append]
        refine ⟨by omega, by omega, by omega, by omega, ⟨hok, hlo, hhi, by omega, by omega⟩, ?_⟩
        exact Into.sameA
theorem con13 {Γ : Env} (h : EnvOk Tryz.prog Γ) (h17 : Γ 17 = some S17) (h25 : Γ 25 = some S25) (h31 : Γ 31 = some refS) (h32 : Γ 32 = some S32) (h33 : Γ 33 = some S33) (h34 : Γ 34 = some S34) (h35 : Γ 35 = some S35) (h36 : Γ 36 = some S36) (h37 : Γ 37 = some S37) (h38 : Γ 38 = some S38) (h39 : Γ 39 = some S39) (h40 : Γ 40 = some S40) : Con Tryz.prog 13 S13 :=
  heapE_con h (fn := Tryz.f13) (by kernel_rfl) rfl (by kernel_rfl) inj13 fun ⟨A, S, l⟩ h => body13 Γ h17 h25 h31 h32 h33 h34 h35 h36 h37 h38 h39 h40 A S l h
end Go.Proofs.YtenopfmafecffaaGreatDoor.modelDone
