/- Of object numbers: bytes laid behind others, and the contracts of the functions that lay them. Conditions stand in each. -/
import Derived.Test.YtmilngcgcolpbaaGreatTy
import Derived.Test.YtmilngcgcolpbaaGreatRows
import Derived.Test.YtmilngcgcolpbaaGreatAr
namespace Go.Proofs.YtmilngcgcolpbaaGreat.objNumbersDone
open Go Go.Eng Go.Proofs
set_option linter.unusedVariables false
set_option linter.unusedSimpArgs false
set_option maxRecDepth 100000
def BIG : Nat := 140737488355328
theorem clone_body (Γ : Env) (l : List UInt8) (hl : l.length ≤ BIG) : BodyOk Tryz.prog Γ Tryz.f28 [.sl (l.map byteAV) l.length] [] (.msl 0 0 0 l.length) [.row (l.map byteAV) 1 0] := by
  (intro X hP hΓ hL hfin; refine ⟨_, rfl, ?_⟩; rw [show Tryz.f28.ntmps = 8 from rfl]; rw [show Tryz.f28.results.toList = [.tmp 2] from rfl] at hfin; apply holds_of_ex X 400; simp only [push_cast, reduceCtorEq, Nat.reduceAdd, Nat.reduceMul, Nat.reduceSub, Nat.reduceBEq, Nat.reduceGT, Nat.reduceLT, Int.toNat_zero, Nat.reduceLeDiff, Int.reduceEq, Int.reduceLT, Int.reduceLE, hP, hΓ, hL, hfin])
  have hB : (BIG : Nat) = 140737488355328 := rfl
  refine ⟨fun h => ?_, by omega, ?_⟩
  · obtain rfl : l = [] := by simpa using h
    (refine IntoF.nil 0  1 rfl ?_; simp only [push_cast, reduceCtorEq, Nat.reduceAdd, Nat.reduceMul, Nat.reduceSub, Nat.reduceBEq, Nat.reduceGT, Nat.reduceLT, Int.toNat_zero, Nat.reduceLeDiff, Int.reduceEq, Int.reduceLT, Int.reduceLE])
    exact Into.sameA
  · (refine IntoF.ver 0  0 (by simp only [push_cast, reduceCtorEq, Nat.reduceAdd, Nat.reduceMul, Nat.reduceSub, Nat.reduceBEq, Nat.reduceGT, Nat.reduceLT, Int.toNat_zero, Nat.reduceLeDiff, Int.reduceEq, Int.reduceLT, Int.reduceLE]) (by first | exact .inr (Nat.zero_le _) | (left; simp only [push_cast, reduceCtorEq, Nat.reduceAdd, Nat.reduceMul, Nat.reduceSub, Nat.reduceBEq, Nat.reduceGT, Nat.reduceLT, Int.toNat_zero, Nat.reduceLeDiff, Int.reduceEq, Int.reduceLT, Int.reduceLE]; omega) | (right; simp only [push_cast, reduceCtorEq, Nat.reduceAdd, Nat.reduceMul, Nat.reduceSub, Nat.reduceBEq, Nat.reduceGT, Nat.reduceLT, Int.toNat_zero, Nat.reduceLeDiff, Int.reduceEq, Int.reduceLT, Int.reduceLE]; omega)) ?_; simp only [push_cast, reduceCtorEq, Nat.reduceAdd, Nat.reduceMul, Nat.reduceSub, Nat.reduceBEq, Nat.reduceGT, Nat.reduceLT, Int.toNat_zero, Nat.reduceLeDiff, Int.reduceEq, Int.reduceLT, Int.reduceLE])
    exact Into.sameA
/-- a byte of a number, with and without more behind it -/
def hi7 (n : Nat) : UInt8 := UInt8.ofNat (n % 128 + 128)
def lo7 (n : Nat) : UInt8 := UInt8.ofNat n
/-- a number's bytes -/
def q7 (n : Nat) : Nat := n / 128
def enc (n : Nat) : List UInt8 := if n < 128 then [lo7 n] else hi7 n :: enc (q7 n)
termination_by n
decreasing_by simp only [q7]; omega
theorem enc_len : ∀ (k n : Nat), n < 128 ^ (k + 1) → (enc n).length ≤ k + 1 := by
  intro k
  induction k with
  | zero => intro n h; rw [enc, if_pos (by omega)]; simp
  | succ k ih =>
    intro n h
    rw [enc]
    split
    · simp
    · have := ih (q7 n) (by rw [Nat.pow_succ] at h; simp only [q7]; omega)
      simp; omega
theorem wrap_u8 (n : Nat) : IntKind.u8.wrap (n : Int) = ((n % 256 : Nat) : Int) := by simp [IntKind.wrap, IntKind.bits, IntKind.signed]
theorem byte_or (n : Nat) : ibits .or .u8 (IntKind.u8.wrap ↑n) 128 = ((hi7 n).toNat : Int) := by
  rw [wrap_u8, hi7, show n % 128 = n % 256 % 128 by omega]
  have h := below (fun r => ibits .or .u8 ↑r 128 == (UInt8.ofNat (r % 128 + 128)).toNat) 256 (by kernel_rfl) (n % 256) (by omega)
  exact eq_of_beq h
theorem byte_of (n : Nat) (h : n < 128) : IntKind.u8.wrap ↑n = ((lo7 n).toNat : Int) := by
  rw [wrap_u8, lo7]; congr 1
theorem shr_nat (n s : Nat) : (n : Int).fdiv (2 ^ s) = ((n / 2 ^ s : Nat) : Int) := by
  rw [Int.fdiv_eq_ediv_of_nonneg _ (by exact Int.le_of_lt (Int.pow_pos (by omega)))]
  simp
theorem shr7 (n : Nat) : (n : Int).fdiv (2 ^ min (Int.toNat 7) IntKind.u32.bits) = (q7 n : Int) := shr_nat n 7
theorem number_body (Γ : Env) (l : List UInt8) (v : Nat) (n : Nat) (hn : n < 2 ^ 32) (hl : l.length + 5 ≤ BIG) :
    BodyOk Tryz.prog Γ Tryz.f27 [.msl 0 v 0 l.length, .int .u32 n] [.row (l.map byteAV) 1 v] (.msl 0 (v + 1) 0 (l ++ enc n).length) [.row ((l ++ enc n).map byteAV) 1 (v + 1)] := by
  (intro X hP hΓ hL hfin; refine ⟨_, rfl, ?_⟩; rw [show Tryz.f27.ntmps = 20 from rfl]; rw [show Tryz.f27.results.toList = [.tmp 4] from rfl] at hfin; apply holds_of_ex X 400; simp only [push_cast, reduceCtorEq, Nat.reduceAdd, Nat.reduceMul, Nat.reduceSub, Nat.reduceBEq, Nat.reduceGT, Nat.reduceLT, Int.toNat_zero, Nat.reduceLeDiff, Int.reduceEq, Int.reduceLT, Int.reduceLE, hP, hΓ, hL, hfin])
  refine Holds.loop (ι := { p : List UInt8 × Nat // p.1 ++ enc p.2 = enc n ∧ p.2 ≤ n }) (fun i => ([.msl 0 (v + 1) 0 (l ++ i.1.1).length, .int .u32 i.1.2, .any, .any, .any, .any, .any, .any, .any, .any, .any, .any, .any, .any, .any, .any, .any, .any, .any, .any], [.row ((l ++ i.1.1).map byteAV) 1 (v + 1)])) (fun i => i.1.2) ⟨([], n), by simp, Nat.le_refl _⟩ ?_ ?_
  · rw [hL]
    (refine IntoF.ver 0  (v + 1) (by simp only [push_cast, reduceCtorEq, Nat.reduceAdd, Nat.reduceMul, Nat.reduceSub, Nat.reduceBEq, Nat.reduceGT, Nat.reduceLT, Int.toNat_zero, Nat.reduceLeDiff, Int.reduceEq, Int.reduceLT, Int.reduceLE]) (by first | exact .inr (Nat.zero_le _) | (left; simp only [push_cast, reduceCtorEq, Nat.reduceAdd, Nat.reduceMul, Nat.reduceSub, Nat.reduceBEq, Nat.reduceGT, Nat.reduceLT, Int.toNat_zero, Nat.reduceLeDiff, Int.reduceEq, Int.reduceLT, Int.reduceLE]; omega) | (right; simp only [push_cast, reduceCtorEq, Nat.reduceAdd, Nat.reduceMul, Nat.reduceSub, Nat.reduceBEq, Nat.reduceGT, Nat.reduceLT, Int.toNat_zero, Nat.reduceLeDiff, Int.reduceEq, Int.reduceLT, Int.reduceLE]; omega)) ?_; simp only [push_cast, reduceCtorEq, Nat.reduceAdd, Nat.reduceMul, Nat.reduceSub, Nat.reduceBEq, Nat.reduceGT, Nat.reduceLT, Int.toNat_zero, Nat.reduceLeDiff, Int.reduceEq, Int.reduceLT, Int.reduceLE])
    exact Into.sameA
  rintro ⟨⟨p, n'⟩, hp, hle⟩
  simp only at hp hle
  have hlen := enc_len 4 n (by omega)
  rw [← hp, List.length_append] at hlen
  ((first | with_reducible refine holds_of_ex X 400 _ _ _ ?_ | skip); simp only [push_cast, reduceCtorEq, Nat.reduceAdd, Nat.reduceMul, Nat.reduceSub, Nat.reduceBEq, Nat.reduceGT, Nat.reduceLT, Int.toNat_zero, Nat.reduceLeDiff, Int.reduceEq, Int.reduceLT, Int.reduceLE, hP, hΓ, hL, hfin])
  refine exB_split (fun h => ?_) (fun h => ?_)
  · have hn' : 128 ≤ n' := by have := of_decide_eq_true h; omega
    have he : enc n' = hi7 n' :: enc (q7 n') := by rw [enc, if_neg (by omega)]
    have hq : (p ++ [hi7 n']) ++ enc (q7 n') = enc n := by rw [← hp, he]; simp
    rw [he, List.length_cons] at hlen
    ((first | with_reducible refine holds_of_ex X 400 _ _ _ ?_ | skip); simp only [push_cast, reduceCtorEq, Nat.reduceAdd, Nat.reduceMul, Nat.reduceSub, Nat.reduceBEq, Nat.reduceGT, Nat.reduceLT, Int.toNat_zero, Nat.reduceLeDiff, Int.reduceEq, Int.reduceLT, Int.reduceLE, hP, hΓ, hL, hfin, byte_or, shr7])
    have hB : (BIG : Nat) = 140737488355328 := rfl
    refine ⟨by omega, ⟨(p ++ [hi7 n'], q7 n'), hq, by simp only [q7]; omega⟩, by simp only [q7]; omega, ?_⟩
    (refine IntoF.ver 0  (v + 1) (by simp only [push_cast, reduceCtorEq, Nat.reduceAdd, Nat.reduceMul, Nat.reduceSub, Nat.reduceBEq, Nat.reduceGT, Nat.reduceLT, Int.toNat_zero, Nat.reduceLeDiff, Int.reduceEq, Int.reduceLT, Int.reduceLE]) (by first | exact .inr (Nat.zero_le _) | (left; simp only [push_cast, reduceCtorEq, Nat.reduceAdd, Nat.reduceMul, Nat.reduceSub, Nat.reduceBEq, Nat.reduceGT, Nat.reduceLT, Int.toNat_zero, Nat.reduceLeDiff, Int.reduceEq, Int.reduceLT, Int.reduceLE]; omega) | (right; simp only [push_cast, reduceCtorEq, Nat.reduceAdd, Nat.reduceMul, Nat.reduceSub, Nat.reduceBEq, Nat.reduceGT, Nat.reduceLT, Int.toNat_zero, Nat.reduceLeDiff, Int.reduceEq, Int.reduceLT, Int.reduceLE]; omega)) ?_; simp only [push_cast, reduceCtorEq, Nat.reduceAdd, Nat.reduceMul, Nat.reduceSub, Nat.reduceBEq, Nat.reduceGT, Nat.reduceLT, Int.toNat_zero, Nat.reduceLeDiff, Int.reduceEq, Int.reduceLT, Int.reduceLE])
    (try simp only [List.map_append, List.append_assoc, List.map_cons, List.map_nil, List.length_append, List.length_cons, List.length_nil, byteAV, Nat.add_assoc, Nat.reduceAdd, Nat.zero_add, Nat.add_zero, List.append_nil, List.cons_append, List.nil_append])
    exact Into.keep1A
  · have hn' : n' < 128 := by have := of_decide_eq_false h; omega
    have he : enc n' = [lo7 n'] := by rw [enc, if_pos hn']
    rw [he] at hlen hp
    simp only [List.length_cons, List.length_nil] at hlen
    ((first | with_reducible refine holds_of_ex X 400 _ _ _ ?_ | skip); simp only [push_cast, reduceCtorEq, Nat.reduceAdd, Nat.reduceMul, Nat.reduceSub, Nat.reduceBEq, Nat.reduceGT, Nat.reduceLT, Int.toNat_zero, Nat.reduceLeDiff, Int.reduceEq, Int.reduceLT, Int.reduceLE, hP, hΓ, hL, hfin, byte_of n' hn'])
    have hB : (BIG : Nat) = 140737488355328 := rfl
    refine ⟨by omega, ?_⟩
    rw [← hp]
    (refine IntoF.ver 0  (v + 1) (by simp only [push_cast, reduceCtorEq, Nat.reduceAdd, Nat.reduceMul, Nat.reduceSub, Nat.reduceBEq, Nat.reduceGT, Nat.reduceLT, Int.toNat_zero, Nat.reduceLeDiff, Int.reduceEq, Int.reduceLT, Int.reduceLE]) (by first | exact .inr (Nat.zero_le _) | (left; simp only [push_cast, reduceCtorEq, Nat.reduceAdd, Nat.reduceMul, Nat.reduceSub, Nat.reduceBEq, Nat.reduceGT, Nat.reduceLT, Int.toNat_zero, Nat.reduceLeDiff, Int.reduceEq, Int.reduceLT, Int.reduceLE]; omega) | (right; simp only [push_cast, reduceCtorEq, Nat.reduceAdd, Nat.reduceMul, Nat.reduceSub, Nat.reduceBEq, Nat.reduceGT, Nat.reduceLT, Int.toNat_zero, Nat.reduceLeDiff, Int.reduceEq, Int.reduceLT, Int.reduceLE]; omega)) ?_; simp only [push_cast, reduceCtorEq, Nat.reduceAdd, Nat.reduceMul, Nat.reduceSub, Nat.reduceBEq, Nat.reduceGT, Nat.reduceLT, Int.toNat_zero, Nat.reduceLeDiff, Int.reduceEq, Int.reduceLT, Int.reduceLE])
    (try simp only [List.map_append, List.append_assoc, List.map_cons, List.map_nil, List.length_append, List.length_cons, List.length_nil, byteAV, Nat.add_assoc, Nat.reduceAdd, Nat.zero_add, Nat.add_zero, List.append_nil, List.cons_append, List.nil_append])
    exact Into.keep1A

/-- a function that lays bytes behind an own row of bytes, handed to it as a slice -/
def appG (k : List AV → List UInt8) (p : List AV → Nat → Prop) : GSpec where
  ids xs := match xs with
    | .msl id _ _ _ :: _ => [id]
    | _ => []
  args xs L := match xs with
    | .msl id v o n :: r => .msl 0 v o n :: r.map (derefG L [id])
    | _ => []
  start xs L := match xs with
    | .msl id _ _ _ :: _ => (match L[id]? with | some o => [o] | none => [])
    | _ => []
  pre xs L := match xs, L with
    | .msl id v o n :: r, [.row cs sz v'] => id = 0 ∧ o = 0 ∧ sz = 1 ∧ v' = v ∧ (∃ l : List UInt8, cs = l.map byteAV ∧ n = l.length) ∧ p r n
    | _, _ => False
  res xs L := match xs with
    | .msl id v o n :: r => .msl 0 (v + 1) 0 (n + (k r).length)
    | _ => .any
  post xs L := match xs, L with
    | .msl id v o n :: r, [.row cs sz v'] => [.row (cs ++ (k r).map byteAV) 1 (v + 1)]
    | _, _ => []
theorem appG_con {Γ : Env} (h : EnvOk Tryz.prog Γ) {f : FuncId} {fn : Func} (hf : Tryz.prog.funcs[f]? = some fn) (hb : fn.body.isNone = false) (hn : (fn.name == "runtime.NumGoroutine") = false) {k : List AV → List UInt8} {p : List AV → Nat → Prop}
    (hh : ∀ (l : List UInt8) (v : Nat) (r : List AV), p r l.length → BodyOk Tryz.prog Γ fn (.msl 0 v 0 l.length :: r) [.row (l.map byteAV) 1 v] (.msl 0 (v + 1) 0 (l ++ k r).length) [.row ((l ++ k r).map byteAV) 1 (v + 1)]) : Con Tryz.prog f (liftG (appG k p)) := by
  refine Con.liftG_of_body h hf hb hn fun xs L hx => ?_
  simp only [appG] at hx ⊢
  split at hx
  · obtain ⟨rfl, rfl, rfl, rfl, ⟨l, rfl, rfl⟩, hp⟩ := hx
    rename_i r v
    have := hh l v r hp
    rw [List.length_append, List.map_append] at this
    exact this
  · exact hx.elim
def numK (r : List AV) : List UInt8 := match r with
  | [.int _ x] => enc x.toNat
  | _ => []
def numP (r : List AV) (n : Nat) : Prop := match r with
  | [.int k x] => k = .u32 ∧ (∃ m : Nat, x = m ∧ m < 2 ^ 32) ∧ n + 5 ≤ BIG
  | _ => False
def numS : FSpec := liftG (appG numK numP)
def m32 (n : Nat) : Nat := n % 2 ^ 32
theorem wrap_u32 (n : Nat) : IntKind.u32.wrap (n : Int) = (m32 n : Int) := by simp [IntKind.wrap, IntKind.bits, IntKind.signed, m32]
theorem con23 {Γ : Env} (h : EnvOk Tryz.prog Γ) : Con Tryz.prog 27 numS := by
  refine appG_con h (fn := Tryz.f27) (by kernel_rfl) rfl (by kernel_rfl) fun l v r hp => ?_
  unfold numP at hp
  split at hp
  · obtain ⟨rfl, ⟨m, rfl, hm⟩, hl⟩ := hp
    rw [show numK [.int .u32 ↑m] = enc m from rfl]
    exact number_body Γ l v m hm hl
  · exact hp.elim
def textK (r : List AV) : List UInt8 := match r with
  | [.str s] => enc (m32 s.length) ++ s
  | _ => []
def textP (r : List AV) (n : Nat) : Prop := match r with
  | [.str s] => n + 5 + s.length ≤ BIG
  | _ => False
def textS : FSpec := liftG (appG textK textP)
attribute [push_cast] numS textS appG numK numP textK textP
theorem text_body (Γ : Env) (h23 : Γ 27 = some numS) (l : List UInt8) (v : Nat) (s : List UInt8) (hl : l.length + 5 + s.length ≤ BIG) :
    BodyOk Tryz.prog Γ Tryz.f55 [.msl 0 v 0 l.length, .str s] [.row (l.map byteAV) 1 v] (.msl 0 (v + 1) 0 (l ++ (enc (m32 s.length) ++ s)).length) [.row ((l ++ (enc (m32 s.length) ++ s)).map byteAV) 1 (v + 1)] := by
  (intro X hP hΓ hL hfin; refine ⟨_, rfl, ?_⟩; rw [show Tryz.f55.ntmps = 12 from rfl]; rw [show Tryz.f55.results.toList = [.tmp 4] from rfl] at hfin; apply holds_of_ex X 400; simp only [push_cast, reduceCtorEq, Nat.reduceAdd, Nat.reduceMul, Nat.reduceSub, Nat.reduceBEq, Nat.reduceGT, Nat.reduceLT, Int.toNat_zero, Nat.reduceLeDiff, Int.reduceEq, Int.reduceLT, Int.reduceLE, hP, hΓ, hL, hfin, h23, wrap_u32])
  have hm : m32 s.length < 2 ^ 32 := Nat.mod_lt _ (by omega)
  have he := enc_len 4 _ (show m32 s.length < 128 ^ 5 by omega)
  have hB : (BIG : Nat) = 140737488355328 := rfl
  refine ⟨⟨⟨l, rfl, rfl⟩, ⟨_, rfl, hm⟩, by omega⟩, by omega, ?_⟩
  (refine IntoF.ver 0  (v + 1) (by simp only [push_cast, reduceCtorEq, Nat.reduceAdd, Nat.reduceMul, Nat.reduceSub, Nat.reduceBEq, Nat.reduceGT, Nat.reduceLT, Int.toNat_zero, Nat.reduceLeDiff, Int.reduceEq, Int.reduceLT, Int.reduceLE]) (by first | exact .inr (Nat.zero_le _) | (left; simp only [push_cast, reduceCtorEq, Nat.reduceAdd, Nat.reduceMul, Nat.reduceSub, Nat.reduceBEq, Nat.reduceGT, Nat.reduceLT, Int.toNat_zero, Nat.reduceLeDiff, Int.reduceEq, Int.reduceLT, Int.reduceLE]; omega) | (right; simp only [push_cast, reduceCtorEq, Nat.reduceAdd, Nat.reduceMul, Nat.reduceSub, Nat.reduceBEq, Nat.reduceGT, Nat.reduceLT, Int.toNat_zero, Nat.reduceLeDiff, Int.reduceEq, Int.reduceLT, Int.reduceLE]; omega)) ?_; simp only [push_cast, reduceCtorEq, Nat.reduceAdd, Nat.reduceMul, Nat.reduceSub, Nat.reduceBEq, Nat.reduceGT, Nat.reduceLT, Int.toNat_zero, Nat.reduceLeDiff, Int.reduceEq, Int.reduceLT, Int.reduceLE])
  (try simp only [List.map_append, List.append_assoc, List.map_cons, List.map_nil, List.length_append, List.length_cons, List.length_nil, byteAV, Nat.add_assoc, Nat.reduceAdd, Nat.zero_add, Nat.add_zero, List.append_nil, List.cons_append, List.nil_append])
  exact Into.keep1A
theorem con25 {Γ : Env} (h : EnvOk Tryz.prog Γ) (h23 : Γ 27 = some numS) : Con Tryz.prog 55 textS := by
  refine appG_con h (fn := Tryz.f55) (by kernel_rfl) rfl (by kernel_rfl) fun l v r hp => ?_
  unfold textP at hp
  split at hp
  · rename_i s
    rw [show textK [.str s] = enc (m32 s.length) ++ s from rfl]
    exact text_body Γ h23 l v s hp
  · exact hp.elim
/-- a copy of bytes -/
def cloneS : FSpec := lift0 (fun xs => match xs with | [.sl cs n] => (∃ l : List UInt8, cs = l.map byteAV ∧ n = l.length) ∧ n ≤ BIG | _ => False) (fun xs => match xs with | [.sl _ n] => .msl 0 0 0 n | _ => .any) (fun xs => match xs with | [.sl cs _] => [.row cs 1 0] | _ => []) false
theorem con24 {Γ : Env} (h : EnvOk Tryz.prog Γ) : Con Tryz.prog 28 cloneS := by
  refine Con.of_body h (fn := Tryz.f28) (by kernel_rfl) rfl (by kernel_rfl) (fun h => by cases h) fun xs hx => ?_
  split at hx
  · obtain ⟨⟨l, rfl, rfl⟩, hl⟩ := hx
    exact clone_body Γ l hl
  · exact hx.elim

/-- new bytes -/
def newS (p : List AV → Prop) (k : List AV → List UInt8) : FSpec := lift0 p (fun xs => .msl 0 0 0 (k xs).length) (fun xs => [.row ((k xs).map byteAV) 1 0]) false
def putUintK (xs : List AV) : List UInt8 := match xs with
  | [.sl cs _, .int _ x] => unbytes cs ++ enc x.toNat
  | _ => []
def putUintP (xs : List AV) : Prop := match xs with
  | [.sl cs n, .int k x] => (∃ l : List UInt8, cs = l.map byteAV ∧ n = l.length) ∧ n + 5 ≤ BIG ∧ k = .u32 ∧ ∃ m : Nat, x = m ∧ m < 2 ^ 32
  | _ => False
attribute [push_cast] cloneS newS putUintK putUintP
theorem putUint_body (Γ : Env) (h23 : Γ 27 = some numS) (h24 : Γ 28 = some cloneS) (l : List UInt8) (n : Nat) (hn : n < 2 ^ 32) (hl : l.length + 5 ≤ BIG) :
    BodyOk Tryz.prog Γ Tryz.f11 [.sl (l.map byteAV) l.length, .int .u32 n] [] (.msl 0 0 0 (l ++ enc n).length) [.row ((l ++ enc n).map byteAV) 1 0] := by
  (intro X hP hΓ hL hfin; refine ⟨_, rfl, ?_⟩; rw [show Tryz.f11.ntmps = 9 from rfl]; rw [show Tryz.f11.results.toList = [.tmp 4] from rfl] at hfin; apply holds_of_ex X 400; simp only [push_cast, reduceCtorEq, Nat.reduceAdd, Nat.reduceMul, Nat.reduceSub, Nat.reduceBEq, Nat.reduceGT, Nat.reduceLT, Int.toNat_zero, Nat.reduceLeDiff, Int.reduceEq, Int.reduceLT, Int.reduceLE, hP, hΓ, hL, hfin, h23, h24])
  refine ⟨⟨⟨l, rfl, rfl⟩, by omega⟩, ⟨⟨l, rfl, rfl⟩, ⟨n, rfl, hn⟩, hl⟩, ?_⟩
  (refine IntoF.ver 0  0 (by simp only [push_cast, reduceCtorEq, Nat.reduceAdd, Nat.reduceMul, Nat.reduceSub, Nat.reduceBEq, Nat.reduceGT, Nat.reduceLT, Int.toNat_zero, Nat.reduceLeDiff, Int.reduceEq, Int.reduceLT, Int.reduceLE]) (by first | exact .inr (Nat.zero_le _) | (left; simp only [push_cast, reduceCtorEq, Nat.reduceAdd, Nat.reduceMul, Nat.reduceSub, Nat.reduceBEq, Nat.reduceGT, Nat.reduceLT, Int.toNat_zero, Nat.reduceLeDiff, Int.reduceEq, Int.reduceLT, Int.reduceLE]; omega) | (right; simp only [push_cast, reduceCtorEq, Nat.reduceAdd, Nat.reduceMul, Nat.reduceSub, Nat.reduceBEq, Nat.reduceGT, Nat.reduceLT, Int.toNat_zero, Nat.reduceLeDiff, Int.reduceEq, Int.reduceLT, Int.reduceLE]; omega)) ?_; simp only [push_cast, reduceCtorEq, Nat.reduceAdd, Nat.reduceMul, Nat.reduceSub, Nat.reduceBEq, Nat.reduceGT, Nat.reduceLT, Int.toNat_zero, Nat.reduceLeDiff, Int.reduceEq, Int.reduceLT, Int.reduceLE])
  (try simp only [List.map_append, List.append_assoc, List.map_cons, List.map_nil, List.length_append, List.length_cons, List.length_nil, byteAV, Nat.add_assoc, Nat.reduceAdd, Nat.zero_add, Nat.add_zero, List.append_nil, List.cons_append, List.nil_append])
  exact Into.sameA
theorem rem_nat (n m : Nat) : (n : Int).tmod m = ((n % m : Nat) : Int) := by
  exact (Int.ofNat_tmod n m).symm
theorem ref_byte (n : Nat) : IntKind.u8.wrap (IntKind.u32.wrap ((n : Int).tmod 128 + 128)) = ((hi7 n).toNat : Int) := by
  rw [show (128 : Int) = ((128 : Nat) : Int) from rfl, rem_nat, ← Int.natCast_add, wrap_u32, wrap_u8, hi7, m32]
  simp
theorem ref_q (n : Nat) (h : n < 2 ^ 32) : IntKind.u32.wrap ((n : Int).tdiv 128) = (q7 n : Int) := by
  rw [show (128 : Int) = ((128 : Nat) : Int) from rfl, show (n : Int).tdiv ((128 : Nat) : Int) = ((n / 128 : Nat) : Int) from rfl, wrap_u32, q7, m32]
  congr 1; omega
/-- the same, laid fast: nothing of the heap is turned -/
def newQ (p : List AV → Prop) (k : List AV → List UInt8) : FSpec := lift0 p (fun xs => .sl ((k xs).map byteAV) (k xs).length) (fun _ => []) true
def putTextK (xs : List AV) : List UInt8 := match xs with
  | [.sl cs _, .str s] => unbytes cs ++ (enc (m32 s.length) ++ s)
  | _ => []
def putTextP (xs : List AV) : Prop := match xs with
  | [.sl cs n, .str s] => (∃ l : List UInt8, cs = l.map byteAV ∧ n = l.length) ∧ n + 5 + s.length ≤ BIG
  | _ => False
attribute [push_cast] newQ putTextK putTextP
theorem quick {Γ : Env} {fn : Func} {xs : List AV} {l : List UInt8} (h : BodyOk Tryz.prog Γ fn xs [] (.msl 0 0 0 l.length) [.row (l.map byteAV) 1 0]) : BodyOk Tryz.prog Γ fn xs [] (.sl (l.map byteAV) l.length) [] := by
  refine BodyOk.weak h ?_
  (refine IntoF.frz 0 (by simp only [push_cast, reduceCtorEq, Nat.reduceAdd, Nat.reduceMul, Nat.reduceSub, Nat.reduceBEq, Nat.reduceGT, Nat.reduceLT, Int.toNat_zero, Nat.reduceLeDiff, Int.reduceEq, Int.reduceLT, Int.reduceLE]; first | done | decide | omega) (by simp only [frzOk', frzOk, isMap, or_true, true_or, push_cast, reduceCtorEq, Nat.reduceAdd, Nat.reduceMul, Nat.reduceSub, Nat.reduceBEq, Nat.reduceGT, Nat.reduceLT, Int.toNat_zero, Nat.reduceLeDiff, Int.reduceEq, Int.reduceLT, Int.reduceLE]) ?_; simp only [push_cast, reduceCtorEq, Nat.reduceAdd, Nat.reduceMul, Nat.reduceSub, Nat.reduceBEq, Nat.reduceGT, Nat.reduceLT, Int.toNat_zero, Nat.reduceLeDiff, Int.reduceEq, Int.reduceLT, Int.reduceLE])
  rw [List.take_of_length_le (by simp)]
  exact Into.keep0 (leF_refl _) (by simp only [push_cast, reduceCtorEq, Nat.reduceAdd, Nat.reduceMul, Nat.reduceSub, Nat.reduceBEq, Nat.reduceGT, Nat.reduceLT, Int.toNat_zero, Nat.reduceLeDiff, Int.reduceEq, Int.reduceLT, Int.reduceLE]) rfl (Nat.le_refl _)
theorem conUintP {Γ : Env} (h : EnvOk Tryz.prog Γ) {f : FuncId} {fn : Func} (hf : Tryz.prog.funcs[f]? = some fn) (hb : fn.body.isNone = false) (hn : (fn.name == "runtime.NumGoroutine") = false)
    (hh : ∀ (l : List UInt8) (n : Nat), n < 2 ^ 32 → l.length + 5 ≤ BIG → BodyOk Tryz.prog Γ fn [.sl (l.map byteAV) l.length, .int .u32 n] [] (.msl 0 0 0 (l ++ enc n).length) [.row ((l ++ enc n).map byteAV) 1 0]) :
    Con Tryz.prog f (newS putUintP putUintK) ∧ Con Tryz.prog f (newQ putUintP putUintK) := by
  constructor
  · refine Con.of_body h hf hb hn (fun h => by cases h) fun xs hx => ?_
    unfold putUintP at hx
    split at hx
    · obtain ⟨⟨l, rfl, rfl⟩, hl, rfl, m, rfl, hm⟩ := hx
      rw [show putUintK [.sl (l.map byteAV) l.length, .int .u32 ↑m] = l ++ enc m by simp only [putUintK, unbytes_map, Int.toNat_natCast]]
      exact hh l m hm hl
    · exact hx.elim
  · refine Con.of_body h hf hb hn (fun _ _ => rfl) fun xs hx => ?_
    unfold putUintP at hx
    split at hx
    · obtain ⟨⟨l, rfl, rfl⟩, hl, rfl, m, rfl, hm⟩ := hx
      rw [show putUintK [.sl (l.map byteAV) l.length, .int .u32 ↑m] = l ++ enc m by simp only [putUintK, unbytes_map, Int.toNat_natCast]]
      exact quick (hh l m hm hl)
    · exact hx.elim
theorem conTextP {Γ : Env} (h : EnvOk Tryz.prog Γ) {f : FuncId} {fn : Func} (hf : Tryz.prog.funcs[f]? = some fn) (hb : fn.body.isNone = false) (hn : (fn.name == "runtime.NumGoroutine") = false)
    (hh : ∀ (l s : List UInt8), l.length + 5 + s.length ≤ BIG → BodyOk Tryz.prog Γ fn [.sl (l.map byteAV) l.length, .str s] [] (.msl 0 0 0 (l ++ (enc (m32 s.length) ++ s)).length) [.row ((l ++ (enc (m32 s.length) ++ s)).map byteAV) 1 0]) :
    Con Tryz.prog f (newS putTextP putTextK) ∧ Con Tryz.prog f (newQ putTextP putTextK) := by
  constructor
  · refine Con.of_body h hf hb hn (fun h => by cases h) fun xs hx => ?_
    unfold putTextP at hx
    split at hx
    · rename_i s
      obtain ⟨⟨l, rfl, rfl⟩, hl⟩ := hx
      rw [show putTextK [.sl (l.map byteAV) l.length, .str s] = l ++ (enc (m32 s.length) ++ s) by simp only [putTextK, unbytes_map]]
      exact hh l s hl
    · exact hx.elim
  · refine Con.of_body h hf hb hn (fun _ _ => rfl) fun xs hx => ?_
    unfold putTextP at hx
    split at hx
    · rename_i s
      obtain ⟨⟨l, rfl, rfl⟩, hl⟩ := hx
      rw [show putTextK [.sl (l.map byteAV) l.length, .str s] = l ++ (enc (m32 s.length) ++ s) by simp only [putTextK, unbytes_map]]
      exact quick (hh l s hl)
    · exact hx.elim
theorem con8 {Γ : Env} (h : EnvOk Tryz.prog Γ) (h23 : Γ 27 = some numS) (h24 : Γ 28 = some cloneS) : Con Tryz.prog 11 (newS putUintP putUintK) :=
  (conUintP h (fn := Tryz.f11) (by kernel_rfl) rfl (by kernel_rfl) fun l n hn hl => putUint_body Γ h23 h24 l n hn hl).1
end Go.Proofs.YtmilngcgcolpbaaGreat.objNumbersDone
