/- Of lines: a text cut at a letter. Conditions stand in each. -/
import Derived.Test.YtenopfmafecffaaGreatDoorLP
import Derived.Test.YtenopfmafecffaaGreatDoorED
import Derived.Lib.Bytealg
import Derived.Laws.Externs
namespace Go.Lines
open Go.Lib
def consHead (b : UInt8) : List (List UInt8) → List (List UInt8)
  | [] => [[b]]
  | w :: r => (b :: w) :: r
/-- a text's pieces between the letters c -/
def pieces (c : UInt8) : List UInt8 → List (List UInt8)
  | [] => [[]]
  | b :: l => if b = c then [] :: pieces c l else consHead b (pieces c l)
theorem consHead_len {b : UInt8} {p : List (List UInt8)} (h : p ≠ []) : (consHead b p).length = p.length := by
  cases p with
  | nil => exact absurd rfl h
  | cons w r => rfl
theorem pieces_len (c : UInt8) : ∀ l, (pieces c l).length = countByte l c + 1
  | [] => rfl
  | b :: l => by
    have ih := pieces_len c l
    have hne : pieces c l ≠ [] := by intro h; rw [h] at ih; simp at ih
    rw [pieces]
    unfold countByte at *
    split
    · rename_i h; subst h; rw [List.length_cons, ih, List.count_cons_self]
    · rename_i h; rw [consHead_len hne, ih, List.count_cons_of_ne h]
theorem pieces_ne (c : UInt8) (l : List UInt8) : pieces c l ≠ [] := by intro h; have := pieces_len c l; rw [h] at this; simp at this
theorem pieces_ix (c : UInt8) : ∀ l, (indexByte l c = -1 ∧ pieces c l = [l]) ∨ ∃ i : Nat, indexByte l c = i ∧ i < l.length ∧ pieces c l = l.take i :: pieces c (l.drop (i + 1))
  | [] => .inl ⟨rfl, rfl⟩
  | b :: l => by
    rw [indexByte, pieces]
    by_cases hb : b = c
    · right
      exact ⟨0, by simp [hb], Nat.succ_pos _, by simp [hb]⟩
    · have hb' : (b == c) = false := by simpa using hb
      rcases pieces_ix c l with ⟨h1, h2⟩ | ⟨i, h1, h2, h3⟩
      · left
        simp [hb, h1, h2, consHead]
      · right
        refine ⟨i + 1, ?_, by simp; omega, ?_⟩
        · rw [hb', h1]
          have : ((i : Int) == -1) = false := by simp
          simp [this]
        · simp [hb, h3, consHead]
theorem pieces_last {c : UInt8} {l : List UInt8} (h : (pieces c l).length = 1) : pieces c l = [l] := by
  rcases pieces_ix c l with ⟨_, h2⟩ | ⟨i, _, _, h3⟩
  · exact h2
  · rw [h3] at h
    have := pieces_ne c (l.drop (i + 1))
    simp at h
    exact absurd h this
theorem pieces_le (c : UInt8) (l : List UInt8) : (pieces c l).length ≤ l.length + 1 := by
  rw [pieces_len]
  have : countByte l c ≤ l.length := List.count_le_length
  omega
/-- the pieces, put together -/
theorem pieces_back (c : UInt8) : ∀ (l : List UInt8), ∃ ls r, pieces c l = ls ++ [r] ∧ (ls.flatMap fun w => w ++ [c]) ++ r = l
  | [] => ⟨[], [], rfl, rfl⟩
  | b :: l => by
    obtain ⟨ls, r, h1, h2⟩ := pieces_back c l
    rw [pieces]
    by_cases hb : b = c
    · exact ⟨[] :: ls, r, by simp [hb, h1], by simp [hb, h2]⟩
    · cases ls with
      | nil => exact ⟨[], b :: r, by simp [hb, h1, consHead], by simpa using h2⟩
      | cons w ls => exact ⟨(b :: w) :: ls, r, by simp [hb, h1, consHead], by simpa using h2⟩
end Go.Lines
namespace Go.Proofs.YtenopfmafecffaaGreatDoor.linesDone
open Go.Proofs.YtenopfmafecffaaGreatDoor.lineDone
open Go Go.Eng Go.Proofs Go.Lines Go.Lib
set_option linter.unusedVariables false
set_option linter.unusedSimpArgs false
def oneP (xs : List AV) : Prop := match xs with
  | [.str l, .int .u8 n] => (∃ c : UInt8, n = c.toNat) ∧ l.length ≤ 4194304
  | _ => False
def ixR (xs : List AV) : AV := match xs with
  | [.str l, .int _ n] => .int .i64 (indexByte l n.toNat.toUInt8)
  | _ => .any
def ctR (xs : List AV) : AV := match xs with
  | [.str l, .int _ n] => .int .i64 (countByte l n.toNat.toUInt8)
  | _ => .any
def ixS : FSpec := lift0 oneP ixR (fun _ => []) true
def ctS : FSpec := lift0 oneP ctR (fun _ => []) true
attribute [push_cast] oneP ixR ctR ixS ctS
theorem byte_back (c : UInt8) : c.toNat.toUInt8 = c := by simp
theorem one0 : decide ((0 : Int) + 1 = 0) = false := by decide
theorem one1 : decide ((0 : Int) + 1 = 1) = true := by decide
theorem oneN (c : UInt8) : ([c] == ([] : List UInt8)) = false := rfl
attribute [push_cast] one0 one1 oneN byte_back
theorem con57 : Con Tryz.prog 129 ixS := by
  refine Con.ofExt (fun xs hx => ?_) fun m w xs vs hc hx => ?_
  · unfold oneP at hx
    split at hx
    · exact ⟨_, _, rfl⟩
    · exact hx.elim
  · unfold oneP at hx
    split at hx
    · rename_i l n
      simp only [CRel, VRel] at hc
      obtain ⟨v1, vs, rfl, rfl, v2, vs, rfl, rfl, rfl⟩ := hc
      refine ⟨.int .i64 (indexByte l n.toNat.toUInt8), ?_, by simp [ixR, VRel]⟩
      rw [run_callFunc_extern Tryz.func129 (by kernel_rfl) (by kernel_rfl) (by kernel_rfl) (e := Extern.BytealgIndexByte.indexByte) (by kernel_rfl), Lib.run_indexByteString]
      rfl
    · exact hx.elim
theorem con33 : Con Tryz.prog 127 ctS := by
  refine Con.ofExt (fun xs hx => ?_) fun m w xs vs hc hx => ?_
  · unfold oneP at hx
    split at hx
    · exact ⟨_, _, rfl⟩
    · exact hx.elim
  · unfold oneP at hx
    split at hx
    · rename_i l n
      simp only [CRel, VRel] at hc
      obtain ⟨v1, vs, rfl, rfl, v2, vs, rfl, rfl, rfl⟩ := hc
      refine ⟨.int .i64 (countByte l n.toNat.toUInt8), ?_, by simp [ctR, VRel]⟩
      rw [run_callFunc_extern Tryz.func127 (by kernel_rfl) (by kernel_rfl) (by kernel_rfl) (e := Extern.BytealgCount.count) (by kernel_rfl), Lib.run_countString]
      rfl
    · exact hx.elim
theorem byte47 (Γ : Env) (h57 : Γ 129 = some ixS) (l : List UInt8) (c : UInt8) (hl : l.length ≤ 4194304) : BodyOk Tryz.prog Γ Tryz.f114 [.str l, .int .u8 c.toNat] [] (.int .i64 (indexByte l c)) [] := by
  (intro X hP hΓ hL hfin; refine ⟨_, rfl, ?_⟩; rw [show Tryz.f114.ntmps = 8 from rfl]; rw [show Tryz.f114.results.toList = [.tmp 4] from rfl] at hfin; apply holds_of_ex X 400; simp only [push_cast, reduceCtorEq, Nat.reduceAdd, Nat.reduceMul, Nat.reduceSub, Nat.reduceBEq, Nat.reduceGT, Nat.reduceLT, Int.toNat_zero, Nat.reduceLeDiff, Int.reduceEq, Int.reduceLT, Int.reduceLE, hP, hΓ, hL, hfin, h57])
  exact ⟨⟨⟨c, rfl⟩, hl⟩, Into.one rfl rfl⟩
theorem con47 {Γ : Env} (h : EnvOk Tryz.prog Γ) (h57 : Γ 129 = some ixS) : Con Tryz.prog 114 ixS := by
  refine Con.of_body h (fn := Tryz.f114) (by kernel_rfl) rfl (by kernel_rfl) (fun _ _ => rfl) fun xs hx => ?_
  unfold oneP at hx
  split at hx
  · obtain ⟨⟨c, rfl⟩, hl⟩ := hx
    have := byte47 Γ h57 _ c hl
    simpa [ixR] using this
  · exact hx.elim
/-- the same, where the letter comes as a text -/
def oneT (xs : List AV) : Prop := match xs with
  | [.str l, .str s] => (∃ c : UInt8, s = [c]) ∧ l.length ≤ 4194304
  | _ => False
def ixT (xs : List AV) : AV := match xs with
  | [.str l, .str s] => .int .i64 (indexByte l (s.getD 0 0))
  | _ => .any
def ctT (xs : List AV) : AV := match xs with
  | [.str l, .str s] => .int .i64 (countByte l (s.getD 0 0))
  | _ => .any
def ixTS : FSpec := lift0 oneT ixT (fun _ => []) true
def ctTS : FSpec := lift0 oneT ctT (fun _ => []) true
attribute [push_cast] oneT ixT ctT ixTS ctTS
theorem text34 (Γ : Env) (h47 : Γ 114 = some ixS) (l : List UInt8) (c : UInt8) (hl : l.length ≤ 4194304) : BodyOk Tryz.prog Γ Tryz.f128 [.str l, .str [c]] [] (.int .i64 (indexByte l c)) [] := by
  (intro X hP hΓ hL hfin; refine ⟨_, rfl, ?_⟩; rw [show Tryz.f128.ntmps = 143 from rfl]; rw [show Tryz.f128.results.toList = [.tmp 4] from rfl] at hfin; apply holds_of_ex X 400; simp only [push_cast, reduceCtorEq, Nat.reduceAdd, Nat.reduceMul, Nat.reduceSub, Nat.reduceBEq, Nat.reduceGT, Nat.reduceLT, Int.toNat_zero, Nat.reduceLeDiff, Int.reduceEq, Int.reduceLT, Int.reduceLE, hP, hΓ, hL, hfin, h47])
  refine exB_split (fun h => ?_) (fun h => ?_)
  · ((first | with_reducible refine holds_of_ex X 400 _ _ _ ?_ | skip); simp only [push_cast, reduceCtorEq, Nat.reduceAdd, Nat.reduceMul, Nat.reduceSub, Nat.reduceBEq, Nat.reduceGT, Nat.reduceLT, Int.toNat_zero, Nat.reduceLeDiff, Int.reduceEq, Int.reduceLT, Int.reduceLE, hP, hΓ, hL, hfin])
    have e : l = [c] := (eq_of_beq h).symm
    subst e
    exact Into.one (by simp [indexByte]) rfl
  · ((first | with_reducible refine holds_of_ex X 400 _ _ _ ?_ | skip); simp only [push_cast, reduceCtorEq, Nat.reduceAdd, Nat.reduceMul, Nat.reduceSub, Nat.reduceBEq, Nat.reduceGT, Nat.reduceLT, Int.toNat_zero, Nat.reduceLeDiff, Int.reduceEq, Int.reduceLT, Int.reduceLE, hP, hΓ, hL, hfin, h47])
    exact ⟨by omega, ⟨⟨c, rfl⟩, hl⟩, Into.one rfl rfl⟩
theorem con34 {Γ : Env} (h : EnvOk Tryz.prog Γ) (h47 : Γ 114 = some ixS) : Con Tryz.prog 128 ixTS := by
  refine Con.of_body h (fn := Tryz.f128) (by kernel_rfl) rfl (by kernel_rfl) (fun _ _ => rfl) fun xs hx => ?_
  unfold oneT at hx
  split at hx
  · obtain ⟨⟨c, rfl⟩, hl⟩ := hx
    exact text34 Γ h47 _ c hl
  · exact hx.elim
theorem text27 (Γ : Env) (h34 : Γ 128 = some ixTS) (l : List UInt8) (c : UInt8) (hl : l.length ≤ 4194304) : BodyOk Tryz.prog Γ Tryz.f113 [.str l, .str [c]] [] (.int .i64 (indexByte l c)) [] := by
  (intro X hP hΓ hL hfin; refine ⟨_, rfl, ?_⟩; rw [show Tryz.f113.ntmps = 8 from rfl]; rw [show Tryz.f113.results.toList = [.tmp 4] from rfl] at hfin; apply holds_of_ex X 400; simp only [push_cast, reduceCtorEq, Nat.reduceAdd, Nat.reduceMul, Nat.reduceSub, Nat.reduceBEq, Nat.reduceGT, Nat.reduceLT, Int.toNat_zero, Nat.reduceLeDiff, Int.reduceEq, Int.reduceLT, Int.reduceLE, hP, hΓ, hL, hfin, h34])
  exact ⟨⟨⟨c, rfl⟩, hl⟩, Into.one rfl rfl⟩
theorem con27 {Γ : Env} (h : EnvOk Tryz.prog Γ) (h34 : Γ 128 = some ixTS) : Con Tryz.prog 113 ixTS := by
  refine Con.of_body h (fn := Tryz.f113) (by kernel_rfl) rfl (by kernel_rfl) (fun _ _ => rfl) fun xs hx => ?_
  unfold oneT at hx
  split at hx
  · obtain ⟨⟨c, rfl⟩, hl⟩ := hx
    exact text27 Γ h34 _ c hl
  · exact hx.elim
theorem text26 (Γ : Env) (h33 : Γ 127 = some ctS) (l : List UInt8) (c : UInt8) (hl : l.length ≤ 4194304) : BodyOk Tryz.prog Γ Tryz.f112 [.str l, .str [c]] [] (.int .i64 (countByte l c)) [] := by
  (intro X hP hΓ hL hfin; refine ⟨_, rfl, ?_⟩; rw [show Tryz.f112.ntmps = 34 from rfl]; rw [show Tryz.f112.results.toList = [.tmp 4] from rfl] at hfin; apply holds_of_ex X 400; simp only [push_cast, reduceCtorEq, Nat.reduceAdd, Nat.reduceMul, Nat.reduceSub, Nat.reduceBEq, Nat.reduceGT, Nat.reduceLT, Int.toNat_zero, Nat.reduceLeDiff, Int.reduceEq, Int.reduceLT, Int.reduceLE, hP, hΓ, hL, hfin, h33])
  exact ⟨by omega, ⟨⟨c, rfl⟩, hl⟩, Into.one rfl rfl⟩
theorem con26 {Γ : Env} (h : EnvOk Tryz.prog Γ) (h33 : Γ 127 = some ctS) : Con Tryz.prog 112 ctTS := by
  refine Con.of_body h (fn := Tryz.f112) (by kernel_rfl) rfl (by kernel_rfl) (fun _ _ => rfl) fun xs hx => ?_
  unfold oneT at hx
  split at hx
  · obtain ⟨⟨c, rfl⟩, hl⟩ := hx
    exact text26 Γ h33 _ c hl
  · exact hx.elim
theorem laid_piece (d : List (List UInt8)) (n : Nat) (x : List UInt8) (h : d.length < n) : List.take d.length ((d ++ List.replicate (n - d.length) []).map AV.str) ++ AV.str x :: List.drop (d.length + 1) ((d ++ List.replicate (n - d.length) []).map AV.str) = ((d ++ [x]) ++ List.replicate (n - (d ++ [x]).length) []).map .str := by
  have e : List.replicate (n - d.length) ([] : List UInt8) = [] :: List.replicate (n - (d.length + 1)) [] := by
    rw [← List.replicate_succ]; congr 1; omega
  rw [e]
  simp [List.take_append, List.drop_append]
set_option maxRecDepth 100000 in
theorem split_body (Γ : Env) (h26 : Γ 112 = some ctTS) (h27 : Γ 113 = some ixTS) (l : List UInt8) (c : UInt8) (hl : l.length ≤ 4194304) : BodyOk Tryz.prog Γ Tryz.f93 [.str l, .str [c], .int .i64 0, .int .i64 (-1)] [] (.sl ((pieces c l).map .str) (pieces c l).length) [] := by
  have hpl := pieces_len c l
  have hp1 := pieces_le c l
  have hu0 : IntKind.i64.wrap ((countByte l c : Int) + 1) = (countByte l c : Int) + 1 := wrap_i64 _ (by omega)
  have hu1 : IntKind.i64.wrap ((l.length : Int) + 1) = (l.length : Int) + 1 := wrap_i64 _ (by omega)
  have hmin : min ((countByte l c : Int) + 1) ((l.length : Int) + 1) = (countByte l c : Int) + 1 := by omega
  obtain ⟨N, hN⟩ : ∃ N, N = countByte l c + 1 := ⟨_, rfl⟩
  have hmt : ((countByte l c : Int) + 1).toNat = N := by omega
  have hu2 : IntKind.i64.wrap ((countByte l c : Int) + 1 - 1) = (countByte l c : Int) := by rw [Int.add_sub_cancel]; exact wrap_i64 _ (by omega)
  generalize hk : countByte l c = k at *
  (intro X hP hΓ hL hfin; refine ⟨_, rfl, ?_⟩; rw [show Tryz.f93.ntmps = 66 from rfl]; rw [show Tryz.f93.results.toList = [.tmp 8] from rfl] at hfin; apply holds_of_ex X 400; simp only [push_cast, reduceCtorEq, Nat.reduceAdd, Nat.reduceMul, Nat.reduceSub, Nat.reduceBEq, Nat.reduceGT, Nat.reduceLT, Int.toNat_zero, Nat.reduceLeDiff, Int.reduceEq, Int.reduceLT, Int.reduceLE, hP, hΓ, hL, hfin, h26, hu0, hu1, hu2, hmin, hmt, hk])
  have hz : (List.replicate N [AV.str []]).flatten = (List.replicate N ([] : List UInt8)).map AV.str := by simp
  rw [hz]
  refine ⟨⟨⟨c, rfl⟩, hl⟩, ⟨by omega, by omega, by omega⟩, ?_⟩
  refine Holds.loop (ι := { p : List (List UInt8) × List UInt8 // p.1 ++ pieces c p.2 = pieces c l ∧ p.2.length ≤ l.length }) (fun i => ([.str i.1.2, .str [c], .int .i64 0, .int .i64 k, .any, .any, .any, .any, .any, .msl 0 0 0 N, .int .i64 i.1.1.length, .any, .any, .any, .any, .any, .any, .any, .any, .any, .any, .any, .any, .any, .any, .any, .any, .any, .any, .any, .any, .any, .any, .any, .any, .any, .any, .any, .any, .any, .any, .any, .any, .any, .any, .any, .any, .any, .any, .any, .any, .any, .any, .any, .any, .any, .any, .any, .any, .any, .any, .any, .any, .any, .any, .any], [.row ((i.1.1 ++ List.replicate (N - i.1.1.length) []).map .str) 1 0])) (fun i => k + 1 - i.1.1.length) ⟨([], l), rfl, Nat.le_refl _⟩ ?_ ?_
  · rw [hL]
    simp only [List.length_nil, Nat.sub_zero, List.nil_append, Int.natCast_zero]
    exact Into.sameA
  rintro ⟨⟨d, r⟩, hd, hr⟩
  simp only at hd hr
  have hlen := congrArg List.length hd
  rw [List.length_append, hpl] at hlen
  have hpos : 0 < (pieces c r).length := List.length_pos_iff.2 (pieces_ne c r)
  have hu3 : IntKind.i64.wrap ((d.length : Int) + 1) = (d.length : Int) + 1 := wrap_i64 _ (by omega)
  ((first | with_reducible refine holds_of_ex X 400 _ _ _ ?_ | skip); simp only [push_cast, reduceCtorEq, Nat.reduceAdd, Nat.reduceMul, Nat.reduceSub, Nat.reduceBEq, Nat.reduceGT, Nat.reduceLT, Int.toNat_zero, Nat.reduceLeDiff, Int.reduceEq, Int.reduceLT, Int.reduceLE, hP, hΓ, hL, hfin])
  refine exB_split (fun h => ?_) (fun h => ?_)
  · have hlt : d.length < k := by have := of_decide_eq_true h; omega
    obtain ⟨j, hj1, hj2, hj3⟩ : ∃ j : Nat, indexByte r c = j ∧ j < r.length ∧ pieces c r = r.take j :: pieces c (r.drop (j + 1)) := by
      rcases pieces_ix c r with ⟨_, h2⟩ | h2
      · rw [h2] at hlen; simp at hlen; omega
      · exact h2
    have hn : decide ((j : Int) < 0) = false := by rw [decide_eq_false_iff_not]; omega
    have hu4 : IntKind.i64.wrap ((j : Int) + 0) = (j : Int) := by rw [Int.add_zero]; exact wrap_i64 _ (by omega)
    have hu5 : IntKind.i64.wrap ((j : Int) + (0 + 1)) = (j : Int) + 1 := wrap_i64 _ (by omega)
    have hjt : ((j : Int) + 1).toNat = j + 1 := by omega
    have hst := laid_piece d N (r.take j) (by omega)
    have e : r.take (min j r.length) = r.take j := by congr 1; omega
    ((first | with_reducible refine holds_of_ex X 400 _ _ _ ?_ | skip); simp only [push_cast, reduceCtorEq, Nat.reduceAdd, Nat.reduceMul, Nat.reduceSub, Nat.reduceBEq, Nat.reduceGT, Nat.reduceLT, Int.toNat_zero, Nat.reduceLeDiff, Int.reduceEq, Int.reduceLT, Int.reduceLE, hP, hΓ, hL, hfin, h27, hj1, hn, hu3, hu4, hu5, hjt, List.take_length])
    rw [List.append_assoc, List.singleton_append, hst]
    refine ⟨⟨⟨c, rfl⟩, by omega⟩, ⟨by omega, by omega⟩, ⟨by omega, by omega⟩, by simp; omega, ⟨by omega, by omega, by omega⟩, ⟨(d ++ [r.take j], r.drop (j + 1)), by rw [List.append_assoc, List.singleton_append, ← hj3, hd], by simp only [List.length_drop]; omega⟩, by simp only [List.length_append, List.length_cons, List.length_nil]; omega, ?_⟩
    simp only [List.length_append, List.length_cons, List.length_nil, Nat.zero_add]
    exact Into.sameA
  · have hdk : d.length = k := by have := of_decide_eq_false h; omega
    have hp : pieces c r = [r] := pieces_last (by omega)
    rw [hp] at hd
    have hst := laid_piece d N r (by omega)
    rw [hd, hpl, show N - (k + 1) = 0 by omega, List.replicate_zero, List.append_nil] at hst
    ((first | with_reducible refine holds_of_ex X 400 _ _ _ ?_ | skip); simp only [push_cast, reduceCtorEq, Nat.reduceAdd, Nat.reduceMul, Nat.reduceSub, Nat.reduceBEq, Nat.reduceGT, Nat.reduceLT, Int.toNat_zero, Nat.reduceLeDiff, Int.reduceEq, Int.reduceLT, Int.reduceLE, hP, hΓ, hL, hfin, hu3])
    rw [List.append_assoc, List.singleton_append, hst, show ((d.length : Int) + 1).toNat - 0 = (pieces c l).length by omega]
    refine ⟨⟨by omega, by omega⟩, by simp; omega, ⟨by omega, by simp only [List.length_replicate]; omega⟩, ?_⟩
    (refine IntoF.frz 0 (by simp only [push_cast, reduceCtorEq, Nat.reduceAdd, Nat.reduceMul, Nat.reduceSub, Nat.reduceBEq, Nat.reduceGT, Nat.reduceLT, Int.toNat_zero, Nat.reduceLeDiff, Int.reduceEq, Int.reduceLT, Int.reduceLE]; first | done | decide | omega) (by simp only [frzOk', frzOk, isMap, or_true, true_or, push_cast, reduceCtorEq, Nat.reduceAdd, Nat.reduceMul, Nat.reduceSub, Nat.reduceBEq, Nat.reduceGT, Nat.reduceLT, Int.toNat_zero, Nat.reduceLeDiff, Int.reduceEq, Int.reduceLT, Int.reduceLE]) ?_; simp only [push_cast, reduceCtorEq, Nat.reduceAdd, Nat.reduceMul, Nat.reduceSub, Nat.reduceBEq, Nat.reduceGT, Nat.reduceLT, Int.toNat_zero, Nat.reduceLeDiff, Int.reduceEq, Int.reduceLT, Int.reduceLE])
    exact Into.keep0A
def pieceP (xs : List AV) : Prop := match xs with
  | [.str l, .str s, .int .i64 a, .int .i64 b] => (∃ c : UInt8, s = [c]) ∧ l.length ≤ 4194304 ∧ a = 0 ∧ b = -1
  | _ => False
def pieceR (xs : List AV) : List (List UInt8) := match xs with
  | .str l :: .str s :: _ => pieces (s.getD 0 0) l
  | _ => []
def splitS : FSpec := lift0 pieceP (fun xs => .sl ((pieceR xs).map .str) (pieceR xs).length) (fun _ => []) true
attribute [push_cast] pieceP pieceR splitS
theorem con21 {Γ : Env} (h : EnvOk Tryz.prog Γ) (h26 : Γ 112 = some ctTS) (h27 : Γ 113 = some ixTS) : Con Tryz.prog 93 splitS := by
  refine Con.of_body h (fn := Tryz.f93) (by kernel_rfl) rfl (by kernel_rfl) (fun _ _ => rfl) fun xs hx => ?_
  unfold pieceP at hx
  split at hx
  · obtain ⟨⟨c, rfl⟩, hl, rfl, rfl⟩ := hx
    exact split_body Γ h26 h27 _ c hl
  · exact hx.elim
def split2S : FSpec := lift0 oneT (fun xs => .sl ((pieceR xs).map .str) (pieceR xs).length) (fun _ => []) true
attribute [push_cast] split2S
theorem split_top (Γ : Env) (h21 : Γ 93 = some splitS) (l : List UInt8) (c : UInt8) (hl : l.length ≤ 4194304) : BodyOk Tryz.prog Γ Tryz.f75 [.str l, .str [c]] [] (.sl ((pieces c l).map .str) (pieces c l).length) [] := by
  (intro X hP hΓ hL hfin; refine ⟨_, rfl, ?_⟩; rw [show Tryz.f75.ntmps = 8 from rfl]; rw [show Tryz.f75.results.toList = [.tmp 4] from rfl] at hfin; apply holds_of_ex X 400; simp only [push_cast, reduceCtorEq, Nat.reduceAdd, Nat.reduceMul, Nat.reduceSub, Nat.reduceBEq, Nat.reduceGT, Nat.reduceLT, Int.toNat_zero, Nat.reduceLeDiff, Int.reduceEq, Int.reduceLT, Int.reduceLE, hP, hΓ, hL, hfin, h21])
  exact ⟨⟨⟨c, rfl⟩, hl⟩, Into.one rfl (by simp only [push_cast])⟩
theorem con15 {Γ : Env} (h : EnvOk Tryz.prog Γ) (h21 : Γ 93 = some splitS) : Con Tryz.prog 75 split2S := by
  refine Con.of_body h (fn := Tryz.f75) (by kernel_rfl) rfl (by kernel_rfl) (fun _ _ => rfl) fun xs hx => ?_
  unfold oneT at hx
  split at hx
  · obtain ⟨⟨c, rfl⟩, hl⟩ := hx
    exact split_top Γ h21 _ c hl
  · exact hx.elim
/-- a text's whole lines, and the rest -/
theorem lines_body (Γ : Env) (h15 : Γ 75 = some split2S) (l : List UInt8) (hl : l.length ≤ 4194304) (ls : List (List UInt8)) (r : List UInt8) (hp : pieces 10 l = ls ++ [r]) : BodyOk Tryz.prog Γ Tryz.f47 [.str l] [] (.tup [.sl (ls.map .str) ls.length, .str r]) [] := by
  have hpl := pieces_le 10 l
  rw [hp] at hpl
  simp only [List.length_append, List.length_cons, List.length_nil] at hpl
  have hu : IntKind.i64.wrap ((ls.length : Int) + 1 - 1) = ls.length := by rw [Int.add_sub_cancel]; exact wrap_i64 _ (by omega)
  (intro X hP hΓ hL hfin; refine ⟨_, rfl, ?_⟩; rw [show Tryz.f47.ntmps = 19 from rfl]; rw [show Tryz.f47.results.toList = [.tmp 2, .tmp 3] from rfl] at hfin; apply holds_of_ex X 400; simp only [push_cast, reduceCtorEq, Nat.reduceAdd, Nat.reduceMul, Nat.reduceSub, Nat.reduceBEq, Nat.reduceGT, Nat.reduceLT, Int.toNat_zero, Nat.reduceLeDiff, Int.reduceEq, Int.reduceLT, Int.reduceLE, hP, hΓ, hL, hfin, h15, hp, hu])
  refine ⟨⟨⟨10, rfl⟩, hl⟩, ?_⟩
  have hdr : List.drop ls.length ((ls ++ [r]).map AV.str) = [.str r] := by rw [← List.map_drop, List.drop_left]; rfl
  have htk : List.take ls.length ((ls ++ [r]).map AV.str) = ls.map .str := by rw [← List.map_take, List.take_left]
  (refine Holds.drawnQ (by rw [hP]; kernel_rfl) (by kernel_rfl) ?_; simp only [push_cast, reduceCtorEq, Nat.reduceAdd, Nat.reduceMul, Nat.reduceSub, Nat.reduceBEq, Nat.reduceGT, Nat.reduceLT, Int.toNat_zero, Nat.reduceLeDiff, Int.reduceEq, Int.reduceLT, Int.reduceLE, hP, hΓ, hL, hfin, hdr, htk])
  exact ⟨⟨by omega, by omega, by omega⟩, ⟨by omega, by omega⟩, Into.one (by simp) (by simp only [push_cast])⟩
def lnF (l : List UInt8) : List (List UInt8) := (pieces 10 l).dropLast
def lrF (l : List UInt8) : List UInt8 := (pieces 10 l).getLastD []
theorem lines_eq (l : List UInt8) : pieces 10 l = lnF l ++ [lrF l] := by
  obtain ⟨ls, r, h, _⟩ := pieces_back 10 l
  rw [lnF, lrF, h]; simp
theorem lines_back (l : List UInt8) : ((lnF l).flatMap fun w => w ++ [10]) ++ lrF l = l := by
  obtain ⟨ls, r, h, h2⟩ := pieces_back 10 l
  have h3 := lines_eq l
  rw [h] at h3
  have := List.append_inj' h3 rfl
  rw [← this.1, ← (List.cons.inj this.2).1]; exact h2
def lwP (xs : List AV) : Prop := match xs with
  | [.str l] => l.length ≤ 4194304
  | _ => False
attribute [push_cast] lwP
def linesV (l : List UInt8) : AV := .tup [.sl ((lnF l).map .str) (lnF l).length, .str (lrF l)]
def linesS : FSpec := lift0 lwP (fun xs => match xs with | [.str l] => linesV l | _ => .any) (fun _ => []) true
attribute [push_cast] linesV linesS
theorem con6 {Γ : Env} (h : EnvOk Tryz.prog Γ) (h15 : Γ 75 = some split2S) : Con Tryz.prog 47 linesS := by
  refine Con.of_body h (fn := Tryz.f47) (by kernel_rfl) rfl (by kernel_rfl) (fun _ _ => rfl) fun xs hx => ?_
  unfold lwP at hx
  split at hx
  · exact lines_body Γ h15 _ hx _ _ (lines_eq _)
  · exact hx.elim
end Go.Proofs.YtenopfmafecffaaGreatDoor.linesDone
