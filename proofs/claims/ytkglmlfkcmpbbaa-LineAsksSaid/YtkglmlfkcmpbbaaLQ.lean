/- Of lines: LineAsks. Whatever the numbers. -/
import Derived.Test.YtkglmlfkcmpbbaaLL
import Derived.Test.YtkglmlfkcmpbbaaLC
namespace Go.Lines
open Go.Proofs.Ytkglmlfkcmpbbaa.lineDone
/-- so many words more -/
def more (w : List UInt8) (n : Nat) : List UInt8 := w ++ (List.replicate n [32, 119]).flatten
theorem more_len (w : List UInt8) (n : Nat) : (more w n).length = w.length + 2 * n := by simp [more]; omega
theorem more_succ (w : List UInt8) (n : Nat) : more w n ++ [32, 119] = more w (n + 1) := by
  simp [more, List.replicate_succ']
theorem ws_rep : ∀ n, ws ((List.replicate n [32, 119]).flatten : List UInt8) = List.replicate n [119]
  | 0 => ws_nil
  | n + 1 => by
    have hs : (List.replicate n ([32, 119] : List UInt8)).flatten = [] ∨ ∃ c r, (List.replicate n ([32, 119] : List UInt8)).flatten = c :: r ∧ bl c = true := by
      cases n with
      | zero => exact .inl rfl
      | succ n => exact .inr ⟨32, _, rfl, by decide⟩
    have e : (List.replicate (n + 1) ([32, 119] : List UInt8)).flatten = 32 :: ([119] ++ (List.replicate n [32, 119]).flatten) := rfl
    rw [e, ws_bl (by decide), ws_word (by decide) (by decide) hs, ws_rep n, List.replicate_succ]
theorem ws_more {w : List UInt8} (hne : w ≠ []) (hw : ∀ c ∈ w, bl c = false) (n : Nat) : ws (more w n) = w :: List.replicate n [119] := by
  rw [more, ws_word hne hw, ws_rep]
  cases n with
  | zero => exact .inl rfl
  | succ n => exact .inr ⟨32, _, rfl, by decide⟩
def asked (w : List UInt8) : Nat := if w == [99, 111, 112, 121] || w == [114, 101, 110, 97, 109, 101] then 2 else if w == [100, 105, 114] || w == [102, 114, 101, 101] then 0 else 1
def flag (w : List UInt8) : Bool := w == [97, 100, 100] || w == [112, 117, 116]
theorem name_facts : ∀ w ∈ names, cmd w = some (asked w, if flag w then 1 else 0) ∧ w.length ≤ 6 ∧ w ≠ [] ∧ (∀ c ∈ w, bl c = false) ∧ (flag w = true → asked w = 1) := by decide +kernel
theorem pres_bad_more {w : List UInt8} (hw : w ∈ names) {n : Nat} (hn : n ≤ 40) (h : n < asked w ∨ (asked w < n ∧ flag w = false)) : pres (more w n) = ([], [], [], 192) := by
  obtain ⟨h1, h2, h3, h4, h5⟩ := name_facts w hw
  refine pres_bad (by rw [more_len]; omega) (ws_more h3 h4 n) h1 ?_
  rw [List.length_replicate]
  rcases h with h | ⟨h, hf⟩
  · exact .inl h
  · exact .inr ⟨h, by rw [hf]; rfl⟩
theorem pres_good_more {w : List UInt8} (hw : w ∈ names) {n : Nat} (hn : n ≤ 40) (h : ¬(n < asked w ∨ (asked w < n ∧ flag w = false))) :
    pres (more w n) = (w, List.replicate (asked w) [119], text (asked w + 1) (more w n), 0) ∧ (flag w && decide ((1 : Int) < n) || text (asked w + 1) (more w n) == []) = true := by
  obtain ⟨h1, h2, h3, h4, h5⟩ := name_facts w hw
  have hk : asked w ≤ n := by omega
  constructor
  · rw [pres_good (by rw [more_len]; omega) (ws_more h3 h4 n) h1 ?_, List.take_replicate, Nat.min_eq_left hk]
    rw [List.length_replicate]
    rintro (h' | ⟨h', hf⟩)
    · omega
    · refine h (.inr ⟨h', ?_⟩)
      cases hfl : flag w
      · rfl
      · rw [hfl] at hf; cases hf
  · by_cases hn1 : n ≤ asked w
    · rw [text_end (by rw [ws_more h3 h4, List.length_cons, List.length_replicate]; omega)]
      simp
    · cases hfl : flag w
      · exact absurd (.inr ⟨by omega, hfl⟩) h
      · have := h5 hfl
        have hd : decide ((1 : Int) < n) = true := by rw [decide_eq_true_eq]; omega
        rw [hd]; rfl
end Go.Lines
namespace Go.Proofs.Ytkglmlfkcmpbbaa.lineDone
open Go Go.Eng Go.Proofs Go.Lines
set_option linter.unusedVariables false
set_option linter.unusedSimpArgs false
def keysS : FSpec := lift0 (fun xs => xs = [.mpr none cmdF]) (fun _ => .fn (.func 38) [] [.ref 0 0 0]) (fun _ => [.row [.mpr none cmdF] 1 0]) false
attribute [push_cast] keysS sortedS sortedP
theorem keys_body (Γ : Env) : BodyOk Try.prog Γ Try.f33 [.mpr none cmdF] [] (.fn (.func 38) [] [.ref 0 0 0]) [.row [.mpr none cmdF] 1 0] := by
  (intro X hP hΓ hL hfin; refine ⟨_, rfl, ?_⟩; rw [show Try.f33.ntmps = 4 from rfl]; rw [show Try.f33.results.toList = [.tmp 2] from rfl] at hfin; apply holds_of_ex X 400; simp only [push_cast, reduceCtorEq, Nat.reduceAdd, Nat.reduceMul, Nat.reduceSub, Nat.reduceBEq, Nat.reduceGT, Nat.reduceLT, Int.toNat_zero, Nat.reduceLeDiff, Int.reduceEq, Int.reduceLT, Int.reduceLE, hP, hΓ, hL, hfin])
  exact Into.same (by first | exact leF_refl _ | (simp only [leF, true_and, and_true, and_self]; done) | (simp [leF]; done)) (by simp only [List.all_cons, List.all_nil, push_cast, reduceCtorEq, Nat.reduceAdd, Nat.reduceMul, Nat.reduceSub, Nat.reduceBEq, Nat.reduceGT, Nat.reduceLT, Int.toNat_zero, Nat.reduceLeDiff, Int.reduceEq, Int.reduceLT, Int.reduceLE]) (by simp only [List.all_cons, List.all_nil, push_cast, reduceCtorEq, Nat.reduceAdd, Nat.reduceMul, Nat.reduceSub, Nat.reduceBEq, Nat.reduceGT, Nat.reduceLT, Int.toNat_zero, Nat.reduceLeDiff, Int.reduceEq, Int.reduceLT, Int.reduceLE]) (by first | decide | simp)
theorem con33 {Γ : Env} (h : EnvOk Try.prog Γ) : Con Try.prog 33 keysS := by
  refine Con.of_body h (fn := Try.f33) (by kernel_rfl) rfl (by kernel_rfl) (fun h => by cases h) fun xs hx => ?_
  obtain rfl := hx
  exact keys_body Γ
def namesS : FSpec := lift0 (fun xs => xs = []) (fun _ => .sl (names.map .str) 10) (fun _ => []) true
attribute [push_cast] namesS
theorem names_body (Γ : Env) (h26 : Γ 26 = some cmdS) (h33 : Γ 33 = some keysS) (h32 : Γ 32 = some sortedS) : BodyOk Try.prog Γ Try.f17 [] [] (.sl (names.map .str) 10) [] := by
  (intro X hP hΓ hL hfin; refine ⟨_, rfl, ?_⟩; rw [show Try.f17.ntmps = 4 from rfl]; rw [show Try.f17.results.toList = [.tmp 0] from rfl] at hfin; apply holds_of_ex X 400; simp only [push_cast, reduceCtorEq, Nat.reduceAdd, Nat.reduceMul, Nat.reduceSub, Nat.reduceBEq, Nat.reduceGT, Nat.reduceLT, Int.toNat_zero, Nat.reduceLeDiff, Int.reduceEq, Int.reduceLT, Int.reduceLE, hP, hΓ, hL, hfin, h26, h33, h32])
  (refine Into.keep0 (by first | exact leF_refl _ | (simp only [leF, true_and, and_true, and_self]; done) | (simp [leF]; done)) (by simp only [List.all_cons, List.all_nil, push_cast, reduceCtorEq, Nat.reduceAdd, Nat.reduceMul, Nat.reduceSub, Nat.reduceBEq, Nat.reduceGT, Nat.reduceLT, Int.toNat_zero, Nat.reduceLeDiff, Int.reduceEq, Int.reduceLT, Int.reduceLE]) (by simp only [List.all_cons, List.all_nil, push_cast, reduceCtorEq, Nat.reduceAdd, Nat.reduceMul, Nat.reduceSub, Nat.reduceBEq, Nat.reduceGT, Nat.reduceLT, Int.toNat_zero, Nat.reduceLeDiff, Int.reduceEq, Int.reduceLT, Int.reduceLE]) (by first | decide | simp))
theorem con17 {Γ : Env} (h : EnvOk Try.prog Γ) (h26 : Γ 26 = some cmdS) (h33 : Γ 33 = some keysS) (h32 : Γ 32 = some sortedS) : Con Try.prog 17 namesS := by
  refine Con.of_body h (fn := Try.f17) (by kernel_rfl) rfl (by kernel_rfl) (fun _ _ => rfl) fun xs hx => ?_
  obtain rfl := hx
  exact names_body Γ h26 h33 h32
set_option maxRecDepth 100000 in
theorem asks_body (Γ : Env) (h12 : Γ 12 = some shS) (h13 : Γ 13 = some parseS) (h17 : Γ 17 = some namesS) (i n : Int) (hi : -9223372036854775808 ≤ i ∧ i ≤ 9223372036854775807) (hn : -9223372036854775808 ≤ n ∧ n ≤ 9223372036854775807) : BodyOk Try.prog Γ Try.f7 [.int .i64 i, .int .i64 n] [] (.bool true) [] := by
  (intro X hP hΓ hL hfin; refine ⟨_, rfl, ?_⟩; rw [show Try.f7.ntmps = 139 from rfl]; rw [show Try.f7.results.toList = [.tmp 4] from rfl] at hfin; apply holds_of_ex X 400; simp only [push_cast, reduceCtorEq, Nat.reduceAdd, Nat.reduceMul, Nat.reduceSub, Nat.reduceBEq, Nat.reduceGT, Nat.reduceLT, Int.toNat_zero, Nat.reduceLeDiff, Int.reduceEq, Int.reduceLT, Int.reduceLE, hP, hΓ, hL, hfin, h12, h17, shS])
  refine exB_split (fun h => ?_) (fun h => ?_)
  · ((first | refine holds_of_ex X 400 _ _ _ ?_ | skip); simp only [push_cast, reduceCtorEq, Nat.reduceAdd, Nat.reduceMul, Nat.reduceSub, Nat.reduceBEq, Nat.reduceGT, Nat.reduceLT, Int.toNat_zero, Nat.reduceLeDiff, Int.reduceEq, Int.reduceLT, Int.reduceLE, hP, hΓ, hL, hfin])
    exact Into.keep0 (leF_refl _) rfl rfl (Nat.le_refl _)
  have hb : (0 ≤ i ∧ i < 10) ∧ 0 ≤ n ∧ n ≤ 40 := by
    simp only [Bool.or_eq_false_iff, decide_eq_false_iff_not] at h; omega
  obtain ⟨⟨hi0, hi1⟩, hn0, hn1⟩ := hb
  obtain ⟨i, rfl⟩ := Int.eq_ofNat_of_zero_le hi0
  obtain ⟨n, rfl⟩ := Int.eq_ofNat_of_zero_le hn0
  have hi' : i < names.length := by simp [names]; omega
  obtain ⟨w, hw⟩ : ∃ w, w = names[i] := ⟨_, rfl⟩
  have hmem : w ∈ names := by rw [hw]; exact List.getElem_mem hi'
  have hdr : List.drop i (names.map AV.str) = .str w :: List.drop (i + 1) (names.map AV.str) := by
    rw [List.drop_eq_getElem_cons (by simpa using hi')]; simp [hw]
  ((first | refine holds_of_ex X 400 _ _ _ ?_ | skip); simp only [push_cast, reduceCtorEq, Nat.reduceAdd, Nat.reduceMul, Nat.reduceSub, Nat.reduceBEq, Nat.reduceGT, Nat.reduceLT, Int.toNat_zero, Nat.reduceLeDiff, Int.reduceEq, Int.reduceLT, Int.reduceLE, hP, hΓ, hL, hfin, hdr])
  have hnl : names.length = 10 := rfl
  obtain ⟨hq1, hq2, hq3, hq4, hq5⟩ := name_facts w hmem
  refine ⟨⟨rfl, by omega, by omega⟩, by omega, ?_⟩
  refine Holds.loop (ι := { j : Nat // j ≤ n }) (fun j => ([.int .i64 i, .int .i64 n, .any, .any, .any, .bool true, .sl (names.map .str) 10, .str (more w j.1), .int .i64 j.1, .any, .any, .any, .any, .any, .any, .any, .any, .any, .any, .any, .any, .any, .any, .any, .any, .any, .any, .any, .any, .any, .any, .any, .any, .any, .any, .any, .any, .any, .any, .any, .any, .any, .any, .any, .any, .any, .any, .any, .any, .any, .any, .any, .any, .any, .any, .any, .any, .any, .any, .any, .any, .any, .any, .any, .any, .any, .any, .any, .any, .any, .any, .any, .any, .any, .any, .any, .any, .any, .any, .any, .any, .any, .any, .any, .any, .any, .any, .any, .any, .any, .any, .any, .any, .any, .any, .any, .any, .any, .any, .any, .any, .any, .any, .any, .any, .any, .any, .any, .any, .any, .any, .any, .any, .any, .any, .any, .any, .any, .any, .any, .any, .any, .any, .any, .any, .any, .any, .any, .any, .any, .any, .any, .any, .any, .any, .any, .any, .any, .any], [])) (fun j => n - j.1) ⟨0, Nat.zero_le _⟩ ?_ ?_
  · rw [hL]
    have : more w 0 = w := by simp [more]
    simp only [this, Int.natCast_zero]
    exact Into.same (by first | exact leF_refl _ | (simp only [leF, true_and, and_true, and_self]; done) | (simp [leF]; done)) (by simp only [List.all_cons, List.all_nil, push_cast, reduceCtorEq, Nat.reduceAdd, Nat.reduceMul, Nat.reduceSub, Nat.reduceBEq, Nat.reduceGT, Nat.reduceLT, Int.toNat_zero, Nat.reduceLeDiff, Int.reduceEq, Int.reduceLT, Int.reduceLE]) (by simp only [List.all_cons, List.all_nil, push_cast, reduceCtorEq, Nat.reduceAdd, Nat.reduceMul, Nat.reduceSub, Nat.reduceBEq, Nat.reduceGT, Nat.reduceLT, Int.toNat_zero, Nat.reduceLeDiff, Int.reduceEq, Int.reduceLT, Int.reduceLE]) (by first | decide | simp)
  rintro ⟨j, hj⟩
  ((first | refine holds_of_ex X 400 _ _ _ ?_ | skip); simp only [push_cast, reduceCtorEq, Nat.reduceAdd, Nat.reduceMul, Nat.reduceSub, Nat.reduceBEq, Nat.reduceGT, Nat.reduceLT, Int.toNat_zero, Nat.reduceLeDiff, Int.reduceEq, Int.reduceLT, Int.reduceLE, hP, hΓ, hL, hfin])
  refine exB_split (fun h => ?_) (fun h => ?_)
  · have hj' : j < n := by have := of_decide_eq_true h; omega
    have hu : IntKind.i64.wrap ((j : Int) + 1) = (j : Int) + 1 := wrap_i64 _ (by omega)
    have hm := more_len w j
    ((first | refine holds_of_ex X 400 _ _ _ ?_ | skip); simp only [push_cast, reduceCtorEq, Nat.reduceAdd, Nat.reduceMul, Nat.reduceSub, Nat.reduceBEq, Nat.reduceGT, Nat.reduceLT, Int.toNat_zero, Nat.reduceLeDiff, Int.reduceEq, Int.reduceLT, Int.reduceLE, hP, hΓ, hL, hfin, hu, more_succ])
    refine ⟨by omega, ⟨j + 1, hj'⟩, by simp only; omega, by exact Into.same (by first | exact leF_refl _ | (simp only [leF, true_and, and_true, and_self]; done) | (simp [leF]; done)) (by simp only [List.all_cons, List.all_nil, push_cast, reduceCtorEq, Nat.reduceAdd, Nat.reduceMul, Nat.reduceSub, Nat.reduceBEq, Nat.reduceGT, Nat.reduceLT, Int.toNat_zero, Nat.reduceLeDiff, Int.reduceEq, Int.reduceLT, Int.reduceLE]) (by simp only [List.all_cons, List.all_nil, push_cast, reduceCtorEq, Nat.reduceAdd, Nat.reduceMul, Nat.reduceSub, Nat.reduceBEq, Nat.reduceGT, Nat.reduceLT, Int.toNat_zero, Nat.reduceLeDiff, Int.reduceEq, Int.reduceLT, Int.reduceLE]) (by first | decide | simp)⟩
  have hj' : j = n := by have := of_decide_eq_false h; omega
  subst hj'
  ((first | refine holds_of_ex X 400 _ _ _ ?_ | skip); simp only [push_cast, reduceCtorEq, Nat.reduceAdd, Nat.reduceMul, Nat.reduceSub, Nat.reduceBEq, Nat.reduceGT, Nat.reduceLT, Int.toNat_zero, Nat.reduceLeDiff, Int.reduceEq, Int.reduceLT, Int.reduceLE, hP, hΓ, hL, hfin, hdr])
  refine ⟨⟨rfl, by omega, by omega⟩, by omega, ?_⟩
  have hfl : (w == [97, 100, 100] || w == [112, 117, 116]) = flag w := rfl
  have hpl := pres_len (more w j)
  have key : ∀ k : Nat, asked w = k → (pres (more w j) = ([], [], [], 192) ∧ (decide ((j : Int) < k) || (decide ((k : Int) < j) && !flag w)) = true) ∨
      (pres (more w j) = (w, List.replicate k [119], text (k + 1) (more w j), 0) ∧ (decide ((j : Int) < k) || (decide ((k : Int) < j) && !flag w)) = false ∧ (flag w && decide ((1 : Int) < j) || text (k + 1) (more w j) == []) = true) := by
    rintro k rfl
    by_cases hb : j < asked w ∨ (asked w < j ∧ flag w = false)
    · left
      refine ⟨pres_bad_more hmem (by omega) hb, ?_⟩
      rcases hb with hb | ⟨hb, hf⟩
      · have : decide ((j : Int) < asked w) = true := by rw [decide_eq_true_eq]; omega
        rw [this]; rfl
      · have : decide ((asked w : Int) < j) = true := by rw [decide_eq_true_eq]; omega
        rw [this, hf]; simp
    · right
      obtain ⟨g1, g2⟩ := pres_good_more hmem (by omega) hb
      refine ⟨g1, ?_, g2⟩
      have h1 : decide ((j : Int) < asked w) = false := by rw [decide_eq_false_iff_not]; omega
      rw [h1]
      cases hf : flag w
      · have h2 : decide ((asked w : Int) < j) = false := by rw [decide_eq_false_iff_not]; intro h'; exact hb (.inr ⟨by omega, hf⟩)
        rw [h2]; rfl
      · simp
  clear h
  refine exB_split (fun h1 => ?_) (fun h1 => ?_)
  · have hk : asked w = 2 := by simp [asked, h1]
    rcases key 2 hk with ⟨e, hd⟩ | ⟨e, hd, hend⟩
    · have hd : (decide ((j : Int) < 2) || (decide ((2 : Int) < j) && !flag w)) = true := hd
      ((first | refine holds_of_ex X 400 _ _ _ ?_ | skip); simp only [push_cast, reduceCtorEq, Nat.reduceAdd, Nat.reduceMul, Nat.reduceSub, Nat.reduceBEq, Nat.reduceGT, Nat.reduceLT, Int.toNat_zero, Nat.reduceLeDiff, Int.reduceEq, Int.reduceLT, Int.reduceLE, hP, hΓ, hL, hfin, h1, hdr, hfl, h13, e])
      refine ⟨⟨rfl, by omega, by omega⟩, by omega, ⟨rfl, fun _ => ⟨by omega, by omega⟩⟩, fun _ => by omega, ?_⟩
      ((first | refine holds_of_ex X 400 _ _ _ ?_ | skip); simp only [push_cast, reduceCtorEq, Nat.reduceAdd, Nat.reduceMul, Nat.reduceSub, Nat.reduceBEq, Nat.reduceGT, Nat.reduceLT, Int.toNat_zero, Nat.reduceLeDiff, Int.reduceEq, Int.reduceLT, Int.reduceLE, hP, hΓ, hL, hfin, hd, e])
      exact Into.one (by first | rfl | exact congrArg AV.bool (decide_eq_true (by omega))) rfl
    · have hd : (decide ((j : Int) < 2) || (decide ((2 : Int) < j) && !flag w)) = false := hd
      ((first | refine holds_of_ex X 400 _ _ _ ?_ | skip); simp only [push_cast, reduceCtorEq, Nat.reduceAdd, Nat.reduceMul, Nat.reduceSub, Nat.reduceBEq, Nat.reduceGT, Nat.reduceLT, Int.toNat_zero, Nat.reduceLeDiff, Int.reduceEq, Int.reduceLT, Int.reduceLE, hP, hΓ, hL, hfin, h1, hdr, hfl, h13, e])
      refine ⟨⟨rfl, by omega, by omega⟩, by omega, ⟨rfl, fun _ => ⟨by omega, by omega⟩⟩, fun _ => by omega, ?_⟩
      ((first | refine holds_of_ex X 400 _ _ _ ?_ | skip); simp only [push_cast, reduceCtorEq, Nat.reduceAdd, Nat.reduceMul, Nat.reduceSub, Nat.reduceBEq, Nat.reduceGT, Nat.reduceLT, Int.toNat_zero, Nat.reduceLeDiff, Int.reduceEq, Int.reduceLT, Int.reduceLE, hP, hΓ, hL, hfin, hd, e, hdr, hend])
      exact ⟨⟨rfl, by omega, by omega⟩, by omega, Into.one (by first | rfl | exact congrArg AV.bool (decide_eq_true (by omega))) rfl⟩
  ((first | refine holds_of_ex X 400 _ _ _ ?_ | skip); simp only [push_cast, reduceCtorEq, Nat.reduceAdd, Nat.reduceMul, Nat.reduceSub, Nat.reduceBEq, Nat.reduceGT, Nat.reduceLT, Int.toNat_zero, Nat.reduceLeDiff, Int.reduceEq, Int.reduceLT, Int.reduceLE, hP, hΓ, hL, hfin, h1])
  refine exB_split (fun h2 => ?_) (fun h2 => ?_)
  · have hk : asked w = 2 := by simp [asked, h1, h2]
    rcases key 2 hk with ⟨e, hd⟩ | ⟨e, hd, hend⟩
    · have hd : (decide ((j : Int) < 2) || (decide ((2 : Int) < j) && !flag w)) = true := hd
      ((first | refine holds_of_ex X 400 _ _ _ ?_ | skip); simp only [push_cast, reduceCtorEq, Nat.reduceAdd, Nat.reduceMul, Nat.reduceSub, Nat.reduceBEq, Nat.reduceGT, Nat.reduceLT, Int.toNat_zero, Nat.reduceLeDiff, Int.reduceEq, Int.reduceLT, Int.reduceLE, hP, hΓ, hL, hfin, h1, h2, hdr, hfl, h13, e])
      refine ⟨⟨rfl, by omega, by omega⟩, by omega, ⟨rfl, fun _ => ⟨by omega, by omega⟩⟩, fun _ => by omega, ?_⟩
      ((first | refine holds_of_ex X 400 _ _ _ ?_ | skip); simp only [push_cast, reduceCtorEq, Nat.reduceAdd, Nat.reduceMul, Nat.reduceSub, Nat.reduceBEq, Nat.reduceGT, Nat.reduceLT, Int.toNat_zero, Nat.reduceLeDiff, Int.reduceEq, Int.reduceLT, Int.reduceLE, hP, hΓ, hL, hfin, hd, e])
      exact Into.one (by first | rfl | exact congrArg AV.bool (decide_eq_true (by omega))) rfl
    · have hd : (decide ((j : Int) < 2) || (decide ((2 : Int) < j) && !flag w)) = false := hd
      ((first | refine holds_of_ex X 400 _ _ _ ?_ | skip); simp only [push_cast, reduceCtorEq, Nat.reduceAdd, Nat.reduceMul, Nat.reduceSub, Nat.reduceBEq, Nat.reduceGT, Nat.reduceLT, Int.toNat_zero, Nat.reduceLeDiff, Int.reduceEq, Int.reduceLT, Int.reduceLE, hP, hΓ, hL, hfin, h1, h2, hdr, hfl, h13, e])
      refine ⟨⟨rfl, by omega, by omega⟩, by omega, ⟨rfl, fun _ => ⟨by omega, by omega⟩⟩, fun _ => by omega, ?_⟩
      ((first | refine holds_of_ex X 400 _ _ _ ?_ | skip); simp only [push_cast, reduceCtorEq, Nat.reduceAdd, Nat.reduceMul, Nat.reduceSub, Nat.reduceBEq, Nat.reduceGT, Nat.reduceLT, Int.toNat_zero, Nat.reduceLeDiff, Int.reduceEq, Int.reduceLT, Int.reduceLE, hP, hΓ, hL, hfin, hd, e, hdr, hend])
      exact ⟨⟨rfl, by omega, by omega⟩, by omega, Into.one (by first | rfl | exact congrArg AV.bool (decide_eq_true (by omega))) rfl⟩
  ((first | refine holds_of_ex X 400 _ _ _ ?_ | skip); simp only [push_cast, reduceCtorEq, Nat.reduceAdd, Nat.reduceMul, Nat.reduceSub, Nat.reduceBEq, Nat.reduceGT, Nat.reduceLT, Int.toNat_zero, Nat.reduceLeDiff, Int.reduceEq, Int.reduceLT, Int.reduceLE, hP, hΓ, hL, hfin, h1, h2])
  refine exB_split (fun h3 => ?_) (fun h3 => ?_)
  · have hk : asked w = 0 := by simp [asked, h1, h2, h3]
    rcases key 0 hk with ⟨e, hd⟩ | ⟨e, hd, hend⟩
    · have hd : (decide ((j : Int) < 0) || (decide ((0 : Int) < j) && !flag w)) = true := hd
      ((first | refine holds_of_ex X 400 _ _ _ ?_ | skip); simp only [push_cast, reduceCtorEq, Nat.reduceAdd, Nat.reduceMul, Nat.reduceSub, Nat.reduceBEq, Nat.reduceGT, Nat.reduceLT, Int.toNat_zero, Nat.reduceLeDiff, Int.reduceEq, Int.reduceLT, Int.reduceLE, hP, hΓ, hL, hfin, h1, h2, h3, hdr, hfl, h13, e])
      refine ⟨⟨rfl, by omega, by omega⟩, by omega, ⟨rfl, fun _ => ⟨by omega, by omega⟩⟩, fun _ => by omega, ?_⟩
      ((first | refine holds_of_ex X 400 _ _ _ ?_ | skip); simp only [push_cast, reduceCtorEq, Nat.reduceAdd, Nat.reduceMul, Nat.reduceSub, Nat.reduceBEq, Nat.reduceGT, Nat.reduceLT, Int.toNat_zero, Nat.reduceLeDiff, Int.reduceEq, Int.reduceLT, Int.reduceLE, hP, hΓ, hL, hfin, hd, e])
      exact Into.one (by first | rfl | exact congrArg AV.bool (decide_eq_true (by omega))) rfl
    · have hd : (decide ((j : Int) < 0) || (decide ((0 : Int) < j) && !flag w)) = false := hd
      ((first | refine holds_of_ex X 400 _ _ _ ?_ | skip); simp only [push_cast, reduceCtorEq, Nat.reduceAdd, Nat.reduceMul, Nat.reduceSub, Nat.reduceBEq, Nat.reduceGT, Nat.reduceLT, Int.toNat_zero, Nat.reduceLeDiff, Int.reduceEq, Int.reduceLT, Int.reduceLE, hP, hΓ, hL, hfin, h1, h2, h3, hdr, hfl, h13, e])
      refine ⟨⟨rfl, by omega, by omega⟩, by omega, ⟨rfl, fun _ => ⟨by omega, by omega⟩⟩, fun _ => by omega, ?_⟩
      ((first | refine holds_of_ex X 400 _ _ _ ?_ | skip); simp only [push_cast, reduceCtorEq, Nat.reduceAdd, Nat.reduceMul, Nat.reduceSub, Nat.reduceBEq, Nat.reduceGT, Nat.reduceLT, Int.toNat_zero, Nat.reduceLeDiff, Int.reduceEq, Int.reduceLT, Int.reduceLE, hP, hΓ, hL, hfin, hd, e, hdr, hend])
      exact ⟨⟨rfl, by omega, by omega⟩, by omega, Into.one (by first | rfl | exact congrArg AV.bool (decide_eq_true (by omega))) rfl⟩
  ((first | refine holds_of_ex X 400 _ _ _ ?_ | skip); simp only [push_cast, reduceCtorEq, Nat.reduceAdd, Nat.reduceMul, Nat.reduceSub, Nat.reduceBEq, Nat.reduceGT, Nat.reduceLT, Int.toNat_zero, Nat.reduceLeDiff, Int.reduceEq, Int.reduceLT, Int.reduceLE, hP, hΓ, hL, hfin, h1, h2, h3])
  refine exB_split (fun h4 => ?_) (fun h4 => ?_)
  · have hk : asked w = 0 := by simp [asked, h1, h2, h3, h4]
    rcases key 0 hk with ⟨e, hd⟩ | ⟨e, hd, hend⟩
    · have hd : (decide ((j : Int) < 0) || (decide ((0 : Int) < j) && !flag w)) = true := hd
      ((first | refine holds_of_ex X 400 _ _ _ ?_ | skip); simp only [push_cast, reduceCtorEq, Nat.reduceAdd, Nat.reduceMul, Nat.reduceSub, Nat.reduceBEq, Nat.reduceGT, Nat.reduceLT, Int.toNat_zero, Nat.reduceLeDiff, Int.reduceEq, Int.reduceLT, Int.reduceLE, hP, hΓ, hL, hfin, h1, h2, h3, h4, hdr, hfl, h13, e])
      refine ⟨⟨rfl, by omega, by omega⟩, by omega, ⟨rfl, fun _ => ⟨by omega, by omega⟩⟩, fun _ => by omega, ?_⟩
      ((first | refine holds_of_ex X 400 _ _ _ ?_ | skip); simp only [push_cast, reduceCtorEq, Nat.reduceAdd, Nat.reduceMul, Nat.reduceSub, Nat.reduceBEq, Nat.reduceGT, Nat.reduceLT, Int.toNat_zero, Nat.reduceLeDiff, Int.reduceEq, Int.reduceLT, Int.reduceLE, hP, hΓ, hL, hfin, hd, e])
      exact Into.one (by first | rfl | exact congrArg AV.bool (decide_eq_true (by omega))) rfl
    · have hd : (decide ((j : Int) < 0) || (decide ((0 : Int) < j) && !flag w)) = false := hd
      ((first | refine holds_of_ex X 400 _ _ _ ?_ | skip); simp only [push_cast, reduceCtorEq, Nat.reduceAdd, Nat.reduceMul, Nat.reduceSub, Nat.reduceBEq, Nat.reduceGT, Nat.reduceLT, Int.toNat_zero, Nat.reduceLeDiff, Int.reduceEq, Int.reduceLT, Int.reduceLE, hP, hΓ, hL, hfin, h1, h2, h3, h4, hdr, hfl, h13, e])
      refine ⟨⟨rfl, by omega, by omega⟩, by omega, ⟨rfl, fun _ => ⟨by omega, by omega⟩⟩, fun _ => by omega, ?_⟩
      ((first | refine holds_of_ex X 400 _ _ _ ?_ | skip); simp only [push_cast, reduceCtorEq, Nat.reduceAdd, Nat.reduceMul, Nat.reduceSub, Nat.reduceBEq, Nat.reduceGT, Nat.reduceLT, Int.toNat_zero, Nat.reduceLeDiff, Int.reduceEq, Int.reduceLT, Int.reduceLE, hP, hΓ, hL, hfin, hd, e, hdr, hend])
      exact ⟨⟨rfl, by omega, by omega⟩, by omega, Into.one (by first | rfl | exact congrArg AV.bool (decide_eq_true (by omega))) rfl⟩
  have hk : asked w = 1 := by simp [asked, h1, h2, h3, h4]
  rcases key 1 hk with ⟨e, hd⟩ | ⟨e, hd, hend⟩
  · have hd : (decide ((j : Int) < 1) || (decide ((1 : Int) < j) && !flag w)) = true := hd
    ((first | refine holds_of_ex X 400 _ _ _ ?_ | skip); simp only [push_cast, reduceCtorEq, Nat.reduceAdd, Nat.reduceMul, Nat.reduceSub, Nat.reduceBEq, Nat.reduceGT, Nat.reduceLT, Int.toNat_zero, Nat.reduceLeDiff, Int.reduceEq, Int.reduceLT, Int.reduceLE, hP, hΓ, hL, hfin, h1, h2, h3, h4, hdr, hfl, h13, e])
    refine ⟨⟨rfl, by omega, by omega⟩, by omega, ⟨rfl, fun _ => ⟨by omega, by omega⟩⟩, fun _ => by omega, ?_⟩
    ((first | refine holds_of_ex X 400 _ _ _ ?_ | skip); simp only [push_cast, reduceCtorEq, Nat.reduceAdd, Nat.reduceMul, Nat.reduceSub, Nat.reduceBEq, Nat.reduceGT, Nat.reduceLT, Int.toNat_zero, Nat.reduceLeDiff, Int.reduceEq, Int.reduceLT, Int.reduceLE, hP, hΓ, hL, hfin, hd, e])
    exact Into.one (by first | rfl | exact congrArg AV.bool (decide_eq_true (by omega))) rfl
  · have hd : (decide ((j : Int) < 1) || (decide ((1 : Int) < j) && !flag w)) = false := hd
    ((first | refine holds_of_ex X 400 _ _ _ ?_ | skip); simp only [push_cast, reduceCtorEq, Nat.reduceAdd, Nat.reduceMul, Nat.reduceSub, Nat.reduceBEq, Nat.reduceGT, Nat.reduceLT, Int.toNat_zero, Nat.reduceLeDiff, Int.reduceEq, Int.reduceLT, Int.reduceLE, hP, hΓ, hL, hfin, h1, h2, h3, h4, hdr, hfl, h13, e])
    refine ⟨⟨rfl, by omega, by omega⟩, by omega, ⟨rfl, fun _ => ⟨by omega, by omega⟩⟩, fun _ => by omega, ?_⟩
    ((first | refine holds_of_ex X 400 _ _ _ ?_ | skip); simp only [push_cast, reduceCtorEq, Nat.reduceAdd, Nat.reduceMul, Nat.reduceSub, Nat.reduceBEq, Nat.reduceGT, Nat.reduceLT, Int.toNat_zero, Nat.reduceLeDiff, Int.reduceEq, Int.reduceLT, Int.reduceLE, hP, hΓ, hL, hfin, hd, e, hdr, hend])
    exact ⟨⟨rfl, by omega, by omega⟩, by omega, Into.one (by first | rfl | exact congrArg AV.bool (decide_eq_true (by omega))) rfl⟩
def a1 : Env := addE (addE e4 33 keysS) 32 sortedS
def a2 : Env := addE a1 17 namesS
theorem a1_ok : EnvOk Try.prog a1 := (e4_ok.add (con33 e4_ok)).add con32
theorem a2_ok : EnvOk Try.prog a2 := a1_ok.add (con17 a1_ok rfl rfl rfl)
def shapes3 : List Sh := [.int .i64, .int .i64]
theorem body3 (xs : List Dv) (h : Dv.hasL shapes3 xs) (hb : True) : ∃ L', BodyOk Try.prog a2 Try.f7 (xs.map Dv.av) [] (.bool true) L' := by
  obtain ⟨x0, xs, rfl, h0, h⟩ := hasL_cons h
  obtain ⟨x1, xs, rfl, h1, h⟩ := hasL_cons h
  obtain rfl := hasL_nil h
  obtain ⟨i, rfl, hi0, hi1⟩ := has_int h0
  obtain ⟨n, rfl, hn0, hn1⟩ := has_int h1
  refine ⟨[], ?_⟩
  simp only [List.map_cons, List.map_nil]
  exact asks_body a2 rfl rfl rfl i n ⟨hi0, hi1⟩ ⟨hn0, hn1⟩
set_option maxRecDepth 100000 in
theorem lifted3 (os : Os) (started : os.Started) (H : Type) (enc : TypeId × Value → H) :
    ReturnsInHanded {} Try.checked os 7 .any (Rows.lineAsksSpec.pre6 enc Try.prog Try.f7 Rows.lineAsksRow.domain false) (Rows.lineAsksSpec.post enc Try.prog Try.f7 false true false false) := by
  refine returnsInHanded_of_change (C := Try.checked) own started (by kernel_rfl) Try.func7
    (ChangeSpec.witness6 (enc := enc) (C := Try.checked) false ⟨#[], #[.int .i64 0, .int .i64 0], []⟩ 8 (by kernel_rfl) (by kernel_rfl) (by kernel_rfl) (by kernel_rfl)) ?_
  intro W base args ds gs before hval hW hcnd _
  have hds : gs = [] ∧ ∃ d1 d2, ds = [d1, d2] := by
    obtain ⟨p, q, hA, hV, _⟩ := hW
    obtain ⟨rfl, _⟩ := ChangeShapes.trodVars_none hV
    rw [Try.params7] at hA
    obtain ⟨_, _, d1, _, _, _, _, rfl, _, _, hA⟩ := ChangeShapes.trodAll_cons hA
    obtain ⟨_, _, d2, _, _, _, _, rfl, _, _, hA⟩ := ChangeShapes.trodAll_cons hA
    obtain ⟨_, rfl, _⟩ := ChangeShapes.trodAll_nil hA
    exact ⟨rfl, d1, d2, rfl⟩
  obtain ⟨rfl, d1, d2, rfl⟩ := hds
  exact law_contract a2_ok (f := 7) (fn := Try.f7) (by kernel_rfl) laidOut (s := Rows.lineAsksSpec) rfl (ss := shapes3) (by kernel_rfl) (tb := 4) rfl Try.underlying4 (fun _ => True) (fun a b h1 h2 => trivial) body3 rfl hval hW trivial
theorem provedAsks : Rows.LineAsksSaid :=
  OpenClaim.holds_of_wide 7 Try.f7 rfl rfl rfl rfl rfl rfl rfl ⟨rfl, rfl, rfl, rfl, rfl⟩ rfl rfl rfl rfl rfl (by kernel_rfl) Try.func7 (by kernel_rfl)
    (of_decide_eq_true (by kernel_rfl)) (by unfold Func.isWrapper; first | (rw [if_pos (by decide +kernel)]; kernel_rfl) | (rw [if_neg (by decide +kernel)]; exact ⟨rfl, rfl⟩))
    (fun os started H enc _ => lifted3 os started H enc)
end Go.Proofs.Ytkglmlfkcmpbbaa.lineDone
