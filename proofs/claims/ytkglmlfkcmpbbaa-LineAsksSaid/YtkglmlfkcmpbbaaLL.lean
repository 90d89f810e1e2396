/- Of lines: LineParses. Whatever the text. -/
import Derived.Test.YtkglmlfkcmpbbaaLP
import Derived.Test.YtkglmlfkcmpbbaaEng15
import Derived.ProofKit
import Derived.OpenShut
import Derived.ShutString
import Derived.ChangeOld
import Derived.SliceStrings
import Derived.Laws.RangeAny
namespace Go.Lines
open Go.Proofs.Ytkglmlfkcmpbbaa.lineDone
theorem pres_put : pres [112, 117, 116, 32, 97, 32, 98, 32, 99] = ([112, 117, 116], [[97]], [98, 32, 99], 0) := by
  have a1 : ws [112, 117, 116, 32, 97, 32, 98, 32, 99] = [112, 117, 116] :: ws [32, 97, 32, 98, 32, 99] := by rw [ws, if_neg (by decide)]; rfl
  have a2 : ws [32, 97, 32, 98, 32, 99] = [97] :: ws [32, 98, 32, 99] := by rw [ws, if_neg (by decide)]; rfl
  have a3 : ws [32, 98, 32, 99] = [98] :: ws [32, 99] := by rw [ws, if_neg (by decide)]; rfl
  have a4 : ws [32, 99] = [99] :: ws [] := by rw [ws, if_neg (by decide)]; rfl
  rw [a4] at a3; rw [a3] at a2; rw [a2] at a1
  rw [pres_good (k := 1) (t := 1) (by decide) a1 (by decide) (by simp)]
  rfl
end Go.Lines
namespace Go.Proofs.Ytkglmlfkcmpbbaa.lineDone
open Go Go.Eng Go.Proofs Go.Lines
open Go.ChangeShapes Go.WideShapes Go.ChangeAt Go.RowKit
set_option linter.unusedVariables false
set_option linter.unusedSimpArgs false
theorem shown_body (Γ : Env) (h13 : Γ 13 = some parseS) : BodyOk Try.prog Γ Try.f12 [] [] (.bool true) [] := by
  (intro X hP hΓ hL hfin; refine ⟨_, rfl, ?_⟩; rw [show Try.f12.ntmps = 32 from rfl]; rw [show Try.f12.results.toList = [.tmp 0] from rfl] at hfin; apply holds_of_ex X 400; simp only [push_cast, reduceCtorEq, Nat.reduceAdd, Nat.reduceMul, Nat.reduceSub, Nat.reduceBEq, Nat.reduceGT, Nat.reduceLT, Int.toNat_zero, Nat.reduceLeDiff, Int.reduceEq, Int.reduceLT, Int.reduceLE, hP, hΓ, hL, hfin, h13, pres_put])
  exact ⟨fun _ => by omega, Into.keep0 (leF_refl _) rfl rfl (Nat.le_refl _)⟩
def rowsG (k : List (List UInt8) → List (List UInt8)) : GSpec where
  ids xs := match xs with
    | .msl id _ _ _ :: _ => [id]
    | _ => []
  args xs L := match xs with
    | .msl _ v o n :: r => .msl 0 v o n :: r
    | _ => []
  start xs L := match xs with
    | .msl id _ _ _ :: _ => (match L[id]? with | some o => [o] | none => [])
    | _ => []
  pre xs L := match xs, L with
    | .msl id v o n :: r, [.row cs sz v'] => id = 0 ∧ o = 0 ∧ sz = 1 ∧ v' = v ∧ (∃ ss : List (List UInt8), cs = ss.map .str ∧ n = ss.length) ∧ n ≤ 1048576 ∧ r = []
    | _, _ => False
  res xs L := .tup []
  post xs L := match xs, L with
    | .msl id v o n :: r, [.row cs sz v'] => [.row ((k (strsOf cs)).map .str) 1 v]
    | _, _ => []
def spoilS : FSpec := liftG (rowsG fun ss => List.replicate ss.length mine)
attribute [push_cast] spoilS rowsG
theorem con16 {Γ : Env} (h : EnvOk Try.prog Γ) : Con Try.prog 16 spoilS := by
  refine Con.liftG_of_body h (fn := Try.f16) (by kernel_rfl) rfl (by kernel_rfl) fun xs L hx => ?_
  simp only [rowsG] at hx ⊢
  split at hx
  · obtain ⟨rfl, rfl, rfl, rfl, ⟨ss, rfl, rfl⟩, hp, rfl⟩ := hx
    simp only [strsOf_map]
    exact spoil_body Γ ss _ hp
  · exact hx.elim
theorem pres_len (l : List UInt8) : (pres l).2.1.length ≤ 2 := by
  unfold pres
  split
  · simp
  split
  · simp
  split
  · simp
  · rename_i hc
    split
    · simp
    · have := (cmd_flag hc).1.1
      simp; omega
set_option maxRecDepth 100000 in
theorem law_body (Γ : Env) (h12 : Γ 12 = some (lift0 (fun xs => xs = []) (fun _ => .bool true) (fun _ => []) true)) (h13 : Γ 13 = some parseS) (h14 : Γ 14 = some refS) (h15 : Γ 15 = some sameS) (h16 : Γ 16 = some spoilS) (l : List UInt8) : BodyOk Try.prog Γ Try.f5 [.str l] [] (.bool true) [] := by
  have hp := pres_len l
  (intro X hP hΓ hL hfin; refine ⟨_, rfl, ?_⟩; rw [show Try.f5.ntmps = 68 from rfl]; rw [show Try.f5.results.toList = [.tmp 2] from rfl] at hfin; apply holds_of_ex X 400; simp only [push_cast, reduceCtorEq, Nat.reduceAdd, Nat.reduceMul, Nat.reduceSub, Nat.reduceBEq, Nat.reduceGT, Nat.reduceLT, Int.toNat_zero, Nat.reduceLeDiff, Int.reduceEq, Int.reduceLT, Int.reduceLE, hP, hΓ, hL, hfin, h12, h13, h14, h15, h16])
  have hc : ∀ (L : Heap) (x : AV), x ∈ (pres l).2.1.map AV.str → lentC L keep0 (l2 L keep0) x := by
    intro L x hx
    obtain ⟨s, _, rfl⟩ := List.mem_map.1 hx
    simp only [push_cast]
  exact ⟨⟨hc _, ⟨_, _, rfl, rfl, rfl, rfl⟩, by omega⟩, ⟨⟨_, rfl, rfl⟩, by omega⟩, ⟨hc _, ⟨_, _, rfl, rfl, rfl, rfl⟩, by omega⟩, Into.keep0 (leF_refl _) rfl rfl (Nat.le_refl _)⟩
def shS : FSpec := lift0 (fun xs => xs = []) (fun _ => .bool true) (fun _ => []) true
def e1 : Env := addE (addE (addE (addE (addE (addE noE 27 wordS) 28 cloneS) 26 cmdS) 29 wordsS) 30 asksS) 31 textS
def e2 : Env := addE (addE e1 25 wordsS) 14 refS
def e3 : Env := addE (addE (addE e2 13 parseS) 15 sameS) 16 spoilS
def e4 : Env := addE e3 12 shS
theorem e1_ok : EnvOk Try.prog e1 := (((((EnvOk.add (noE_ok _) (con27 (noE_ok _))).add (con28 (noE_ok _))).add (con26 (noE_ok _))).add (con29 (noE_ok _))).add (con30 (noE_ok _))).add (con31 (noE_ok _))
theorem e2_ok : EnvOk Try.prog e2 := (e1_ok.add (con25 e1_ok rfl)).add (con14 e1_ok rfl rfl rfl)
theorem e3_ok : EnvOk Try.prog e3 := ((e2_ok.add (con13 e2_ok rfl rfl rfl rfl)).add (con15 e2_ok)).add (con16 e2_ok)
theorem e4_ok : EnvOk Try.prog e4 := by
  refine e3_ok.add ?_
  refine Con.of_body e3_ok (fn := Try.f12) (by kernel_rfl) rfl (by kernel_rfl) (fun _ _ => rfl) fun xs hx => ?_
  obtain rfl := hx
  exact shown_body e3 rfl
theorem own : ownKnob Try.prog.godebug = none := by kernel_rfl
theorem laidOut : laidOutB Try.prog = true := by kernel_rfl
def shapes : List Sh := [.str]
theorem body (xs : List Dv) (h : Dv.hasL shapes xs) (hb : True) : ∃ L', BodyOk Try.prog e4 Try.f5 (xs.map Dv.av) [] (.bool true) L' := by
  obtain ⟨x0, xs, rfl, h0, h⟩ := hasL_cons h
  obtain rfl := hasL_nil h
  obtain ⟨s, rfl, _⟩ := has_str h0
  refine ⟨[], ?_⟩
  simp only [List.map_cons, List.map_nil]
  exact law_body e4 rfl rfl rfl rfl rfl s
set_option maxRecDepth 100000 in
theorem lifted (os : Os) (started : os.Started) (H : Type) (enc : TypeId × Value → H) :
    ReturnsInHanded {} Try.checked os 5 .any (Rows.lineParsesSpec.pre6 enc Try.prog Try.f5 Rows.lineParsesRow.domain false) (Rows.lineParsesSpec.post enc Try.prog Try.f5 false true false false) := by
  refine returnsInHanded_of_change (C := Try.checked) own started (by kernel_rfl) Try.func5
    (ChangeSpec.witness6 (enc := enc) (C := Try.checked) false ⟨#[], #[.string .empty], []⟩ 8 (by kernel_rfl) (by kernel_rfl) (by kernel_rfl) (by kernel_rfl)) ?_
  intro W base args ds gs before hval hW hcnd _
  have hds : gs = [] ∧ ∃ d1, ds = [d1] := by
    obtain ⟨p, q, hA, hV, _⟩ := hW
    obtain ⟨rfl, _⟩ := ChangeShapes.trodVars_none hV
    rw [Try.params5] at hA
    obtain ⟨_, _, d1, _, _, _, _, rfl, _, _, hA⟩ := ChangeShapes.trodAll_cons hA
    obtain ⟨_, rfl, _⟩ := ChangeShapes.trodAll_nil hA
    exact ⟨rfl, d1, rfl⟩
  obtain ⟨rfl, d1, rfl⟩ := hds
  exact law_contract e4_ok (f := 5) (fn := Try.f5) (by kernel_rfl) laidOut (s := Rows.lineParsesSpec) rfl (ss := shapes) (by kernel_rfl) (tb := 4) rfl Try.underlying4 (fun _ => True) (fun a b h1 h2 => trivial) body rfl hval hW trivial
theorem over : Rows.lineParsesRow.holds Try.pinned (OpenSpec.ofChange Rows.lineParsesSpec) :=
  OpenClaim.holds_of_wide 5 Try.f5 rfl rfl rfl rfl rfl rfl rfl ⟨rfl, rfl, rfl, rfl, rfl⟩ rfl rfl rfl rfl rfl (by kernel_rfl) Try.func5 (by kernel_rfl)
    (of_decide_eq_true (by kernel_rfl)) (by unfold Func.isWrapper; first | (rw [if_pos (by decide +kernel)]; kernel_rfl) | (rw [if_neg (by decide +kernel)]; exact ⟨rfl, rfl⟩))
    (fun os started H enc _ => lifted os started H enc)
theorem proved : Rows.LineParsesSaid := over
end Go.Proofs.Ytkglmlfkcmpbbaa.lineDone
