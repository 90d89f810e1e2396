/- ObjNumbers: whatever the bytes, number, text, place and bound: the program and the document's answer lay and read the same. The condition: what comes in holds at most 1048576 values and letters. -/
import Derived.Test.YtldenhpoahmnkaaOBB
import Derived.Test.YtldenhpoahmnkaaUp
import Derived.ProofKit
import Derived.JoinedCond
namespace Go.Proofs.Ytldenhpoahmnkaa.objNumbersDone
open Go Go.Eng Go.Proofs
set_option linter.unusedVariables false
set_option linter.unusedSimpArgs false
theorem shown_body (Γ : Env) (h8 : Γ 8 = some (newS putUintP putUintK)) : BodyOk Try.prog Γ Try.f7 [] [] (.bool true) [] := by
  (intro X hP hΓ hL hfin; refine ⟨_, rfl, ?_⟩; rw [show Try.f7.ntmps = 7 from rfl]; rw [show Try.f7.results.toList = [.tmp 0] from rfl] at hfin; apply holds_of_ex X 400; simp only [push_cast, reduceCtorEq, Nat.reduceAdd, Nat.reduceMul, Nat.reduceSub, Nat.reduceBEq, Nat.reduceGT, Nat.reduceLT, Int.toNat_zero, Nat.reduceLeDiff, Int.reduceEq, Int.reduceLT, Int.reduceLE, hP, hΓ, hL, hfin, h8])
  refine ⟨⟨⟨[7], rfl, rfl⟩, by decide, 300, rfl, by decide⟩, ?_, ?_⟩
  · rw [← List.map_take]; exact allBytes_map _
  · rw [← List.map_take, unbytes_map]
    have e : (List.take ((unbytes [AV.int IntKind.u8 7]).length + (enc (Int.toNat 300)).length) (unbytes [AV.int IntKind.u8 7] ++ enc (Int.toNat 300)) == [7, 172, 2]) = true := by
      simp [enc, hi7, lo7, q7, unbytes, toByte]
    rw [e]
    exact Into.keep0 (leF_refl _) rfl rfl (Nat.le_refl _)
set_option maxRecDepth 100000 in
theorem law_body (Γ : Env) (h7 : Γ 7 = some (lift0 (fun xs => xs = []) (fun _ => .bool true) (fun _ => []) true)) (h8 : Γ 8 = some (newS putUintP putUintK)) (h9 : Γ 9 = some (newS putTextP putTextK)) (h10 : Γ 10 = some uintS) (h11 : Γ 11 = some uintS) (h12 : Γ 12 = some textAtS) (h13 : Γ 13 = some textAtS)
    (h14 : Γ 14 = some (newQ putUintP putUintK)) (h15 : Γ 15 = some (newQ putTextP putTextK)) (l s : List UInt8) (n : Nat) (a most : Int) (hn : n < 2 ^ 32) (hl : l.length ≤ 1048576) (hs : s.length ≤ 1048576) (hm : -9223372036854775808 ≤ most ∧ most ≤ 9223372036854775807) :
    BodyOk Try.prog Γ Try.f3 [.sl (l.map byteAV) l.length, .int .u32 n, .str s, .int .i64 a, .int .i64 most] [] (.bool true) [] := by
  (intro X hP hΓ hL hfin; refine ⟨_, rfl, ?_⟩; rw [show Try.f3.ntmps = 112 from rfl]; rw [show Try.f3.results.toList = [.tmp 10] from rfl] at hfin; apply holds_of_ex X 400; simp only [push_cast, reduceCtorEq, Nat.reduceAdd, Nat.reduceMul, Nat.reduceSub, Nat.reduceBEq, Nat.reduceGT, Nat.reduceLT, Int.toNat_zero, Nat.reduceLeDiff, Int.reduceEq, Int.reduceLT, Int.reduceLE, hP, hΓ, hL, hfin, h7, h8, h9, h10, h11, h12, h13])
  have hB : (BIG : Nat) = 140737488355328 := rfl
  have hm32 : m32 s.length < 2 ^ 32 := Nat.mod_lt _ (by omega)
  have he := enc_len 4 _ (show m32 s.length < 128 ^ 5 by omega)
  refine ⟨⟨⟨l, rfl, rfl⟩, by omega, n, rfl, hn⟩, ⟨⟨l, rfl, rfl⟩, by omega⟩, ⟨⟨l, rfl, rfl⟩, by omega⟩, ⟨⟨l, rfl, rfl⟩, by omega⟩, ⟨⟨l, rfl, rfl⟩, by omega, hm⟩, ⟨⟨l, rfl, rfl⟩, by omega, hm⟩, ?_⟩
  (refine Holds.drawnQ (by rw [hP]; kernel_rfl) (by kernel_rfl) ?_; simp only [push_cast, reduceCtorEq, Nat.reduceAdd, Nat.reduceMul, Nat.reduceSub, Nat.reduceBEq, Nat.reduceGT, Nat.reduceLT, Int.toNat_zero, Nat.reduceLeDiff, Int.reduceEq, Int.reduceLT, Int.reduceLE, hP, hΓ, hL, hfin, h14, h15])
  have t1 : List.take (l.length + (enc n).length) (List.map byteAV (l ++ enc n)) = List.map byteAV (l ++ enc n) := List.take_of_length_le (by simp)
  have t2 : List.take (l.length + ((enc (m32 s.length)).length + s.length)) (List.map byteAV (l ++ (enc (m32 s.length) ++ s))) = List.map byteAV (l ++ (enc (m32 s.length) ++ s)) := List.take_of_length_le (by simp)
  rw [t1, t2, unbytes_map, unbytes_map, beq_self_eq_true, beq_self_eq_true]
  exact ⟨allBytes_map _, ⟨⟨l, rfl, rfl⟩, by omega, n, rfl, hn⟩, fun _ => allBytes_map _, fun _ => ⟨⟨l, rfl, rfl⟩, by omega⟩, Into.keep0 (leF_refl _) rfl rfl (Nat.le_refl _)⟩
def shS : FSpec := lift0 (fun xs => xs = []) (fun _ => .bool true) (fun _ => []) true
def e1 : Env := addE (addE (addE (addE noE 23 numS) 24 cloneS) 10 uintS) 51 uintS'
def e2 : Env := addE (addE e1 25 textS) 26 uintS
def e3 : Env := addE (addE (addE (addE (addE e2 8 (newS putUintP putUintK)) 9 (newS putTextP putTextK)) 11 uintS) 12 textAtS) 13 textAtS
def e3' : Env := addE e3 14 (newS putUintP putUintK)
def e4 : Env := addE (addE (addE e3 14 (newQ putUintP putUintK)) 15 (newQ putTextP putTextK)) 7 shS
theorem e1_ok : EnvOk Try.prog e1 := (((EnvOk.add (noE_ok _) (con23 (noE_ok _))).add (con24 (noE_ok _))).add (con10 (noE_ok _))).add (con51 (noE_ok _))
theorem e2_ok : EnvOk Try.prog e2 := (e1_ok.add (con25 e1_ok rfl)).add (con26 e1_ok rfl)
theorem e3_ok : EnvOk Try.prog e3 := ((((e2_ok.add (con8 e2_ok rfl rfl)).add (con9 e2_ok rfl rfl)).add (con11 e2_ok rfl)).add (con12 e2_ok rfl)).add (con13 e2_ok rfl)
theorem e4_ok : EnvOk Try.prog e4 := by
  refine ((e3_ok.add (con14 e3_ok).2).add (con15 (e3_ok.add (con14 e3_ok).1) rfl)).add ?_
  refine Con.of_body e3_ok (fn := Try.f7) (by kernel_rfl) rfl (by kernel_rfl) (fun _ _ => rfl) fun xs hx => ?_
  obtain rfl := hx
  exact shown_body e3 rfl
theorem own : ownKnob Try.prog.godebug = none := by kernel_rfl
theorem laidOut : laidOutB Try.prog = true := by kernel_rfl
def shapes : List Sh := [.sl (.int .u8), .int .u32, .str, .int .i64, .int .i64]
theorem body (xs : List Dv) (h : Dv.hasL shapes xs) (hb : Dv.vbL xs ≤ 1048576) : ∃ L', BodyOk Try.prog e4 Try.f3 (xs.map Dv.av) [] (.bool true) L' := by
  obtain ⟨x0, xs, rfl, h0, h⟩ := hasL_cons h
  obtain ⟨x1, xs, rfl, h1, h⟩ := hasL_cons h
  obtain ⟨x2, xs, rfl, h2, h⟩ := hasL_cons h
  obtain ⟨x3, xs, rfl, h3, h⟩ := hasL_cons h
  obtain ⟨x4, xs, rfl, h4, h⟩ := hasL_cons h
  obtain rfl := hasL_nil h
  obtain ⟨l, e0, _, hl⟩ := has_bytes h0
  obtain ⟨n, rfl, hn0, hn1⟩ := has_int h1
  obtain ⟨s, rfl, _⟩ := has_str h2
  obtain ⟨a, rfl, _, _⟩ := has_int h3
  obtain ⟨most, rfl, hm0, hm1⟩ := has_int h4
  simp only [Dv.vbL, Dv.vb] at hb
  have hn0 : 0 ≤ n := hn0
  have hn1 : n ≤ 4294967295 := hn1
  obtain ⟨n, rfl⟩ := Int.eq_ofNat_of_zero_le hn0
  refine ⟨[], ?_⟩
  simp only [List.map_cons, List.map_nil, e0]
  exact law_body e4 rfl rfl rfl rfl rfl rfl rfl rfl rfl l s n a most (by omega) (by omega) (by omega) ⟨hm0, hm1⟩
set_option maxRecDepth 100000 in
theorem lifted (os : Os) (started : os.Started) (H : Type) (enc : TypeId × Value → H) (F : Stop.Interp) :
    ReturnsInHanded {} Try.checked os 3 .any ((Rows.OpenSpec.upto Rows.objNumbersSpec).pre6 enc Try.prog Try.f3 Rows.objNumbersUptoRow.domain false) (((Rows.OpenSpec.upto Rows.objNumbersSpec).at F).post enc Try.prog Try.f3 false true false false) := by
  refine returnsInHanded_of_cond (C := Try.checked) (s := Rows.OpenSpec.upto Rows.objNumbersSpec) (k := Rows.uptoSmall) rfl own started (by kernel_rfl) Try.func3
    (OpenSpec.witness (enc := enc) (C := Try.checked) (s := Rows.OpenSpec.upto Rows.objNumbersSpec) (k := Rows.uptoSmall) rfl false ⟨#[], #[.slice none 0 0, .int .u32 0, .string .empty, .int .i64 0, .int .i64 0], []⟩ 8 (by kernel_rfl) (by kernel_rfl) (by kernel_rfl)
      (x := ([.nil, .lit (.int .u32 0), .lit (.string []), .lit (.int .i64 0), .lit (.int .i64 0)], [], [])) (by kernel_rfl) rfl (by kernel_rfl)) ?_
  intro W base args ds gs before hval hW _ hk _
  have hds : gs = [] ∧ ∃ d1 d2 d3 d4 d5, ds = [d1, d2, d3, d4, d5] := by
    obtain ⟨p, q, hA, hV, _⟩ := hW
    obtain ⟨rfl, _⟩ := ChangeShapes.trodVars_none hV
    rw [Try.params3] at hA
    obtain ⟨_, _, d1, _, _, _, _, rfl, _, _, hA⟩ := ChangeShapes.trodAll_cons hA
    obtain ⟨_, _, d2, _, _, _, _, rfl, _, _, hA⟩ := ChangeShapes.trodAll_cons hA
    obtain ⟨_, _, d3, _, _, _, _, rfl, _, _, hA⟩ := ChangeShapes.trodAll_cons hA
    obtain ⟨_, _, d4, _, _, _, _, rfl, _, _, hA⟩ := ChangeShapes.trodAll_cons hA
    obtain ⟨_, _, d5, _, _, _, _, rfl, _, _, hA⟩ := ChangeShapes.trodAll_cons hA
    obtain ⟨_, rfl, _⟩ := ChangeShapes.trodAll_nil hA
    exact ⟨rfl, d1, d2, d3, d4, d5, rfl⟩
  obtain ⟨rfl, d1, d2, d3, d4, d5, rfl⟩ := hds
  exact law_contract e4_ok (f := 3) (fn := Try.f3) (by kernel_rfl) laidOut (s := Rows.objNumbersSpec) rfl (ss := shapes) (by kernel_rfl) (tb := 4) rfl Try.underlying4 (· ≤ 1048576) (fun a b h1 h2 => Nat.le_trans h1 h2) body rfl hval hW (Up.small (by simpa using hk))

theorem proved : Rows.ObjNumbersUptoSaid :=
  OpenClaim.holds_of_cond 3 Try.f3 rfl rfl rfl rfl rfl rfl rfl ⟨rfl, rfl, rfl, rfl, rfl⟩ rfl rfl rfl rfl rfl (by kernel_rfl) Try.func3 (by kernel_rfl)
    (of_decide_eq_true (by kernel_rfl)) (by unfold Func.isWrapper; first | (rw [if_pos (by decide +kernel)]; kernel_rfl) | (rw [if_neg (by decide +kernel)]; exact ⟨rfl, rfl⟩))
    (fun os started H enc _ F => lifted os started H enc F)
end Go.Proofs.Ytldenhpoahmnkaa.objNumbersDone
