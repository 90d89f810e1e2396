/- ObjBytes, its law: an object, as it comes in, opened; the law's own walk. Conditions stand in each. -/
import Derived.Test.YtkjmjalfjbhfnaaPG
import Derived.Test.YtkjmjalfjbhfnaaPF
import Derived.Test.YtkjmjalfjbhfnaaPE
import Derived.Test.YtkjmjalfjbhfnaaUp
import Derived.ProofKit
import Derived.JoinedCond
namespace Go.Proofs.Ytkjmjalfjbhfnaa.objDone
open Go Go.Eng Go.Proofs
open Go.Proofs.Ytkjmjalfjbhfnaa.objNumbersDone (newS putUintP putUintK cloneS numS hi7 lo7 q7 enc)
set_option linter.unusedVariables false
set_option linter.unusedSimpArgs false
set_option maxRecDepth 100000
set_option maxHeartbeats 4000000
/-! a row as it comes in -/
theorem opens {α : Type} {s : Sh} {g : α → List AV} {Q : α → Nat → Prop} (hq : ∀ a n n', n ≤ n' → Q a n → Q a n') (h1 : ∀ e : Dv, Dv.has s e → ∃ a, e.cells = g a ∧ Q a e.vb) {v : Dv} (h : Dv.has (.sl s) v) :
    ∃ l : List α, v.cells = [.sl (l.flatMap g) l.length] ∧ l.length ≤ v.vb ∧ ∀ a ∈ l, Q a v.vb := by
  obtain ⟨es, rfl, hl, he⟩ := has_sl h
  have key : ∀ es : List Dv, (∀ e ∈ es, Dv.has s e) → ∃ l : List α, Dv.cellsL es = l.flatMap g ∧ es.length = l.length ∧ ∀ a ∈ l, Q a (Dv.vbL es) := by
    intro es
    induction es with
    | nil => intro _; exact ⟨[], rfl, rfl, by simp⟩
    | cons e es ih =>
      intro he
      obtain ⟨l, k1, k2, k3⟩ := ih fun x hx => he x (by simp [hx])
      obtain ⟨a, a1, a2⟩ := h1 e (he e (by simp))
      refine ⟨a :: l, by simp only [Dv.cellsL, a1, k1, List.flatMap_cons], by simp [k2], fun b hb => ?_⟩
      simp only [Dv.vbL]
      rcases List.mem_cons.1 hb with rfl | hb
      · exact hq _ _ _ (by omega) a2
      · exact hq _ _ _ (by omega) (k3 b hb)
  obtain ⟨l, k1, k2, k3⟩ := key es he
  have := vbL_len es
  refine ⟨l, by simp only [Dv.cells, k1, k2], by simp only [Dv.vb]; omega, fun a ha => ?_⟩
  simp only [Dv.vb]
  exact hq _ _ _ (by omega) (k3 a ha)
theorem fm_one {α : Type} (f : α → AV) (l : List α) : (l.flatMap fun a => [f a]) = l.map f := by induction l <;> simp_all
theorem open_ints {k : IntKind} {v : Dv} (h : Dv.has (.sl (.int k)) v) : ∃ l : List Int, v.cells = [.sl (l.map (.int k)) l.length] ∧ l.length ≤ v.vb ∧ ∀ a ∈ l, k.min ≤ a ∧ a ≤ k.max := by
  obtain ⟨l, h1, h2, h3⟩ := opens (g := fun a => [.int k a]) (Q := fun a _ => k.min ≤ a ∧ a ≤ k.max) (fun _ _ _ _ h => h) (fun e he => by obtain ⟨n, rfl, a, b⟩ := has_int he; exact ⟨n, rfl, a, b⟩) h
  exact ⟨l, by rw [h1, fm_one], h2, h3⟩
theorem open_strs {v : Dv} (h : Dv.has (.sl .str) v) : ∃ l : List Bytes, v.cells = [.sl (l.map .str) l.length] ∧ l.length ≤ v.vb ∧ ∀ a ∈ l, a.length ≤ v.vb := by
  obtain ⟨l, h1, h2, h3⟩ := opens (g := fun a => [.str a]) (Q := fun a n => a.length ≤ n) (fun _ _ _ h1 h2 => Nat.le_trans h2 h1) (fun e he => by obtain ⟨n, rfl, a⟩ := has_str he; exact ⟨n, rfl, by simp [Dv.vb]⟩) h
  exact ⟨l, by rw [h1, fm_one], h2, h3⟩
theorem open_bools {v : Dv} (h : Dv.has (.sl .bool) v) : ∃ l : List Bool, v.cells = [.sl (l.map .bool) l.length] ∧ l.length ≤ v.vb := by
  obtain ⟨l, h1, h2, h3⟩ := opens (g := fun a => [.bool a]) (Q := fun a n => True) (fun _ _ _ h1 h2 => h2) (fun e he => by obtain ⟨n, rfl⟩ := has_bool he; exact ⟨n, rfl, trivial⟩) h
  exact ⟨l, by rw [h1, fm_one], h2⟩
def shI : Sh := .st [.str, .int .u32]
def shD : Sh := .st [.int .i64, .int .i64, .sl (.int .i64)]
def shF : Sh := .st [.int .i64, .int .i64, .int .i64, .int .i64]
def shO : Sh := .st [.str, .int .u32, .sl shI, .sl (.int .u32), .sl (.int .i64), .sl .str, .sl .bool, .int .i64, .sl (.int .i64), .sl (.int .i64), .sl .str, .sl shD, .sl shF]
theorem open_I {v : Dv} (h : Dv.has shI v) : ∃ x : Im, v.cells = x.c ∧ x.name.length ≤ v.vb ∧ 0 ≤ x.key ∧ x.key < 4294967296 := by
  obtain ⟨vs, rfl, h⟩ := has_st h
  obtain ⟨x0, vs, rfl, h0, h⟩ := hasL_cons h
  obtain ⟨x1, vs, rfl, h1, h⟩ := hasL_cons h
  obtain rfl := hasL_nil h
  obtain ⟨s, rfl, _⟩ := has_str h0
  obtain ⟨n, rfl, a, b⟩ := has_int h1
  have a : 0 ≤ n := a
  have b : n ≤ 4294967295 := b
  exact ⟨⟨s, n⟩, rfl, by simp only [Dv.vb, Dv.vbL]; omega, a, by simp only; omega⟩
theorem open_D {v : Dv} (h : Dv.has shD v) : ∃ x : Ds, v.cells = x.c ∧ x.tags.length ≤ v.vb := by
  obtain ⟨vs, rfl, h⟩ := has_st h
  obtain ⟨x0, vs, rfl, h0, h⟩ := hasL_cons h
  obtain ⟨x1, vs, rfl, h1, h⟩ := hasL_cons h
  obtain ⟨x2, vs, rfl, h2, h⟩ := hasL_cons h
  obtain rfl := hasL_nil h
  obtain ⟨n, rfl, _, _⟩ := has_int h0
  obtain ⟨m, rfl, _, _⟩ := has_int h1
  obtain ⟨l, e, hl, _⟩ := open_ints h2
  exact ⟨⟨n, m, l⟩, by simp only [Dv.cells, Dv.cellsL, e, Ds.c, List.cons_append, List.nil_append], by simp only [Dv.vb, Dv.vbL]; omega⟩
theorem open_F {v : Dv} (h : Dv.has shF v) : ∃ x : Fx, v.cells = x.c := by
  obtain ⟨vs, rfl, h⟩ := has_st h
  obtain ⟨x0, vs, rfl, h0, h⟩ := hasL_cons h
  obtain ⟨x1, vs, rfl, h1, h⟩ := hasL_cons h
  obtain ⟨x2, vs, rfl, h2, h⟩ := hasL_cons h
  obtain ⟨x3, vs, rfl, h3, h⟩ := hasL_cons h
  obtain rfl := hasL_nil h
  obtain ⟨n, rfl, _, _⟩ := has_int h0
  obtain ⟨m, rfl, _, _⟩ := has_int h1
  obtain ⟨p, rfl, _, _⟩ := has_int h2
  obtain ⟨q, rfl, _, _⟩ := has_int h3
  exact ⟨⟨n, m, p, q⟩, rfl⟩
theorem open_O {v : Dv} (h : Dv.has shO v) (hb : v.vb ≤ 1048576) : ∃ o : Ob, v.av = .agg o.c ∧ o.ok ∧ o.u32s := by
  have hSM : SM = 1048576 := rfl
  obtain ⟨vs, rfl, h⟩ := has_st h
  obtain ⟨x0, vs, rfl, h0, h⟩ := hasL_cons h
  obtain ⟨x1, vs, rfl, h1, h⟩ := hasL_cons h
  obtain ⟨x2, vs, rfl, h2, h⟩ := hasL_cons h
  obtain ⟨x3, vs, rfl, h3, h⟩ := hasL_cons h
  obtain ⟨x4, vs, rfl, h4, h⟩ := hasL_cons h
  obtain ⟨x5, vs, rfl, h5, h⟩ := hasL_cons h
  obtain ⟨x6, vs, rfl, h6, h⟩ := hasL_cons h
  obtain ⟨x7, vs, rfl, h7, h⟩ := hasL_cons h
  obtain ⟨x8, vs, rfl, h8, h⟩ := hasL_cons h
  obtain ⟨x9, vs, rfl, h9, h⟩ := hasL_cons h
  obtain ⟨x10, vs, rfl, h10, h⟩ := hasL_cons h
  obtain ⟨x11, vs, rfl, h11, h⟩ := hasL_cons h
  obtain ⟨x12, vs, rfl, h12, h⟩ := hasL_cons h
  obtain rfl := hasL_nil h
  simp only [Dv.vb, Dv.vbL] at hb
  obtain ⟨name, rfl, _⟩ := has_str h0
  obtain ⟨key, rfl, k1, k2⟩ := has_int h1
  obtain ⟨imps, e2, l2, q2⟩ := opens (g := Im.c) (Q := fun x n => x.name.length ≤ n ∧ 0 ≤ x.key ∧ x.key < 4294967296) (fun _ _ _ a b => ⟨Nat.le_trans b.1 a, b.2⟩) (fun e he => open_I he) h2
  obtain ⟨code, e3, l3, q3⟩ := open_ints h3
  obtain ⟨procs, e4, l4, _⟩ := open_ints h4
  obtain ⟨names, e5, l5, q5⟩ := open_strs h5
  obtain ⟨exps, e6, l6⟩ := open_bools h6
  obtain ⟨init, rfl, _, _⟩ := has_int h7
  obtain ⟨vars, e8, l8, _⟩ := open_ints h8
  obtain ⟨shown, e9, l9, _⟩ := open_ints h9
  obtain ⟨strs, e10, l10, q10⟩ := open_strs h10
  obtain ⟨descs, e11, l11, q11⟩ := opens (g := Ds.c) (Q := fun x n => x.tags.length ≤ n) (fun _ _ _ a b => Nat.le_trans b a) (fun e he => open_D he) h11
  obtain ⟨fixes, e12, l12, _⟩ := opens (g := Fx.c) (Q := fun _ _ => True) (fun _ _ _ a b => trivial) (fun e he => by obtain ⟨x, hx⟩ := open_F he; exact ⟨x, hx, trivial⟩) h12
  have k1 : 0 ≤ key := k1
  have k2 : key ≤ 4294967295 := k2
  have q3 : ∀ w ∈ code, 0 ≤ w ∧ w ≤ 4294967295 := q3
  simp only [Dv.vb] at hb
  refine ⟨⟨name, key, imps, code, procs, names, exps, init, vars, shown, strs, descs, fixes⟩, by simp only [Dv.av, Dv.cells, Dv.cellsL, e2, e3, e4, e5, e6, e8, e9, e10, e11, e12, Ob.c, List.cons_append, List.nil_append, List.append_nil], ?_, ?_⟩
  · constructor <;> simp only [hSM] <;> first | omega | skip
    · intro x hx; have := (q2 x hx).1; omega
    · intro x hx; have := q5 x hx; omega
    · intro x hx; have := q10 x hx; omega
    · intro x hx; have := q11 x hx; omega
  · refine ⟨⟨k1, by simp only; omega⟩, fun w hw => ?_, fun x hx => (q2 x hx).2⟩
    have := q3 w hw; omega
end Go.Proofs.Ytkjmjalfjbhfnaa.objDone
