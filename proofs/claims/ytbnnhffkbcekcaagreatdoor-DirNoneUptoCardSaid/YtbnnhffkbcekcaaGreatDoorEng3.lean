/- The engine, part 3: the evaluator says of each operation what the model's run does: operations that change no memory. -/
import Derived.Test.YtbnnhffkbcekcaaGreatDoorEng2
import Derived.Laws.StructEq
namespace Go.Eng
open Go
set_option linter.unusedVariables false
set_option linter.unusedSimpArgs false

theorem ofCell_rel (m : Mem) (L : Heap) (v : Value) : VRel m L (ofCell v) v := by
  cases v <;> simp [ofCell, VRel]

theorem ofCells_rel (m : Mem) (L : Heap) : ∀ vs : List Value, CRel m L (vs.map ofCell) vs
  | [] => by simp [CRel]
  | v :: vs => by simp only [List.map_cons]; exact CRel.cons (ofCell_rel m L v) (ofCells_rel m L vs)

theorem ofV_rel (m : Mem) (L : Heap) (v : Value) : VRel m L (ofV v) v := by
  cases v with
  | agg cs => simp only [ofV, VRel]; exact ⟨cs.toList, by simp, ofCells_rel m L _⟩
  | func f a b => simp only [ofV, VRel]; exact ⟨a.toList, b.toList, by simp, ofCells_rel m L _, ofCells_rel m L _⟩
  | _ => simp [ofV, ofCell, VRel]

theorem opd_rel {m : Mem} {L : Heap} {fr : List AV} {a : Act} (h : CRel m L fr a.tmps.toList) (x : Operand) : VRel m L (opd fr x) (a.eval x) := by
  cases x with
  | tmp t =>
    have := h.getD t
    simpa [opd, Act.eval, Array.getD_eq_getD_getElem?, List.getD_eq_getElem?_getD] using this
  | const v => exact ofV_rel m L v
  | global g => simp [opd, Act.eval, VRel]
  | func f => simp [opd, Act.eval, VRel, CRel]

theorem bare_rel {m : Mem} {L : Heap} {x : AV} {u : Value} (h : VRel m L x u) (hc : x.cond = true) : VRel m L x.bare u := by
  cases x <;> first | exact h | (simp only [VRel, AV.bare, AV.cond] at *; exact h.1 hc)

/-- what is claimed of an operation's run -/
def Sound (P : Program) (m : Mem) (L : Heap) (w : World) (z : Rz) (s : Sem Next) : Prop :=
  z.pre → ∃ n w' m', s.run P w = .ok n w' ∧ ((∃ u, n = .value u ∧ VRel m' z.L z.v u) ∨ (n = .skip ∧ z.v = .lit undef)) ∧ WRel m' z.L w' ∧ Ext m L w m' z.L w'

def vSem (s : Sem Value) : Sem Next := do pure (.value (← s))

theorem Sound.pure {P : Program} {m : Mem} {L : Heap} {w : World} {pre : Prop} {v : AV} {s : Sem Value} (hW : WRel m L w) (h : pre → ∃ u, s.run P w = .ok u w ∧ VRel m L v u) :
    Sound P m L w ⟨pre, v, L⟩ (vSem s) := by
  intro hp
  obtain ⟨u, hr, hv⟩ := h hp
  exact ⟨.value u, w, m, by simp [vSem, hr], .inl ⟨u, rfl, hv⟩, hW, Ext.refl⟩

theorem Sound.also {P : Program} {m : Mem} {L : Heap} {w : World} {z : Rz} {s : Sem Next} {p : Prop} (h : p → Sound P m L w z s) : Sound P m L w (z.also p) s :=
  fun hp => h hp.1 hp.2

theorem Sound.bad {P : Program} {m : Mem} {L : Heap} {w : World} {s : Sem Next} : Sound P m L w (bad L) s := fun h => h.elim

section
variable {P : Program} {m : Mem} {L : Heap} {w : World}

theorem int_sound (hW : WRel m L w) (op : BinOp) (t : TypeId) (x y : Operand) (k k' : IntKind) (a b : Int) :
    Sound P m L w (intR true L op k a k' b) (vSem (do eqGuard op t x y (.int k a) (.int k' b); binOp op t (.int k a) (.int k' b))) := by
  cases op <;> refine Sound.pure hW fun hp => ?_ <;>
    first
    | (subst hp; simp [eqGuard, binOp, Op.intArith, Op.intBits, Op.intCmp, VRel, ibits]; done)
    | (subst hp; simp [eqGuard, binOp, Op.intCmp, VRel]; cases h : decide (a = b) <;> simp_all; done)
    | (obtain ⟨rfl, hb⟩ := hp; have hb := hb rfl; simp [eqGuard, binOp, Op.intDiv, VRel, hb]; done)
    | (have hp := hp rfl; simp [eqGuard, binOp, Op.shift, VRel, show ¬ b < 0 by omega]; done)

theorem str_sound (hW : WRel m L w) (op : BinOp) (t : TypeId) (x y : Operand) (a b : List UInt8) :
    Sound P m L w (strR true L op a b) (vSem (do eqGuard op t x y (.string ⟨a.toArray⟩) (.string ⟨b.toArray⟩); binOp op t (.string ⟨a.toArray⟩) (.string ⟨b.toArray⟩))) := by
  cases op <;> first | exact fun h => h.elim | refine Sound.pure hW fun hp => ?_
  all_goals first
    | (simp [eqGuard, binOp, Op.stringOp, VRel, ByteArray.toList_mk]; done)
    | (have hp := hp rfl
       have h0 : ¬ (9223372036854775807 < ((⟨a.toArray⟩ : ByteArray).size : Int) + ((⟨b.toArray⟩ : ByteArray).size : Int)) := by
        simp [ByteArray.size]; omega
       simp [eqGuard, binOp, Op.stringOp, VRel, h0]
       apply ByteArray.ext; simp)

theorem run_underlying' {t : TypeId} {d : TypeDesc} (h : P.underlying t = some d) : (underlying t).run P w = .ok d w := by simp [underlying, h]

theorem run_equal_bool {t : TypeId} (h : P.underlying t = some .bool) (a b : Bool) : (Op.equal t (.bool a) (.bool b)).run P w = .ok (a == b) w := by
  show (Op.equalIn (9999 + 1) t (.bool a) (.bool b)).run P w = _
  generalize 9999 = d
  simp [Op.equalIn, run_underlying' h]

theorem un_sound (hW : WRel m L w) (op : UnOp) {X : AV} {u : Value} (hx : VRel m L X u) : Sound P m L w (unR L op X) (vSem (Op.unary op u)) := by
  cases op <;> cases X <;> first
    | exact fun h => h.elim
    | (simp only [VRel] at hx; obtain ⟨b, rfl, h1, h2⟩ := hx; refine Sound.pure hW fun _ => ?_; cases b <;> simp_all [Op.unary, VRel]; done)
    | (simp only [VRel] at hx; subst hx; refine Sound.pure hW fun _ => ?_; simp [Op.unary, Op.intArith, Op.intBits, VRel, ibits])

theorem run_info' {t : TypeId} (h : (P.info? t).isSome = true) : ∃ i, P.info? t = some i ∧ P.cellsOf t = i.size ∧ P.bytesOf t = i.bytes := by
  obtain ⟨i, hi⟩ := Option.isSome_iff_exists.1 h
  exact ⟨i, hi, by simp [Program.cellsOf, hi], by simp [Program.bytesOf, hi]⟩

theorem run_sizeOf' {t : TypeId} (h : (P.info? t).isSome = true) : (sizeOf t).run P w = .ok (P.cellsOf t) w := by
  obtain ⟨i, hi, hs, _⟩ := run_info' h
  simp [sizeOf, typeInfo, hi, hs]

theorem run_loadCells' (g o : Nat) (us : List Value) (n : Nat) (hn : n ≤ us.length) (h : ∀ j v, us[j]? = some v → w.cell? ⟨g, o + j, none⟩ = some v) :
    (loadCells ⟨g, o, none⟩ n).run P w = .ok (us.take n).toArray w := by
  have := run_loadCells_list (P := P) (w := w) ⟨g, o, none⟩ (us.take n) fun j v hj => by
    rw [Addr.add_lit]
    rw [List.getElem?_take] at hj
    split at hj
    · exact h j v hj
    · cases hj
  rwa [show (us.take n).length = n by simp; omega] at this

theorem loadVar_sound {t : TypeId} {cs : List AV} {us : List Value} {g o : Nat} (hc : CRel m L cs us) (h : ∀ j v, us[j]? = some v → w.cell? ⟨g, o + j, none⟩ = some v)
    (ho : headOk P t cs.length) : ∃ u, (loadVar t ⟨g, o, none⟩).run P w = .ok u w ∧ VRel m L (headV P t cs) u := by
  unfold headOk at ho
  have hl := hc.length
  split at ho
  · rename_i fs hu
    refine ⟨.agg (us.take (P.cellsOf t)).toArray, ?_, ?_⟩
    · have hld := run_loadCells' (P := P) (w := w) g o us (P.cellsOf t) (by omega) h
      simp [loadVar, isAgg, run_underlying' hu, run_sizeOf' ho.1, hld]
    · simp only [headV, hu, VRel]; exact ⟨_, rfl, hc.take _⟩
  · rename_i n e hu
    refine ⟨.agg (us.take (P.cellsOf t)).toArray, ?_, ?_⟩
    · have hld := run_loadCells' (P := P) (w := w) g o us (P.cellsOf t) (by omega) h
      simp [loadVar, isAgg, run_underlying' hu, run_sizeOf' ho.1, hld]
    · simp only [headV, hu, VRel]; exact ⟨_, rfl, hc.take _⟩
  · rename_i d hu1 hu2 hu
    obtain ⟨c, hc0⟩ : ∃ c, cs[0]? = some c := ⟨cs[0], by simp⟩
    obtain ⟨u, hu0, hr⟩ := hc.get 0 c hc0
    have hcell := h 0 u hu0
    rw [Nat.add_zero] at hcell
    refine ⟨u, ?_, ?_⟩
    · cases d <;> simp_all [loadVar, isAgg, run_underlying' hu]
    · have : headV P t cs = cs.getD 0 (zeroA P t) := by unfold headV; rw [hu]; cases d <;> simp_all
      rw [this]; simpa [List.getD, hc0] using hr
  · exact ho.elim

theorem part_sound {t : TypeId} {cs : List AV} {us : List Value} {o : Nat} (hc : CRel m L cs us) (hi : (P.info? t).isSome = true) (ho : headOk P t (cs.length - o)) (hle : o ≤ cs.length) :
    ∃ u, (part t us.toArray o).run P w = .ok u w ∧ VRel m L (headV P t (cs.drop o)) u := by
  have hl := hc.length
  unfold headOk at ho
  split at ho
  · rename_i fs hu
    refine ⟨.agg ((us.drop o).take (P.cellsOf t)).toArray, ?_, ?_⟩
    · simp [part, isAgg, run_underlying' hu, run_sizeOf' hi, List.extract_eq_take_drop]
    · simp only [headV, hu, VRel]; exact ⟨_, rfl, (hc.drop o).take _⟩
  · rename_i n e hu
    refine ⟨.agg ((us.drop o).take (P.cellsOf t)).toArray, ?_, ?_⟩
    · simp [part, isAgg, run_underlying' hu, run_sizeOf' hi, List.extract_eq_take_drop]
    · simp only [headV, hu, VRel]; exact ⟨_, rfl, (hc.drop o).take _⟩
  · rename_i d hu1 hu2 hu
    obtain ⟨c, hc0⟩ : ∃ c, cs[o]? = some c := ⟨cs[o]'(by omega), by simp⟩
    obtain ⟨u, hu0, hr⟩ := hc.get o c hc0
    refine ⟨u, ?_, ?_⟩
    · cases d <;> simp_all [part, isAgg, run_underlying' hu]
    · have : headV P t (cs.drop o) = (cs.drop o).getD 0 (zeroA P t) := by unfold headV; rw [hu]; cases d <;> simp_all
      rw [this]; simpa [List.getD, hc0] using hr
  · exact ho.elim

theorem row_cells (hW : WRel m L w) {id : Nat} {cs : List AV} {sz ver : Nat} (h : L[id]? = some (.row cs sz ver)) : ∃ us, CRel m L cs us ∧ (∀ j v, us[j]? = some v → w.cell? ⟨m.blk id, j, none⟩ = some v) ∧ ∀ j, j < us.length → w.frozen? ⟨m.blk id, j, none⟩ = false := by
  by_cases hcap : m.cap id = 0
  · have := hW.nils _ _ _ _ h hcap
    subst this
    exact ⟨[], CRel.nil m L, fun j v hj => by simp at hj, fun j hj => by simp at hj⟩
  obtain ⟨us, rest, elem, lo, hi, hb, hc, hl, hf⟩ := hW.rows _ _ _ _ h hcap
  refine ⟨us, hc, fun j v hj => ?_, fun j hj => ?_⟩
  · have : j < us.length := (List.getElem?_eq_some_iff.1 hj).1
    simp [World.cell?, hb, List.getElem?_append_left this, hj]
  · simp [World.frozen?, hb]; omega

theorem fresh_row {id ver : Nat} (h : fresh L id ver) : ∃ cs sz, L[id]? = some (.row cs sz ver) ∧ rowOf L id = cs ∧ szOf L id = sz := by
  obtain ⟨h1, h2⟩ := h
  unfold isRow at h1
  split at h1
  · rename_i cs sz v hL
    simp [verOf, hL] at h2
    subst h2
    exact ⟨cs, sz, hL, by simp [rowOf, hL], by simp [szOf, hL]⟩
  · cases h1

theorem msl_slice {id ver off len : Nat} {u : Value} (hv : VRel m L (.msl id ver off len) u) (hf : fresh L id ver) :
    (off + len) * szOf L id ≤ (rowOf L id).length ∧ off + len ≤ m.cap id ∧ ∃ a, u = .slice a len (m.cap id - off) ∧ (off = m.cap id ∨ a = some ⟨m.blk id, off * szOf L id, none⟩) := by
  obtain ⟨cs, sz, hL, h1, h2⟩ := fresh_row hf
  simp only [VRel] at hv
  obtain ⟨cs', sz', v', hL', hle, _, hv⟩ := hv
  rw [hL] at hL'
  simp only [Option.some.injEq, AObj.row.injEq] at hL'
  obtain ⟨rfl, rfl, rfl⟩ := hL'
  rw [h1, h2]
  exact hv rfl

theorem csl_slice {id ver off len : Nat} {u : Value} (hv : VRel m L (.csl id ver off len) u) (hf : fresh L id ver) :
    (off + len) * szOf L id ≤ (rowOf L id).length ∧ off + len ≤ m.cap id ∧ ∃ a, u = .slice a len len ∧ (len = 0 ∨ a = some ⟨m.blk id, off * szOf L id, none⟩) := by
  obtain ⟨cs, sz, hL, h1, h2⟩ := fresh_row hf
  simp only [VRel] at hv
  obtain ⟨cs', sz', v', hL', hle, _, hv⟩ := hv
  rw [hL] at hL'
  simp only [Option.some.injEq, AObj.row.injEq] at hL'
  obtain ⟨rfl, rfl, rfl⟩ := hL'
  rw [h1, h2]
  exact hv rfl

theorem ref_ptr {id ver off : Nat} {u : Value} (hv : VRel m L (.ref id ver off) u) (hf : fresh L id ver) : u = .pointer (some ⟨m.blk id, off, none⟩) := by
  obtain ⟨cs, sz, hL, h1, h2⟩ := fresh_row hf
  simp only [VRel] at hv
  rcases hv with ⟨cs', sz', v', hL', hle, _, hv⟩ | ⟨r, hL', _⟩
  · rw [hL] at hL'
    simp only [Option.some.injEq, AObj.row.injEq] at hL'
    obtain ⟨rfl, rfl, rfl⟩ := hL'
    exact hv rfl
  · rw [hL] at hL'; simp at hL'

theorem load_sound (hW : WRel m L w) (t : TypeId) {X : AV} {u : Value} (hx : VRel m L X u) : Sound P m L w (loadR P true L t X) (vSem (Instr.loadAt t u)) := by
  cases X <;> try exact fun h => h.elim
  case ref id ver off =>
    refine Sound.pure hW fun hp => ?_
    obtain ⟨hf, hle, ho⟩ := hp rfl
    obtain ⟨cs, sz, hL, h1, h2⟩ := fresh_row hf
    have hu := ref_ptr hx hf
    subst hu
    obtain ⟨us, hc, hcell, _⟩ := row_cells hW hL
    rw [h1] at ho hle ⊢
    obtain ⟨r, hr, hv⟩ := loadVar_sound (P := P) (w := w) (t := t) (g := m.blk id) (o := off) (hc.drop off) (fun j v hj => by rw [List.getElem?_drop] at hj; exact hcell _ _ hj) (by simpa using ho)
    exact ⟨r, by simp [Instr.loadAt, Instr.sureAddr, hr], hv⟩
  case ip cs =>
    refine Sound.pure hW fun hp => ?_
    simp only [VRel] at hx
    obtain ⟨us, g, o, rfl, hc, hpin⟩ := hx
    obtain ⟨r, hr, hv⟩ := loadVar_sound (P := P) (w := w) (t := t) (g := g) (o := o) hc (fun j v hj => hW.pins _ _ _ (hpin j v hj)) (hp rfl)
    exact ⟨r, by simp [Instr.loadAt, Instr.sureAddr, hr], hv⟩

theorem field_sound (hW : WRel m L w) (t : TypeId) (f : Nat) {X : AV} {u : Value} (hx : VRel m L X u) : Sound P m L w (fieldR P true L t X f) (vSem (Instr.field t u f)) := by
  unfold fieldR
  split
  · rename_i fields cs hu
    simp only [VRel] at hx
    obtain ⟨us, rfl, hc⟩ := hx
    split
    · rename_i fd hfd
      refine Sound.pure hW fun hp => ?_
      obtain ⟨hi, hp⟩ := hp
      obtain ⟨r, hr, hv⟩ := part_sound (P := P) (w := w) hc hi (hp rfl).1 (hp rfl).2
      exact ⟨r, by simp [Instr.field, run_underlying' hu, hfd, asAgg, hr], hv⟩
    · exact fun h => h.elim
  · exact fun h => h.elim

theorem pickV_true (x y : AV) : pickV true x y = x := by
  cases x <;> first | rfl | (cases y <;> rfl)
theorem pickV_false (x y : AV) : pickV false x y = y := by
  cases x <;> first | rfl | (cases y <;> rfl)
theorem pickV_rel {b : Bool} {x y : AV} {r : Value} (h1 : b = true → VRel m L x r) (h2 : b = false → VRel m L y r) : VRel m L (pickV b x y) r := by
  cases b with
  | true => rw [pickV_true]; exact h1 rfl
  | false => rw [pickV_false]; exact h2 rfl

theorem extract_sound (hW : WRel m L w) (i : Nat) {X : AV} {u : Value} (hx : VRel m L X u) : Sound P m L w (extractR true L X i) (vSem (Instr.extract u i)) := by
  have key : ∀ (vs : List AV) (u : Value), VRel m L (.tup vs) u → i < vs.length → ∃ r, (Instr.extract u i).run P w = .ok r w ∧ VRel m L (vs.getD i .any) r := by
    intro vs u hx hi
    simp only [VRel] at hx
    obtain ⟨us, rfl, hc⟩ := hx
    obtain ⟨r, hr, hv⟩ := hc.get i vs[i] (by simp [hi])
    exact ⟨r, by simp [Instr.extract, hr], by simpa [List.getD, hi] using hv⟩
  unfold extractR
  split
  · refine Sound.pure hW fun hp => key _ _ hx (hp rfl)
  · rename_i b vs ws
    refine Sound.pure hW fun hp => ?_
    have hp := hp rfl
    simp only [VRel] at hx
    have pv : ∀ (x y : AV) (r : Value), (b = true → VRel m L x r) → (b = false → VRel m L y r) → VRel m L (pickV b x y) r := fun x y r h1 h2 => pickV_rel h1 h2
    cases b with
    | true =>
      obtain ⟨r, hr, hv⟩ := key vs u (by simpa [VRel] using hx.1 rfl) (hp.1 rfl)
      exact ⟨r, hr, pv _ _ _ (fun _ => hv) (fun h => by cases h)⟩
    | false =>
      obtain ⟨r, hr, hv⟩ := key ws u (by simpa [VRel] using hx.2 rfl) (hp.2 rfl)
      exact ⟨r, hr, pv _ _ _ (fun h => by cases h) (fun _ => hv)⟩
  · exact fun h => h.elim

theorem equal_of {t : TypeId} {x y : Value} {b : Bool} (h : ∀ d : Nat, (Op.equalIn (d + 1) t x y).run P w = .ok b w) : (Op.equal t x y).run P w = .ok b w := h 9999

def isNil : Value → Bool
  | .slice none _ _ => true
  | .pointer none => true
  | .nilIface => true
  | .map none => true
  | .nilFunc => true
  | _ => false
theorem eqGuard_const (op : BinOp) (t : TypeId) (x y : Operand) (h : (isConst x || isConst y) = true) : (eqGuard op t x y .nilIface .nilIface).run P w = .ok () w := by
  cases op <;> cases x <;> cases y <;> simp_all [eqGuard, isConst]

theorem nil_sound (hW : WRel m L w) (neq : Bool) (t : TypeId) (x y : Operand) {X : AV} {u v : Value} (hx : VRel m L X u) :
    Sound P m L w (nilR P L neq (isConst x || isConst y) t X v) (vSem (do eqGuard (cond neq .neq .eql) t x y u v; binOp (cond neq .neq .eql) t u v)) := by
  have fin : ∀ {b : Bool} {pre : Prop} {V : AV}, (pre → ((eqGuard (cond neq .neq .eql) t x y u v).run P w = .ok () w) ∧ ((∀ d : Nat, (Op.equalIn (d + 1) t u v).run P w = .ok b w)) ∧ VRel m L V (.bool (cond neq (!b) b)) ∧ (isNil v = true)) →
      Sound P m L w ⟨pre, V, L⟩ (vSem (do eqGuard (cond neq .neq .eql) t x y u v; binOp (cond neq .neq .eql) t u v)) := by
    intro b pre V h
    refine Sound.pure hW fun hp => ?_
    obtain ⟨h0, h1, h2, h3⟩ := h hp
    refine ⟨_, ?_, h2⟩
    have h1 := equal_of h1
    cases neq <;> cases v <;> simp only [isNil, Bool.false_eq_true] at h3 <;> simp_all [binOp]
  unfold nilR
  split
  · rename_i e n c n' c' hu
    simp only [VRel] at hx; subst hx
    refine fin (b := true) fun _ => ⟨by cases neq <;> simp [eqGuard], fun d => by simp [Op.equalIn, run_underlying' hu], by cases neq <;> simp [VRel], rfl⟩
  · rename_i e cs n n' c' hu
    simp only [VRel] at hx
    obtain ⟨a, cap, rfl, hle, us, hc, hp⟩ := hx
    refine Sound.pure hW fun _ => ?_
    have hk : a = none → cs = [] := by
      rintro rfl
      rcases hp with rfl | ⟨g, o, h, _⟩
      · have := hc.length
        exact List.eq_nil_of_length_eq_zero (by rw [← this]; rfl)
      · cases h
    have he : (Op.equal t (.slice a n cap) (.slice none n' c')).run P w = .ok a.isNone w := equal_of fun d => by cases a <;> simp [Op.equalIn, run_underlying' hu]
    cases neq
    · refine ⟨.bool a.isNone, by simp [eqGuard, binOp, he], ?_⟩
      simp only [cond_false, VRel]
      exact ⟨_, rfl, fun h => hk (by simpa using h), fun _ => trivial⟩
    · refine ⟨.bool (!a.isNone), by simp [eqGuard, binOp, he], ?_⟩
      simp only [cond_true, VRel]
      exact ⟨_, rfl, fun _ => trivial, fun h => hk (by simpa using h)⟩
  · rename_i e id ver off n n' c' hu
    refine Sound.pure hW fun hf => ?_
    obtain ⟨k1, k2, a, rfl, ha⟩ := msl_slice hx hf
    have hk : a = none → n = 0 := by
      rintro rfl
      rcases ha with ha | ha
      · omega
      · cases ha
    have he : (Op.equal t (.slice a n (m.cap id - off)) (.slice none n' c')).run P w = .ok a.isNone w := equal_of fun d => by cases a <;> simp [Op.equalIn, run_underlying' hu]
    cases neq
    · refine ⟨.bool a.isNone, by simp [eqGuard, binOp, he], ?_⟩
      simp only [cond_false, VRel]
      exact ⟨_, rfl, fun h => hk (by simpa using h), fun _ => trivial⟩
    · refine ⟨.bool (!a.isNone), by simp [eqGuard, binOp, he], ?_⟩
      simp only [cond_true, VRel]
      exact ⟨_, rfl, fun _ => trivial, fun h => hk (by simpa using h)⟩
  · rename_i e hu
    simp only [VRel] at hx; subst hx
    exact fin (b := true) fun _ => ⟨by cases neq <;> simp [eqGuard], fun d => by simp [Op.equalIn, run_underlying' hu], by cases neq <;> simp [VRel], rfl⟩
  · rename_i e id ver off hu
    refine Sound.pure hW fun hf => ?_
    have := ref_ptr hx hf; subst this
    have he : (Op.equal t (.pointer (some ⟨m.blk id, off, none⟩)) (.pointer none)).run P w = .ok false w := equal_of fun d => by simp [Op.equalIn, run_underlying' hu]
    cases neq
    · exact ⟨.bool false, by simp [eqGuard, binOp, he], by simp [VRel]⟩
    · exact ⟨.bool true, by simp [eqGuard, binOp, he], by simp [VRel]⟩
  · rename_i e cs hu
    simp only [VRel] at hx
    obtain ⟨us, g, o, rfl, _⟩ := hx
    exact fin (b := false) fun _ => ⟨by cases neq <;> simp [eqGuard], fun d => by simp [Op.equalIn, run_underlying' hu], by cases neq <;> simp [VRel], rfl⟩
  · rename_i e hu
    simp only [VRel] at hx; subst hx
    exact fin (b := true) fun h => ⟨eqGuard_const _ _ _ _ h, fun d => by simp [Op.equalIn, run_underlying' hu], by cases neq <;> simp [VRel], rfl⟩
  · rename_i e ty z hu
    simp only [VRel] at hx
    obtain ⟨z', rfl, _⟩ := hx
    exact fin (b := false) fun _ => ⟨by cases neq <;> simp [eqGuard], fun d => by simp [Op.equalIn, run_underlying' hu], by cases neq <;> simp [VRel], rfl⟩
  · rename_i k e hu
    simp only [VRel] at hx; subst hx
    exact fin (b := true) fun _ => ⟨by cases neq <;> simp [eqGuard], fun d => by simp [Op.equalIn, run_underlying' hu], by cases neq <;> simp [VRel], rfl⟩
  · rename_i k e id hu
    simp only [VRel] at hx
    obtain ⟨r, _, rfl⟩ := hx
    exact fin (b := false) fun _ => ⟨by cases neq <;> simp [eqGuard], fun d => by simp [Op.equalIn, run_underlying' hu], by cases neq <;> simp [VRel], rfl⟩
  · rename_i k e kd f hu
    simp only [VRel] at hx
    obtain ⟨g, es, clock, rfl, _⟩ := hx
    exact fin (b := false) fun _ => ⟨by cases neq <;> simp [eqGuard], fun d => by simp [Op.equalIn, run_underlying' hu], by cases neq <;> simp [VRel], rfl⟩
  · rename_i hu
    simp only [VRel] at hx; subst hx
    exact fin (b := true) fun _ => ⟨by cases neq <;> simp [eqGuard], fun d => by simp [Op.equalIn, run_underlying' hu], by cases neq <;> simp [VRel], rfl⟩
  · rename_i hu
    simp only [VRel] at hx
    obtain ⟨us, vs, rfl, _⟩ := hx
    exact fin (b := false) fun _ => ⟨by cases neq <;> simp [eqGuard], fun d => by simp [Op.equalIn, run_underlying' hu], by cases neq <;> simp [VRel], rfl⟩
  · exact fun h => h.elim

theorem eqOne_run {t : TypeId} {X Y : AV} {u v : Value} {b : Bool} (ht : fits P t X = true) (hx : VRel m L X u) (hy : VRel m L Y v) (h : eqOne X Y = some b) (d : Nat) : (Op.equalIn (d + 1) t u v).run P w = .ok b w := by
  unfold eqOne at h
  split at h
  · simp only [VRel] at hx hy; subst hx hy
    simp only [fits] at ht
    split at h
    · rename_i hkk; subst hkk
      simp only [Option.some.injEq] at h; subst h
      split at ht
      · rename_i h1
        rw [run_equalIn_int w d t _ _ _ _ h1]; congr 1
      · cases ht
    · cases h
  · simp only [VRel] at hx hy; subst hx hy
    simp only [fits] at ht
    simp only [Option.some.injEq] at h; subst h
    split at ht
    · rename_i h1
      rw [run_equalIn_string w d t _ _ h1]; simp [ByteArray.toList_mk]
    · cases ht
  · simp only [VRel] at hx hy; subst hx hy
    simp only [fits] at ht
    simp only [Option.some.injEq] at h; subst h
    split at ht
    · rename_i h1
      rw [run_equalIn_bool w d t _ _ h1]
    · cases ht
  · cases h

theorem eqFs_run {cs ds : List AV} {us vs : List Value} (hc : CRel m L cs us) (hd : CRel m L ds vs) (d : Nat) : ∀ (fs : List Field) (b : Bool), eqFs P cs ds fs = some b → (Op.eqFields (d + 1) us.toArray vs.toArray fs).run P w = .ok b w := by
  intro fs
  induction fs with
  | nil => intro b h; simp [eqFs] at h; subst h; simp [Op.eqFields]
  | cons f fs ih =>
    intro b h
    simp only [eqFs] at h
    split at h
    · rename_i hf
      obtain ⟨h1, h2, h3, h4, h5⟩ := hf
      split at h
      · rename_i b1 b2 hb1 hb2
        simp only [Option.some.injEq] at h
        subst h
        have hpl : ∀ n, 0 < n → headOk P f.type n := by
          intro n hn
          unfold fits at h2
          unfold headOk
          split at h2 <;> first | cases h2; done | skip
          all_goals split at h2 <;> first | cases h2; done | (rename_i hu; simp only [hu]; exact hn)
        have hv : ∀ cs' : List AV, headV P f.type cs' = cs'.getD 0 (zeroA P f.type) := by
          intro cs'
          unfold fits at h2
          unfold headV
          split at h2 <;> first | cases h2; done | skip
          all_goals split at h2 <;> first | cases h2; done | (rename_i hu; simp only [hu])
        obtain ⟨u1, r1, q1⟩ := part_sound (P := P) (w := w) hc h3 (hpl _ (by omega)) (by omega : f.offset ≤ cs.length)
        obtain ⟨u2, r2, q2⟩ := part_sound (P := P) (w := w) hd h3 (hpl _ (by omega)) (by omega : f.offset ≤ ds.length)
        rw [hv] at q1 q2
        have g1 : (cs.drop f.offset).getD 0 (zeroA P f.type) = cs.getD f.offset .any := by simp [List.getD, List.getElem?_drop, h4]
        have g2 : (ds.drop f.offset).getD 0 (zeroA P f.type) = ds.getD f.offset .any := by simp [List.getD, List.getElem?_drop, h5]
        rw [g1] at q1
        rw [g2] at q2
        have e := eqOne_run (P := P) (w := w) h2 q1 q2 hb1 d
        have := ih _ hb2
        simp only [Op.eqFields, h1, if_true, Sem.run_bind, r1, r2, Result.andThen_ok, e, Sem.run_ite, ne_eq, not_false_eq_true]
        cases b1 <;> simp [this]
      · cases h
    · cases h

theorem agg_sound (hW : WRel m L w) (neq : Bool) (t : TypeId) (x y : Operand) {cs ds : List AV} {u v : Value} (hx : VRel m L (.agg cs) u) (hy : VRel m L (.agg ds) v) :
    Sound P m L w (eqAgg P true L neq t cs ds) (vSem (do eqGuard (cond neq .neq .eql) t x y u v; binOp (cond neq .neq .eql) t u v)) := by
  simp only [VRel] at hx hy
  obtain ⟨us, rfl, hc⟩ := hx
  obtain ⟨vs, rfl, hd⟩ := hy
  unfold eqAgg
  split
  · rename_i fields hu
    split
    · rename_i b hb
      refine Sound.pure hW fun hp => ?_
      obtain ⟨h1, h2⟩ := hp
      have hg : (eqGuard (cond neq .neq .eql) t x y (.agg us.toArray) (.agg vs.toArray)).run P w = .ok () w := by
        cases neq <;> exact run_eqGuard_agg w _ _ _ _ _ _ h2
      have he : (Op.equal t (.agg us.toArray) (.agg vs.toArray)).run P w = .ok b w := by
        have hf : P.fieldsOf t = fields := by simp [Program.fieldsOf, hu]
        have := run_equalIn_struct (P := P) w 9999 t us.toArray vs.toArray (by rw [hf, hu]) h1
        rw [hf] at this
        show (Op.equalIn 10000 t _ _).run P w = _
        rw [this]
        exact eqFs_run hc hd 9998 _ _ hb
      cases neq
      · simp only [cond_false] at hg
        exact ⟨.bool b, by simp [hg, binOp, he], by simp [VRel]⟩
      · simp only [cond_true] at hg
        exact ⟨.bool !b, by simp [hg, binOp, he], by simp [VRel]⟩
    · exact fun h => by cases h
  · exact fun h => h.elim

theorem bin_sound (hW : WRel m L w) (op : BinOp) (t : TypeId) (x y : Operand) {X Y : AV} {u v : Value} (hx : VRel m L X u) (hy : VRel m L Y v) :
    Sound P m L w (binR P true L op t X Y (isConst x || isConst y)) (vSem (do eqGuard op t x y u v; binOp op t u v)) := by
  unfold binR
  split
  · simp only [VRel] at hx hy; subst hx hy; exact int_sound hW _ _ _ _ _ _ _ _
  · simp only [VRel] at hx hy; subst hx hy; exact str_sound hW _ _ _ _ _ _
  · simp only [VRel] at hx hy; subst hx hy
    cases op <;> first
      | exact fun h => h.elim
      | (refine Sound.pure hW fun hp => ?_
         simp [eqGuard, binOp, run_equal_bool hp, VRel])
  · split
    · exact agg_sound hW false t x y hx hy
    · exact agg_sound hW true t x y hx hy
    · exact fun h => h.elim
  · simp only [VRel] at hy; subst hy
    split
    · exact nil_sound hW false t x y hx
    · exact nil_sound hW true t x y hx
    · exact fun h => h.elim
  · exact fun h => h.elim


end
end Go.Eng
