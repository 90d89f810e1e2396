/- The engine, part 11: a function's body gives its contract; a contract at an empty heap serves every heap; a law. -/
import Derived.Test.YtkglmlfkcmpbbaaEng10
import Derived.Below
namespace Go.Eng
open Go Go.RowKit
set_option linter.unusedVariables false
set_option linter.unusedSimpArgs false

def resR (P : Program) (fr : List AV) (L : Heap) : ResultVar → Rz
  | .tmp t => ⟨(fr.getD t .any).cond = true, (fr.getD t .any).bare, L⟩
  | .cell a t => (loadR P true L t (fr.getD a .any).bare).also ((fr.getD a .any).cond = true)
def resAll (P : Program) (fr : List AV) (L : Heap) : List ResultVar → Prop × List AV
  | [] => (True, [])
  | r :: rs => ((resR P fr L r).pre ∧ (resAll P fr L rs).1, (resR P fr L r).v :: (resAll P fr L rs).2)
def resV : List AV → AV
  | [x] => x
  | xs => .tup xs

def inits (xs : List AV) (n : Nat) : List AV := xs ++ List.replicate (n - xs.length) .any

/-- the function is at its end: what it hands back, and the heap, are (weakened) these -/
def FinS (P : Program) (rs : List ResultVar) (n0 : Nat) (res : AV) (L' : Heap) (fr : List AV) (L : Heap) : Prop :=
  (resAll P fr L rs).1 ∧ IntoF n0 [resV (resAll P fr L rs).2] L ([res], L')

/-- the body, begun with these arguments and this heap, ends with this result and this heap -/
def BodyOk (P : Program) (Γ : Env) (fn : Func) (xs : List AV) (L : Heap) (res : AV) (L' : Heap) : Prop :=
  ∀ X : Cx, X.P = P → X.Γ = Γ → X.B.L = L → X.fin = FinS P fn.results.toList L.length res L' → ∃ c, fn.body = some c ∧ Holds X [.code c] (inits xs fn.ntmps) L

section
variable {P : Program} {Γ : Env}

theorem resAll_sound {m : Mem} {L : Heap} {w : World} (hW : WRel m L w) {fr : List AV} {tmps : Array Value} (h : CRel m L fr tmps.toList) : ∀ (rs : List ResultVar), (resAll P fr L rs).1 →
    ∃ vs : List Value, (rs.mapM (m := Sem) fun | .tmp t => pure (tmps.getD t undef) | .cell a t => do loadVar t (← asAddr (tmps.getD a undef))).run P w = .ok vs w ∧ CRel m L (resAll P fr L rs).2 vs
  | [], _ => ⟨[], by simp, by simp [resAll, CRel]⟩
  | r :: rs, hp => by
    obtain ⟨h1, h2⟩ := hp
    obtain ⟨vs, hr, hc⟩ := resAll_sound hW h rs h2
    have hD : ∀ t, VRel m L (fr.getD t .any) (tmps.getD t undef) := fun t => by
      have := h.getD t
      simpa [Array.getD_eq_getD_getElem?, List.getD_eq_getElem?_getD] using this
    cases r with
    | tmp t =>
      refine ⟨tmps.getD t undef :: vs, ?_, ?_⟩
      · simp only [List.mapM_cons, Sem.run_bind, Sem.run_pure, Result.andThen_ok, hr]
      · simp only [resAll, resR]; exact CRel.cons (bare_rel (hD t) h1) hc
    | cell a t =>
      obtain ⟨hcd, hl⟩ := h1
      have hb := bare_rel (hD a) hcd
      have hstep : ∃ v, (do loadVar t (← asAddr (tmps.getD a undef)) : Sem Value).run P w = .ok v w ∧ VRel m L (loadR P true L t (fr.getD a .any).bare).v v := by
        generalize hx : (fr.getD a .any).bare = X at *
        cases X <;> try exact hl.elim
        case ref id ver off =>
          obtain ⟨hf, hle, ho⟩ := hl rfl
          obtain ⟨cs, sz, hL, e1, e2⟩ := fresh_row hf
          have hu := ref_ptr hb hf
          obtain ⟨us, hc', hcell, _⟩ := row_cells hW hL
          rw [e1] at ho hle
          obtain ⟨q, hq, hv⟩ := loadVar_sound (P := P) (w := w) (t := t) (g := m.blk id) (o := off) (hc'.drop off) (fun j v hj => by rw [List.getElem?_drop] at hj; exact hcell _ _ hj) (by simpa using ho)
          refine ⟨q, by simp [hu, asAddr, hq], ?_⟩
          simp only [loadR, e1]; exact hv
        case ip cs =>
          simp only [VRel] at hb
          obtain ⟨us, g, o, hu, hc', hpin⟩ := hb
          obtain ⟨q, hq, hv⟩ := loadVar_sound (P := P) (w := w) (t := t) (g := g) (o := o) hc' (fun j v hj => hW.pins _ _ _ (hpin j v hj)) (hl rfl)
          exact ⟨q, by simp [hu, asAddr, hq], hv⟩
      obtain ⟨v, hv1, hv2⟩ := hstep
      refine ⟨v :: vs, ?_, ?_⟩
      · rw [List.mapM_cons, Sem.run_bind]
        erw [hv1]
        simp only [Result.andThen_ok, Sem.run_bind]
        erw [hr]
        rfl
      · simp only [resAll, resR, Rz.also]; exact CRel.cons hv2 hc

theorem results_sound {m : Mem} {L : Heap} {w : World} (hW : WRel m L w) {fr : List AV} {tmps : Array Value} (h : CRel m L fr tmps.toList) (fn : Func) (hp : (resAll P fr L fn.results.toList).1) :
    ∃ v, (results fn tmps).run P w = .ok v w ∧ VRel m L (resV (resAll P fr L fn.results.toList).2) v := by
  obtain ⟨vs, hr, hc⟩ := resAll_sound (P := P) hW h fn.results.toList hp
  have hm : (fn.results.mapM (m := Sem) fun | .tmp t => pure (tmps.getD t undef) | .cell a t => do loadVar t (← asAddr (tmps.getD a undef))).run P w = .ok vs.toArray w := by
    rw [Array.mapM_eq_mapM_toList, Sem.run_map]
    erw [hr]
    rfl
  have hl := hc.length
  unfold results
  simp only [Sem.run_bind]
  erw [hm]
  simp only [Result.andThen_ok, Sem.run_pure]
  refine ⟨_, rfl, ?_⟩
  match hx : (resAll P fr L fn.results.toList).2, vs, hc, hl with
  | [x], [v], hc, _ =>
    simp only [CRel] at hc
    obtain ⟨u, us', he, h1, _⟩ := hc
    cases he
    simpa [resV] using h1
  | [], [], hc, _ => simp only [resV, VRel]; exact ⟨[], by simp, hc⟩
  | x :: y :: r, v :: v' :: r', hc, _ => simp only [resV, VRel]; exact ⟨v :: v' :: r', by simp, hc⟩
  | [x], [], _, hl => simp at hl
  | [x], _ :: _ :: _, _, hl => simp at hl
  | [], _ :: _, _, hl => simp at hl
  | _ :: _ :: _, [], _, hl => simp at hl
  | _ :: _ :: _, [_], _, hl => simp at hl

/-- what a call leaves, from an abstract heap L to L' -/
def Post (m : Mem) (L : Heap) (w : World) (res : AV) (L' : Heap) (e : Ending) (w' : World) : Prop :=
  ∃ v m', e = .returned v ∧ VRel m' L' res v ∧ WRel m' L' w' ∧ Ext m L w m' L' w'

theorem calls_of_body (hΓ : EnvOk P Γ) {f : FuncId} {fn : Func} (hf : P.funcs[f]? = some fn) {xs : List AV} {L : Heap} {res : AV} {L' : Heap} (hb : BodyOk P Γ fn xs L res L')
    {m : Mem} {w : World} {vs : List Value} (hW : WRel m L w) (hx : CRel m L xs vs) : Calls P f vs.toArray w (Post m L w res L') := by
  obtain ⟨c, hc, hH⟩ := hb
    { P, Γ, ok := hΓ, B := ⟨m, L, w⟩, Q := bodyPost P fn (Post m L w res L'), fin := FinS P fn.results.toList L.length res L'
      hfin := by
        intro fr L₁ m₁ a₁ w₁ hfin hR
        obtain ⟨h1, hi⟩ := hfin
        obtain ⟨v, hv, hvr⟩ := results_sound (P := P) hR.wrel hR.frel fn h1
        have hpost : Post m L w res L' (.returned v) w₁ := by
          obtain ⟨m', k1, k2, k3⟩ := hi.sound hR.wrel (CRel.cons hvr (CRel.nil _ _)) hR.ext
          simp only [CRel] at k2
          obtain ⟨u, us', he, h2, _⟩ := k2
          cases he
          exact ⟨v, m', rfl, h2, k1, k3⟩
        exact ⟨⟨hR.defers, v, hv, hpost⟩, ⟨hR.defers, v, hv, hpost⟩⟩ }
    rfl rfl rfl rfl
  refine calls_of_wp hf hc ?_
  have hR : RS ⟨m, L, w⟩ (inits xs fn.ntmps) L m { tmps := vs.toArray ++ Array.replicate (fn.ntmps - vs.toArray.size) undef, defers := [] } w := by
    refine ⟨hW, ?_, Ext.refl, rfl⟩
    have hl := hx.length
    have e : (vs.toArray ++ Array.replicate (fn.ntmps - vs.toArray.size) undef).toList = vs ++ List.replicate (fn.ntmps - xs.length) undef := by simp [hl]
    simp only [inits, e]
    refine hx.append (CRel.mk (by simp) fun i c u hc _ => ?_)
    have : c = .any := by
      have := List.mem_of_getElem? hc
      exact (List.mem_replicate.1 this).2
    subst this
    simp [VRel]
  have := hH m _ w hR
  simp only [W] at this
  exact Go.wp_mono this fun e a w q => by simpa [W] using q

/-! ### from the empty heap to every heap -/

/-- no value of these rests on pinned memory -/
def pinfree : AV → Bool
  | .int .. => true
  | .bool _ => true
  | .str _ => true
  | .lit _ => true
  | .any => true
  | .msl .. => true
  | .ref .. => true
  | _ => false
def pinfreeL : List AV → Bool
  | [] => true
  | x :: xs => pinfree x && pinfreeL xs
def pinfreeT : AV → Bool
  | .tup xs => pinfreeL xs
  | .agg xs => pinfreeL xs
  | x => pinfree x
def pinfreeO : AObj → Bool
  | .row cs _ _ => pinfreeL cs
  | _ => true

/-- a slice of the caller's own, read as a list -/
def derefA (L : Heap) : AV → AV
  | .msl id _ off n => .sl (((rowOf L id).drop (off * szOf L id)).take (n * szOf L id)) n
  | x => x
def lent (L : Heap) : AV → Prop
  | .msl id ver _ _ => fresh L id ver
  | _ => True
def isMsl : AV → Bool
  | .msl .. => true
  | _ => false

def lift0 (lpre : List AV → Prop) (lres : List AV → AV) (lnew : List AV → Heap) (q : Bool) : FSpec where
  pre xs L := (∀ x ∈ xs, lent L x) ∧ scpL 0 (xs.map (derefA L)) = true ∧ lpre (xs.map (derefA L)) ∧
    (xs.any isMsl = true → pinfreeT (lres (xs.map (derefA L))) = true ∧ (lnew (xs.map (derefA L))).all pinfreeO = true)
  res xs L := ren (· + L.length) (lres (xs.map (derefA L)))
  post xs L := L ++ (lnew (xs.map (derefA L))).map (renO (· + L.length))
  quiet := q

theorem pinfree_rel {m m' : Mem} {L : Heap} (h1 : m'.blk = m.blk) (h2 : m'.cap = m.cap) {x : AV} {u : Value} (hp : pinfree x = true) (h : VRel m L x u) : VRel m' L x u := by
  cases x <;> simp only [pinfree, Bool.false_eq_true] at hp <;> simp only [VRel, h1, h2] at * <;> exact h
theorem pinfreeL_rel {m m' : Mem} {L : Heap} (h1 : m'.blk = m.blk) (h2 : m'.cap = m.cap) : ∀ {xs : List AV} {us : List Value}, pinfreeL xs = true → CRel m L xs us → CRel m' L xs us
  | [], us, _, h => h
  | x :: xs, us, hp, h => by
    simp only [pinfreeL, Bool.and_eq_true] at hp
    simp only [CRel] at *
    obtain ⟨u, us', rfl, h3, h4⟩ := h
    exact ⟨u, us', rfl, pinfree_rel h1 h2 hp.1 h3, pinfreeL_rel h1 h2 hp.2 h4⟩
theorem pinfreeT_rel {m m' : Mem} {L : Heap} (h1 : m'.blk = m.blk) (h2 : m'.cap = m.cap) {x : AV} {u : Value} (hp : pinfreeT x = true) (h : VRel m L x u) : VRel m' L x u := by
  cases x with
  | tup xs => simp only [VRel] at *; obtain ⟨us, rfl, hc⟩ := h; exact ⟨us, rfl, pinfreeL_rel h1 h2 hp hc⟩
  | agg xs => simp only [VRel] at *; obtain ⟨us, rfl, hc⟩ := h; exact ⟨us, rfl, pinfreeL_rel h1 h2 hp hc⟩
  | _ => exact pinfree_rel h1 h2 hp h

/-- m', L' is laid into m2, L2 by ρ -/
structure Laid (m' : Mem) (L' : Heap) (ρ : Nat → Nat) (m2 : Mem) (L2 : Heap) : Prop where
  pin : ∀ g o v, m'.pin g o = some v → m2.pin g o = some v
  obj : ∀ id o, L'[id]? = some o → L2[ρ id]? = some (renO ρ o) ∧ m2.blk (ρ id) = m'.blk id ∧ m2.cap (ρ id) = m'.cap id

mutual
theorem VRel.laid {m : Mem} {L : Heap} {ρ : Nat → Nat} {m' : Mem} {L' : Heap} (H : Laid m L ρ m' L') : ∀ (x : AV) (u : Value), VRel m L x u → VRel m' L' (ren ρ x) u
  | .any, _, _ => by simp [VRel, ren]
  | .int .., _, h => by simpa [VRel, ren] using h
  | .bool _, _, h => by simpa [VRel, ren] using h
  | .str _, _, h => by simpa [VRel, ren] using h
  | .lit _, _, h => by simpa [VRel, ren] using h
  | .agg cs, u, h => by
    simp only [VRel, ren] at *
    obtain ⟨us, rfl, hc⟩ := h
    exact ⟨us, rfl, CRel.laid H cs us hc⟩
  | .tup cs, u, h => by
    simp only [VRel, ren] at *
    obtain ⟨us, rfl, hc⟩ := h
    exact ⟨us, rfl, CRel.laid H cs us hc⟩
  | .sl cs len, u, h => by
    simp only [VRel, ren] at *
    obtain ⟨a, cap, rfl, hl, us, hc, hp⟩ := h
    refine ⟨a, cap, rfl, hl, us, CRel.laid H cs us hc, ?_⟩
    rcases hp with hp | ⟨g, o, ha, hp⟩
    · exact .inl hp
    · exact .inr ⟨g, o, ha, fun i v hv => H.pin _ _ _ (hp i v hv)⟩
  | .msl id ver off len, u, h => by
    simp only [VRel, ren] at *
    obtain ⟨cs, sz, v, hL, hv, hsh, h⟩ := h
    obtain ⟨h1, h2, h3⟩ := H.obj id _ hL
    refine ⟨renL ρ cs, sz, v, h1, hv, hsh, fun e => ?_⟩
    rw [h2, h3, renL_eq, List.length_map]
    exact h e
  | .ref id ver off, u, h => by
    simp only [VRel, ren] at *
    rcases h with ⟨cs, sz, v, hL, hv, hsh, h⟩ | ⟨s, p, hL, h⟩
    · obtain ⟨h1, h2, h3⟩ := H.obj id _ hL
      exact .inl ⟨renL ρ cs, sz, v, h1, hv, hsh, fun e => by rw [h2]; exact h e⟩
    · obtain ⟨h1, h2, h3⟩ := H.obj id _ hL
      exact .inr ⟨s, p, h1, by rw [h2]; exact h⟩
  | .ip cs, u, h => by
    simp only [VRel, ren] at *
    obtain ⟨us, g, o, rfl, hc, hp⟩ := h
    exact ⟨us, g, o, rfl, CRel.laid H cs us hc, fun i v hv => H.pin _ _ _ (hp i v hv)⟩
  | .fn f first captured, u, h => by
    simp only [VRel, ren] at *
    obtain ⟨us, vs, rfl, h1, h2⟩ := h
    exact ⟨us, vs, rfl, CRel.laid H first us h1, CRel.laid H captured vs h2⟩
  | .ifc t x, u, h => by
    simp only [VRel, ren] at *
    obtain ⟨v, rfl, h⟩ := h
    exact ⟨v, rfl, VRel.laid H x v h⟩
  | .when c x, u, h => by
    simp only [VRel, ren] at *
    exact ⟨fun hc => VRel.laid H x u (h.1 hc), h.2⟩
  | .alt c x y, u, h => by
    simp only [VRel, ren] at *
    exact ⟨fun hc => VRel.laid H x u (h.1 hc), fun hc => VRel.laid H y u (h.2 hc)⟩
theorem CRel.laid {m : Mem} {L : Heap} {ρ : Nat → Nat} {m' : Mem} {L' : Heap} (H : Laid m L ρ m' L') : ∀ (cs : List AV) (us : List Value), CRel m L cs us → CRel m' L' (renL ρ cs) us
  | [], _, h => by simpa [CRel, renL] using h
  | c :: cs, us, h => by
    simp only [CRel, renL] at *
    obtain ⟨u, us', rfl, h1, h2⟩ := h
    exact ⟨u, us', rfl, VRel.laid H c u h1, CRel.laid H cs us' h2⟩
end

theorem own_nil {m : Mem} {id : Nat} : ¬ Own m [] id := by
  rintro (⟨_, _, _, h, _⟩ | ⟨_, _, h⟩) <;> simp at h

set_option maxHeartbeats 1000000 in
/-- behind a call that began at the empty heap: the caller's heap with the new objects behind it -/
theorem post_lift {m mb : Mem} {L : Heap} {w : World} (hW : WRel m L w) (borrowed : Bool) (hb : borrowed = false → mb = m) {res : AV} {N : Heap} {e : Ending} {w' : World} (h : Post mb [] w res N e w')
    (hfree : borrowed = true → pinfreeT res = true ∧ N.all pinfreeO = true) : Post m L w (ren (· + L.length) res) (L ++ N.map (renO (· + L.length))) e w' := by
  obtain ⟨v, m', rfl, hv, hW', hE⟩ := h
  have hold : ∀ g, g < w.heap.size → w'.heap[g]? = w.heap[g]? := fun g hg => hE.frame g hg fun id ho => absurd ho own_nil
  obtain ⟨m2, hm2⟩ : ∃ m2 : Mem, m2 = { pin := fun g o => if g < w.heap.size then m.pin g o else m'.pin g o, blk := fun i => if i < L.length then m.blk i else m'.blk (i - L.length), cap := fun i => if i < L.length then m.cap i else m'.cap (i - L.length) } := ⟨_, rfl⟩
  have hpin2 : ∀ g o, m2.pin g o = if g < w.heap.size then m.pin g o else m'.pin g o := fun g o => by rw [hm2]
  have hblk1 : ∀ i, i < L.length → m2.blk i = m.blk i := fun i hi => by rw [hm2]; simp [hi]
  have hcap1 : ∀ i, i < L.length → m2.cap i = m.cap i := fun i hi => by rw [hm2]; simp [hi]
  have hblk2 : ∀ i, m2.blk (i + L.length) = m'.blk i := fun i => by rw [hm2]; simp [show ¬ i + L.length < L.length by omega]
  have hcap2 : ∀ i, m2.cap (i + L.length) = m'.cap i := fun i => by rw [hm2]; simp [show ¬ i + L.length < L.length by omega]
  -- the new objects, over m' with the caller's pins
  obtain ⟨m3, hm3⟩ : ∃ m3 : Mem, m3 = { m' with pin := m2.pin } := ⟨_, rfl⟩
  have heq : borrowed = false → m3 = m' := by
    intro hbf
    have hmb := hb hbf
    rw [hm3]
    have : m2.pin = m'.pin := by
      funext g o
      rw [hpin2]
      split
      · rename_i hg; have := hE.newpin g o hg; rw [this, hmb]
      · rfl
    rw [this]
  have hb3 : m3.blk = m'.blk := by rw [hm3]
  have hc3 : m3.cap = m'.cap := by rw [hm3]
  have hp3 : m3.pin = m2.pin := by rw [hm3]
  have hv3 : VRel m3 N res v := by
    cases hbr : borrowed with
    | false => rw [heq hbr]; exact hv
    | true => exact pinfreeT_rel hb3 hc3 (hfree hbr).1 hv
  have hrow3 : ∀ (id : Nat) (cs : List AV) (sz ver : Nat) (us : List Value), N[id]? = some (AObj.row cs sz ver) → CRel m' N cs us → CRel m3 N cs us := by
    intro id cs sz ver us hN hcr
    cases hbr : borrowed with
    | false => rw [heq hbr]; exact hcr
    | true =>
      have := (hfree hbr).2
      rw [List.all_eq_true] at this
      exact pinfreeL_rel hb3 hc3 (this _ (List.mem_of_getElem? hN)) hcr
  have HL : Laid m3 N (· + L.length) m2 (L ++ N.map (renO (· + L.length))) := by
    refine ⟨fun g o v h => by rw [← hp3]; exact h, fun id o ho => ⟨?_, ?_, ?_⟩⟩
    · rw [List.getElem?_append_right (by omega)]; simp [ho]
    · rw [hblk2, hb3]
    · rw [hcap2, hc3]
  have HM : Mono m L m2 (L ++ N.map (renO (· + L.length))) := by
    refine ⟨fun g o v h => by rw [hpin2, if_pos (hW.pin_lt h)]; exact h, fun id cs sz ver hL => ?_, fun id s p hL => ?_⟩
    · have hlt := (List.getElem?_eq_some_iff.1 hL).1
      exact ⟨cs, ver, by rw [List.getElem?_append_left hlt]; exact hL, Nat.le_refl _, fun _ => ⟨rfl, hblk1 id hlt, hcap1 id hlt⟩⟩
    · have hlt := (List.getElem?_eq_some_iff.1 hL).1
      exact ⟨s, p, by rw [List.getElem?_append_left hlt]; exact hL, hblk1 id hlt⟩
  -- an object of the new heap is an old one, or a new one
  have hcase : ∀ {id : Nat} {o : AObj}, (L ++ N.map (renO (· + L.length)))[id]? = some o → (id < L.length ∧ L[id]? = some o) ∨ (∃ j o', id = j + L.length ∧ N[j]? = some o' ∧ o = renO (· + L.length) o') := by
    intro id o ho
    by_cases hlt : id < L.length
    · rw [List.getElem?_append_left hlt] at ho; exact .inl ⟨hlt, ho⟩
    · rw [List.getElem?_append_right (by omega)] at ho
      simp only [List.getElem?_map, Option.map_eq_some_iff] at ho
      obtain ⟨o', h1, h2⟩ := ho
      exact .inr ⟨id - L.length, o', by omega, h1, h2.symm⟩
  have hown : ∀ {id : Nat}, Own m2 (L ++ N.map (renO (· + L.length))) id → (Own m L id ∧ m2.blk id = m.blk id ∧ m.blk id < w.heap.size) ∨ (∃ j, id = j + L.length ∧ Own m' N j ∧ m2.blk id = m'.blk j ∧ w.heap.size ≤ m'.blk j) := by
    intro id ho
    have hnew : ∀ j, Own m' N j → w.heap.size ≤ m'.blk j := fun j hj => by
      rcases hE.blks j hj with ⟨h1, _⟩ | h1
      · exact absurd h1 own_nil
      · exact h1
    rcases ho with ⟨cs, sz, ver, hL, hc⟩ | ⟨s, p, hL⟩
    · rcases hcase hL with ⟨hlt, h1⟩ | ⟨j, o', rfl, h1, h2⟩
      · have ho : Own m L id := .inl ⟨_, _, _, h1, by rw [← hcap1 id hlt]; exact hc⟩
        exact .inl ⟨ho, hblk1 id hlt, hW.blk_lt ho⟩
      · cases o' <;> simp only [renO, reduceCtorEq, AObj.row.injEq] at h2
        have ho : Own m' N j := .inl ⟨_, _, _, h1, by rw [← hcap2 j]; exact hc⟩
        exact .inr ⟨j, rfl, ho, hblk2 j, hnew j ho⟩
    · rcases hcase hL with ⟨hlt, h1⟩ | ⟨j, o', rfl, h1, h2⟩
      · have ho : Own m L id := .inr ⟨_, _, h1⟩
        exact .inl ⟨ho, hblk1 id hlt, hW.blk_lt ho⟩
      · cases o' <;> simp only [renO, reduceCtorEq, AObj.iter.injEq] at h2
        have ho : Own m' N j := .inr ⟨_, _, h1⟩
        exact .inr ⟨j, rfl, ho, hblk2 j, hnew j ho⟩
  refine ⟨v, m2, rfl, VRel.laid HL _ _ hv3, ⟨fun g o v' hp => ?_, fun id cs sz ver hL hc => ?_, fun id cs sz ver hL hc => ?_, fun id s p hL => ?_, fun i j hi hj he => ?_, fun id ho o => ?_⟩,
    ⟨fun g hg _ => hold g hg, hE.size, fun g o hg => by rw [hpin2, if_pos hg], fun id ho => ?_, by simp, HM, hE.same⟩⟩
  · rw [hpin2] at hp
    split at hp
    · rename_i hg
      rw [cell?_old (hold g hg)]; exact hW.pins g o v' hp
    · exact hW'.pins g o v' hp
  · rcases hcase hL with ⟨hlt, h1⟩ | ⟨j, o', rfl, h1, h2⟩
    · rw [hcap1 id hlt] at hc ⊢
      obtain ⟨us, rest, elem, lo, hi, k1, k2, k3, k4⟩ := hW.rows _ _ _ _ h1 hc
      have hb' := hW.blk_lt (.inl ⟨_, _, _, h1, hc⟩)
      exact ⟨us, rest, elem, lo, hi, by rw [hblk1 id hlt, hold _ hb']; exact k1, CRel.mono HM _ _ k2, k3, k4⟩
    · cases o' <;> simp only [renO, reduceCtorEq, AObj.row.injEq] at h2
      obtain ⟨rfl, rfl, rfl⟩ := h2
      rw [hcap2] at hc ⊢
      obtain ⟨us, rest, elem, lo, hi, k1, k2, k3, k4⟩ := hW'.rows _ _ _ _ h1 hc
      exact ⟨us, rest, elem, lo, hi, by rw [hblk2]; exact k1, CRel.laid HL _ _ (hrow3 _ _ _ _ _ h1 k2), k3, k4⟩
  · rcases hcase hL with ⟨hlt, h1⟩ | ⟨j, o', rfl, h1, h2⟩
    · rw [hcap1 id hlt] at hc; exact hW.nils _ _ _ _ h1 hc
    · cases o' <;> simp only [renO, reduceCtorEq, AObj.row.injEq] at h2
      obtain ⟨rfl, rfl, rfl⟩ := h2
      rw [hcap2] at hc
      have := hW'.nils _ _ _ _ h1 hc
      rw [this]; rfl
  · rcases hcase hL with ⟨hlt, h1⟩ | ⟨j, o', rfl, h1, h2⟩
    · have hb' := hW.blk_lt (.inr ⟨_, _, h1⟩)
      rw [hblk1 id hlt, hold _ hb']; exact hW.iters _ _ _ h1
    · cases o' <;> simp only [renO, reduceCtorEq, AObj.iter.injEq] at h2
      obtain ⟨rfl, rfl⟩ := h2
      rw [hblk2]; exact hW'.iters _ _ _ h1
  · rcases hown hi with ⟨h1, h2, h3⟩ | ⟨i', rfl, h1, h2, h3⟩ <;> rcases hown hj with ⟨k1, k2, k3⟩ | ⟨j', rfl, k1, k2, k3⟩
    · exact hW.inj i j h1 k1 (by omega)
    · omega
    · omega
    · have := hW'.inj i' j' h1 k1 (by omega); omega
  · rw [hpin2]
    rcases hown ho with ⟨h1, h2, h3⟩ | ⟨i', rfl, h1, h2, h3⟩
    · rw [h2, if_pos h3]; exact hW.free id h1 o
    · rw [h2, if_neg (by omega)]; exact hW'.free i' h1 o
  · rcases hown ho with ⟨h1, h2, h3⟩ | ⟨i', rfl, h1, h2, h3⟩
    · exact .inl ⟨h1, h2⟩
    · exact .inr (by omega)

theorem deref_rel {m mb : Mem} {L : Heap} {w : World} (hW : WRel m L w) (hpin : ∀ g o v, m.pin g o = some v → mb.pin g o = some v) {x : AV} {u : Value} (h : VRel m L x u) (hl : lent L x) (hs : scp 0 (derefA L x) = true)
    (hcell : isMsl x = true → ∀ g o v, w.cell? ⟨g, o, none⟩ = some v → mb.pin g o = some v) : VRel mb [] (derefA L x) u := by
  have mono0 : Mono m [] mb [] := ⟨hpin, fun _ _ _ _ h => by simp at h, fun _ _ _ h => by simp at h⟩
  by_cases hm : isMsl x = true
  · cases x <;> simp only [isMsl, Bool.false_eq_true] at hm
    rename_i id ver off n
    simp only [derefA, lent, scp] at *
    obtain ⟨k1, k2, a, rfl, ha⟩ := msl_slice h hl
    obtain ⟨cs, sz, hL, hr, hsz⟩ := fresh_row hl
    simp only [hr, hsz] at hs ha k1 ⊢
    obtain ⟨us, hc, hcl, _⟩ := row_cells hW hL
    have hcr := (hc.drop (off * sz)).take (n * sz)
    simp only [VRel]
    refine ⟨a, _, rfl, by omega, (us.drop (off * sz)).take (n * sz), CRel.mono mono0 _ _ (closedL_rel hcr hs), ?_⟩
    rcases ha with ha | ha
    · left
      have : n = 0 := by omega
      simp [this]
    · right
      refine ⟨m.blk id, off * sz, ha, fun i v hi => hcell rfl _ _ _ ?_⟩
      rw [List.getElem?_take, List.getElem?_drop] at hi
      split at hi
      · exact hcl _ _ hi
      · cases hi
  · have : derefA L x = x := by cases x <;> simp_all [derefA, isMsl]
    rw [this] at hs ⊢
    exact VRel.mono mono0 x u (closed_rel h hs)

theorem derefL_rel {m mb : Mem} {L : Heap} {w : World} (hW : WRel m L w) (hpin : ∀ g o v, m.pin g o = some v → mb.pin g o = some v) : ∀ {xs : List AV} {us : List Value}, CRel m L xs us → (∀ x ∈ xs, lent L x) → scpL 0 (xs.map (derefA L)) = true →
    (xs.any isMsl = true → ∀ g o v, w.cell? ⟨g, o, none⟩ = some v → mb.pin g o = some v) → CRel mb [] (xs.map (derefA L)) us
  | [], us, h, _, _, _ => by simpa [CRel] using h
  | x :: xs, us, h, hl, hs, hc => by
    simp only [CRel, List.map_cons, scpL, Bool.and_eq_true, List.any_cons, Bool.or_eq_true] at *
    obtain ⟨u, us', rfl, h1, h2⟩ := h
    exact ⟨u, us', rfl, deref_rel hW hpin h1 (hl x (by simp)) hs.1 (fun h => hc (.inl h)), derefL_rel hW hpin h2 (fun y hy => hl y (by simp [hy])) hs.2 (fun h => hc (.inr h))⟩

/-- A CONTRACT AT THE EMPTY HEAP SERVES EVERY HEAP. -/
theorem Con.lift {f : FuncId} (hfn : ∃ fn, P.funcs[f]? = some fn ∧ fn.body.isNone = false ∧ (fn.name == "runtime.NumGoroutine") = false) {lpre : List AV → Prop} {lres : List AV → AV} {lnew : List AV → Heap} {q : Bool} (hq : q = true → ∀ xs, lnew xs = [])
    (h : ∀ (m : Mem) (w : World) (xs : List AV) (vs : List Value), WRel m [] w → CRel m [] xs vs → lpre xs → Calls P f vs.toArray w (Post m [] w (lres xs) (lnew xs))) : Con P f (lift0 lpre lres lnew q) where
  fn := hfn
  quiet hq' xs L := by simp only [lift0] at hq' ⊢; rw [hq hq']; simp
  calls m L w xs vs hW hx hp := by
    obtain ⟨h1, h2, h3, h4⟩ := hp
    obtain ⟨mb, hmb⟩ : ∃ mb : Mem, mb = if xs.any isMsl = true then { m with pin := fun g o => w.cell? ⟨g, o, none⟩ } else m := ⟨_, rfl⟩
    have hpin : ∀ g o v, m.pin g o = some v → mb.pin g o = some v := by
      intro g o v hv
      rw [hmb]
      split
      · exact hW.pins g o v hv
      · exact hv
    have hWb : WRel mb [] w := by
      refine ⟨fun g o v hv => ?_, fun _ _ _ _ h => by simp at h, fun _ _ _ _ h => by simp at h, fun _ _ _ h => by simp at h, fun i j hi => absurd hi own_nil, fun id hi => absurd hi own_nil⟩
      rw [hmb] at hv
      split at hv
      · exact hv
      · exact hW.pins g o v hv
    have hxb := derefL_rel hW hpin hx h1 h2 fun hany g o v hv => by rw [hmb, if_pos hany]; exact hv
    exact (h mb w _ vs hWb hxb h3).mono fun e w' hpost => post_lift hW (xs.any isMsl) (fun hf => by rw [hmb, hf]; rfl) hpost h4

/-- THE SAME, off the body. -/
theorem Con.of_body (hΓ : EnvOk P Γ) {f : FuncId} {fn : Func} (hf : P.funcs[f]? = some fn) (hb : fn.body.isNone = false) (hn : (fn.name == "runtime.NumGoroutine") = false) {lpre : List AV → Prop} {lres : List AV → AV} {lnew : List AV → Heap} {q : Bool}
    (hq : q = true → ∀ xs, lnew xs = []) (h : ∀ xs, lpre xs → BodyOk P Γ fn xs [] (lres xs) (lnew xs)) : Con P f (lift0 lpre lres lnew q) :=
  Con.lift ⟨fn, hf, hb, hn⟩ hq fun m w xs vs hW hx hp => calls_of_body hΓ hf (h xs hp) hW hx

/-- A LAW: begun at whatever world, with arguments that read so, it returns this, and nothing that was there is turned. -/
theorem law_of_body (hΓ : EnvOk P Γ) {f : FuncId} {fn : Func} (hf : P.funcs[f]? = some fn) {xs : List AV} {vs : List Value} {m : Mem} {w : World} (hpin : ∀ g o v, m.pin g o = some v → w.cell? ⟨g, o, none⟩ = some v) (hx : CRel m [] xs vs)
    {L' : Heap} (hb : BodyOk P Γ fn xs [] (.bool true) L') : Calls P f vs.toArray w fun e w' => e = .returned (.bool true) ∧ Below w.heap.size w w' := by
  have hW : WRel m [] w := ⟨hpin, fun _ _ _ _ h => by simp at h, fun _ _ _ _ h => by simp at h, fun _ _ _ h => by simp at h, fun i j hi => absurd hi own_nil, fun id hi => absurd hi own_nil⟩
  refine (calls_of_body hΓ hf hb hW hx).mono ?_
  rintro e w' ⟨v, m', rfl, hv, hW', hE⟩
  simp only [VRel] at hv
  subst hv
  exact ⟨rfl, hE.same.1, hE.same.2.1, hE.same.2.2, hE.size, fun k hk => hE.frame k hk fun id ho => absurd ho own_nil⟩

end
end Go.Eng
