/- The engine, part 11: a function's body gives its contract; a contract at an empty heap serves every heap; a law. -/
import Derived.Test.YtbnnhffkbcekcaaGreatDoorEng10
import Derived.Below
namespace Go.Eng
open Go Go.RowKit
set_option linter.unusedVariables false
set_option linter.unusedSimpArgs false

def resR (P : Program) (fr : List AV) (L : Heap) : ResultVar → Rz
  | .tmp t => ⟨(fr.getD t .any).cond = true, (fr.getD t .any).bare, L⟩
  | .cell a t => (loadR P true L t (fr.getD a .any).bare).also ((fr.getD a .any).cond = true)
def resAll (P : Program) (fr : List AV) (L : Heap) : List ResultVar → Prop × List AV
  | [] => (True, [])
  | r :: rs => ((resR P fr L r).pre ∧ (resAll P fr L rs).1, (resR P fr L r).v :: (resAll P fr L rs).2)
def resV : List AV → AV
  | [x] => x
  | xs => .tup xs

def inits (xs : List AV) (n : Nat) : List AV := xs ++ List.replicate (n - xs.length) .any

/-- the function is at its end: what it hands back, and the heap, are (weakened) these -/
def FinS (P : Program) (rs : List ResultVar) (L0 : Heap) (res : AV) (L' : Heap) (fr : List AV) (L : Heap) : Prop :=
  (resAll P fr L rs).1 ∧ IntoF L0 [resV (resAll P fr L rs).2] L ([res], L')

/-- the body, begun with these arguments and this heap, ends with this result and this heap -/
def BodyOk (P : Program) (Γ : Env) (fn : Func) (xs : List AV) (L : Heap) (res : AV) (L' : Heap) : Prop :=
  ∀ X : Cx, X.P = P → X.Γ = Γ → X.B.L = L → X.fin = FinS P fn.results.toList L res L' → ∃ c, fn.body = some c ∧ Holds X [.code c] (inits xs fn.ntmps) L

section
variable {P : Program} {Γ : Env}

theorem resAll_sound {m : Mem} {L : Heap} {w : World} (hW : WRel m L w) {fr : List AV} {tmps : Array Value} (h : CRel m L fr tmps.toList) : ∀ (rs : List ResultVar), (resAll P fr L rs).1 →
    ∃ vs : List Value, (rs.mapM (m := Sem) fun | .tmp t => pure (tmps.getD t undef) | .cell a t => do loadVar t (← asAddr (tmps.getD a undef))).run P w = .ok vs w ∧ CRel m L (resAll P fr L rs).2 vs
  | [], _ => ⟨[], by simp, by simp [resAll, CRel]⟩
  | r :: rs, hp => by
    obtain ⟨h1, h2⟩ := hp
    obtain ⟨vs, hr, hc⟩ := resAll_sound hW h rs h2
    have hD : ∀ t, VRel m L (fr.getD t .any) (tmps.getD t undef) := fun t => by
      have := h.getD t
      simpa [Array.getD_eq_getD_getElem?, List.getD_eq_getElem?_getD] using this
    cases r with
    | tmp t =>
      refine ⟨tmps.getD t undef :: vs, ?_, ?_⟩
      · simp only [List.mapM_cons, Sem.run_bind, Sem.run_pure, Result.andThen_ok, hr]
      · simp only [resAll, resR]; exact CRel.cons (bare_rel (hD t) h1) hc
    | cell a t =>
      obtain ⟨hcd, hl⟩ := h1
      have hb := bare_rel (hD a) hcd
      have hstep : ∃ v, (do loadVar t (← asAddr (tmps.getD a undef)) : Sem Value).run P w = .ok v w ∧ VRel m L (loadR P true L t (fr.getD a .any).bare).v v := by
        generalize hx : (fr.getD a .any).bare = X at *
        cases X <;> try exact hl.elim
        case ref id ver off =>
          obtain ⟨hf, hle, ho⟩ := hl rfl
          obtain ⟨cs, sz, hL, e1, e2⟩ := fresh_row hf
          have hu := ref_ptr hb hf
          obtain ⟨us, hc', hcell, _⟩ := row_cells hW hL
          rw [e1] at ho hle
          obtain ⟨q, hq, hv⟩ := loadVar_sound (P := P) (w := w) (t := t) (g := m.blk id) (o := off) (hc'.drop off) (fun j v hj => by rw [List.getElem?_drop] at hj; exact hcell _ _ hj) (by simpa using ho)
          refine ⟨q, by simp [hu, asAddr, hq], ?_⟩
          simp only [loadR, e1]; exact hv
        case ip cs =>
          simp only [VRel] at hb
          obtain ⟨us, g, o, hu, hc', hpin⟩ := hb
          obtain ⟨q, hq, hv⟩ := loadVar_sound (P := P) (w := w) (t := t) (g := g) (o := o) hc' (fun j v hj => hW.pins _ _ _ (hpin j v hj)) (hl rfl)
          exact ⟨q, by simp [hu, asAddr, hq], hv⟩
      obtain ⟨v, hv1, hv2⟩ := hstep
      refine ⟨v :: vs, ?_, ?_⟩
      · rw [List.mapM_cons, Sem.run_bind]
        erw [hv1]
        simp only [Result.andThen_ok, Sem.run_bind]
        erw [hr]
        rfl
      · simp only [resAll, resR, Rz.also]; exact CRel.cons hv2 hc

theorem results_sound {m : Mem} {L : Heap} {w : World} (hW : WRel m L w) {fr : List AV} {tmps : Array Value} (h : CRel m L fr tmps.toList) (fn : Func) (hp : (resAll P fr L fn.results.toList).1) :
    ∃ v, (results fn tmps).run P w = .ok v w ∧ VRel m L (resV (resAll P fr L fn.results.toList).2) v := by
  obtain ⟨vs, hr, hc⟩ := resAll_sound (P := P) hW h fn.results.toList hp
  have hm : (fn.results.mapM (m := Sem) fun | .tmp t => pure (tmps.getD t undef) | .cell a t => do loadVar t (← asAddr (tmps.getD a undef))).run P w = .ok vs.toArray w := by
    rw [Array.mapM_eq_mapM_toList, Sem.run_map]
    erw [hr]
    rfl
  have hl := hc.length
  unfold results
  simp only [Sem.run_bind]
  erw [hm]
  simp only [Result.andThen_ok, Sem.run_pure]
  refine ⟨_, rfl, ?_⟩
  match hx : (resAll P fr L fn.results.toList).2, vs, hc, hl with
  | [x], [v], hc, _ =>
    simp only [CRel] at hc
    obtain ⟨u, us', he, h1, _⟩ := hc
    cases he
    simpa [resV] using h1
  | [], [], hc, _ => simp only [resV, VRel]; exact ⟨[], by simp, hc⟩
  | x :: y :: r, v :: v' :: r', hc, _ => simp only [resV, VRel]; exact ⟨v :: v' :: r', by simp, hc⟩
  | [x], [], _, hl => simp at hl
  | [x], _ :: _ :: _, _, hl => simp at hl
  | [], _ :: _, _, hl => simp at hl
  | _ :: _ :: _, [], _, hl => simp at hl
  | _ :: _ :: _, [_], _, hl => simp at hl

/-- what a call leaves, from an abstract heap L to L' -/
def Post (m : Mem) (L : Heap) (w : World) (res : AV) (L' : Heap) (e : Ending) (w' : World) : Prop :=
  ∃ v m', e = .returned v ∧ VRel m' L' res v ∧ WRel m' L' w' ∧ Ext m L w m' L' w'

theorem calls_of_body (hΓ : EnvOk P Γ) {f : FuncId} {fn : Func} (hf : P.funcs[f]? = some fn) {xs : List AV} {L : Heap} {res : AV} {L' : Heap} (hb : BodyOk P Γ fn xs L res L')
    {m : Mem} {w : World} {vs : List Value} (hW : WRel m L w) (hx : CRel m L xs vs) : Calls P f vs.toArray w (Post m L w res L') := by
  obtain ⟨c, hc, hH⟩ := hb
    { P, Γ, ok := hΓ, B := ⟨m, L, w⟩, Q := bodyPost P fn (Post m L w res L'), fin := FinS P fn.results.toList L res L'
      hfin := by
        intro fr L₁ m₁ a₁ w₁ hfin hR
        obtain ⟨h1, hi⟩ := hfin
        obtain ⟨v, hv, hvr⟩ := results_sound (P := P) hR.wrel hR.frel fn h1
        have hpost : Post m L w res L' (.returned v) w₁ := by
          obtain ⟨m', k1, k2, k3⟩ := hi.sound hR.wrel (CRel.cons hvr (CRel.nil _ _)) hR.ext
          simp only [CRel] at k2
          obtain ⟨u, us', he, h2, _⟩ := k2
          cases he
          exact ⟨v, m', rfl, h2, k1, k3⟩
        exact ⟨⟨hR.defers, v, hv, hpost⟩, ⟨hR.defers, v, hv, hpost⟩⟩
      ng := fun _ _ _ h => h }
    rfl rfl rfl rfl
  refine calls_of_wp hf hc ?_
  have hR : RS ⟨m, L, w⟩ (inits xs fn.ntmps) L m { tmps := vs.toArray ++ Array.replicate (fn.ntmps - vs.toArray.size) undef, defers := [] } w := by
    refine ⟨hW, ?_, Ext.refl, rfl⟩
    have hl := hx.length
    have e : (vs.toArray ++ Array.replicate (fn.ntmps - vs.toArray.size) undef).toList = vs ++ List.replicate (fn.ntmps - xs.length) undef := by simp [hl]
    simp only [inits, e]
    refine hx.append (CRel.mk (by simp) fun i c u hc _ => ?_)
    have : c = .any := by
      have := List.mem_of_getElem? hc
      exact (List.mem_replicate.1 this).2
    subst this
    simp [VRel]
  have := hH m _ w hR
  simp only [W] at this
  exact Go.wp_mono this fun e a w q => by simpa [W] using q

/-! ### from the empty heap to every heap -/

mutual
/-- no value of these rests on pinned memory -/
def pinfree : AV → Bool
  | .agg xs => pinfreeL xs
  | .tup xs => pinfreeL xs
  | .ifc _ x => pinfree x
  | .fn _ a b => pinfreeL a && pinfreeL b
  | .sl .. => false
  | .ip _ => false
  | .when .. => false
  | .alt .. => false
  | .mpr .. => false
  | _ => true
def pinfreeL : List AV → Bool
  | [] => true
  | x :: xs => pinfree x && pinfreeL xs
end
def pinfreeT (x : AV) : Bool := pinfree x
def pinfreeO : AObj → Bool
  | .row cs _ _ => pinfreeL cs
  | _ => true

/-- the cells of a slice of an own row -/
def cellsOfRow (L : Heap) (id off n : Nat) : List AV := ((rowOf L id).drop (off * szOf L id)).take (n * szOf L id)
/-- own rows, but those that are kept, are read as values: one layer -/
def derefC (L : Heap) (keep : Nat → Bool) (sub : AV → AV) : AV → AV
  | .msl id ver off n => cond (keep id) (.msl id ver off n) (.sl ((((rowOf L id).drop (off * szOf L id)).take (n * szOf L id)).map sub) n)
  | .csl id ver off n => cond (keep id) (.csl id ver off n) (.sl ((((rowOf L id).drop (off * szOf L id)).take (n * szOf L id)).map sub) n)
  | .ref id ver off => cond (keep id || !isRow L id) (.ref id ver off) (.ip (((rowOf L id).drop off).map sub))
  | .mp id => cond (keep id) (.mp id) (match L[id]? with | some (.raw (.map kd f)) => .mpr kd f | _ => .mp id)
  | .agg cs => .agg (cs.map sub)
  | .ifc t x => .ifc t (sub x)
  | .fn f a b => .fn f (a.map sub) (b.map sub)
  | x => x
/-- what is read so is there -/
def lentC (L : Heap) (keep : Nat → Bool) (sub : AV → Prop) : AV → Prop
  | .msl id ver off n => cond (keep id) True (fresh L id ver ∧ ∀ x ∈ ((rowOf L id).drop (off * szOf L id)).take (n * szOf L id), sub x)
  | .csl id ver off n => cond (keep id) True (fresh L id ver ∧ ∀ x ∈ ((rowOf L id).drop (off * szOf L id)).take (n * szOf L id), sub x)
  | .ref id ver off => cond (keep id || !isRow L id) True (fresh L id ver ∧ ∀ x ∈ (rowOf L id).drop off, sub x)
  | .agg cs => ∀ x ∈ cs, sub x
  | .ifc _ x => sub x
  | .fn _ a b => (∀ x ∈ a, sub x) ∧ ∀ x ∈ b, sub x
  | _ => True
/-- is anything read so? -/
def borC (L : Heap) (keep : Nat → Bool) (sub : AV → Bool) : AV → Bool
  | .msl id _ _ _ => !keep id
  | .csl id _ _ _ => !keep id
  | .ref id _ _ => !(keep id || !isRow L id)
  | .mp id => !keep id
  | .agg cs => cs.any sub
  | .ifc _ x => sub x
  | .fn _ a b => a.any sub || b.any sub
  | _ => false
def deref0 (x : AV) : AV := x
def lent0 (_ : AV) : Prop := True
def bor0 (_ : AV) : Bool := false
def d1 (L : Heap) (keep : Nat → Bool) : AV → AV := derefC L keep deref0
def d2 (L : Heap) (keep : Nat → Bool) : AV → AV := derefC L keep (d1 L keep)
def d3 (L : Heap) (keep : Nat → Bool) : AV → AV := derefC L keep (d2 L keep)
def l1 (L : Heap) (keep : Nat → Bool) : AV → Prop := lentC L keep lent0
def l2 (L : Heap) (keep : Nat → Bool) : AV → Prop := lentC L keep (l1 L keep)
def l3 (L : Heap) (keep : Nat → Bool) : AV → Prop := lentC L keep (l2 L keep)
def b1 (L : Heap) (keep : Nat → Bool) : AV → Bool := borC L keep bor0
def b2 (L : Heap) (keep : Nat → Bool) : AV → Bool := borC L keep (b1 L keep)
def b3 (L : Heap) (keep : Nat → Bool) : AV → Bool := borC L keep (b2 L keep)
/-- none is kept -/
def keep0 (_ : Nat) : Bool := false
def derefA (L : Heap) : AV → AV := derefC L keep0 (d3 L keep0)
def lent (L : Heap) : AV → Prop := lentC L keep0 (l3 L keep0)
def isMsl (L : Heap) : AV → Bool := borC L keep0 (b3 L keep0)

def lift0 (lpre : List AV → Prop) (lres : List AV → AV) (lnew : List AV → Heap) (q : Bool) : FSpec where
  pre xs L := (∀ x ∈ xs, lent L x) ∧ scpL 0 (xs.map (derefA L)) = true ∧ lpre (xs.map (derefA L)) ∧
    (xs.any (isMsl L) = true → pinfreeT (lres (xs.map (derefA L))) = true ∧ (lnew (xs.map (derefA L))).all pinfreeO = true)
  res xs L := ren (· + L.length) (lres (xs.map (derefA L)))
  post xs L := L ++ (lnew (xs.map (derefA L))).map (renO (· + L.length))
  quiet := q

mutual
theorem pinfree_rel {m m' : Mem} {L : Heap} (h1 : m'.blk = m.blk) (h2 : m'.cap = m.cap) : ∀ (x : AV) (u : Value), pinfree x = true → VRel m L x u → VRel m' L x u
  | .agg xs, u, hp, h => by
    simp only [VRel] at *; obtain ⟨us, rfl, hc⟩ := h; exact ⟨us, rfl, pinfreeL_rel h1 h2 xs us hp hc⟩
  | .tup xs, u, hp, h => by
    simp only [VRel] at *; obtain ⟨us, rfl, hc⟩ := h; exact ⟨us, rfl, pinfreeL_rel h1 h2 xs us hp hc⟩
  | .ifc t x, u, hp, h => by
    simp only [VRel] at *; obtain ⟨v, rfl, h⟩ := h; exact ⟨v, rfl, pinfree_rel h1 h2 x v hp h⟩
  | .fn f a b, u, hp, h => by
    simp only [VRel, pinfree, Bool.and_eq_true] at *
    obtain ⟨us, vs, rfl, k1, k2⟩ := h
    exact ⟨us, vs, rfl, pinfreeL_rel h1 h2 a us hp.1 k1, pinfreeL_rel h1 h2 b vs hp.2 k2⟩
  | .sl .., _, hp, _ => by simp [pinfree] at hp
  | .ip _, _, hp, _ => by simp [pinfree] at hp
  | .when .., _, hp, _ => by simp [pinfree] at hp
  | .alt .., _, hp, _ => by simp [pinfree] at hp
  | .mpr .., _, hp, _ => by simp [pinfree] at hp
  | .any, _, _, _ => by simp [VRel]
  | .int .., _, _, h => by simpa only [VRel] using h
  | .bool _, _, _, h => by simpa only [VRel] using h
  | .str _, _, _, h => by simpa only [VRel] using h
  | .lit _, _, _, h => by simpa only [VRel] using h
  | .ub .., _, _, h => by simpa only [VRel] using h
  | .msl .., _, _, h => by simpa only [VRel, h1, h2] using h
  | .csl .., _, _, h => by simpa only [VRel, h1, h2] using h
  | .ref .., _, _, h => by simpa only [VRel, h1, h2] using h
  | .mp _, _, _, h => by simpa only [VRel, h1, h2] using h
theorem pinfreeL_rel {m m' : Mem} {L : Heap} (h1 : m'.blk = m.blk) (h2 : m'.cap = m.cap) : ∀ (xs : List AV) (us : List Value), pinfreeL xs = true → CRel m L xs us → CRel m' L xs us
  | [], us, _, h => h
  | x :: xs, us, hp, h => by
    simp only [pinfreeL, Bool.and_eq_true] at hp
    simp only [CRel] at *
    obtain ⟨u, us', rfl, h3, h4⟩ := h
    exact ⟨u, us', rfl, pinfree_rel h1 h2 x u hp.1 h3, pinfreeL_rel h1 h2 xs us' hp.2 h4⟩
end
theorem pinfreeT_rel {m m' : Mem} {L : Heap} (h1 : m'.blk = m.blk) (h2 : m'.cap = m.cap) {x : AV} {u : Value} (hp : pinfreeT x = true) (h : VRel m L x u) : VRel m' L x u := pinfree_rel h1 h2 x u hp h

/-- what a layer's reading owes -/
def SubOk (m mb : Mem) (L : Heap) (full : Prop) (sub : AV → AV) (sl : AV → Prop) (sb : AV → Bool) : Prop :=
  ∀ x u, VRel m L x u → sl x → (sb x = true → full) → VRel mb L (sub x) u
theorem SubOk.list {m mb : Mem} {L : Heap} {full : Prop} {sub : AV → AV} {sl : AV → Prop} {sb : AV → Bool} (H : SubOk m mb L full sub sl sb) : ∀ {xs : List AV} {us : List Value}, CRel m L xs us → (∀ x ∈ xs, sl x) → (xs.any sb = true → full) → CRel mb L (xs.map sub) us
  | [], us, h, _, _ => by simpa [CRel] using h
  | x :: xs, us, h, hl, hf => by
    simp only [CRel, List.map_cons, List.any_cons, Bool.or_eq_true] at *
    obtain ⟨u, us', rfl, h1, h2⟩ := h
    exact ⟨u, us', rfl, H x u h1 (hl x (by simp)) (fun h => hf (.inl h)), H.list h2 (fun y hy => hl y (by simp [hy])) (fun h => hf (.inr h))⟩
theorem sub0 {m mb : Mem} {L : Heap} {full : Prop} (M : Mono m L mb L) : SubOk m mb L full deref0 lent0 bor0 := fun x u h _ _ => VRel.mono M x u h

theorem subC {m mb : Mem} {L : Heap} {w : World} (hW : WRel m L w) (M : Mono m L mb L) {keep : Nat → Bool} {full : Prop} {sub : AV → AV} {sl : AV → Prop} {sb : AV → Bool}
    (hobj : full → ∀ g, (∀ i, keep i = true → Own m L i → m.blk i ≠ g) → (∀ i, keep i = true → ¬ Hid m L i g) → mb.pobj g = w.heap[g]?)
    (H : SubOk m mb L full sub sl sb) : SubOk m mb L full (derefC L keep sub) (lentC L keep sl) (borC L keep sb) := by
  have row : ∀ {id ver}, fresh L id ver → keep id = false → full → ∃ us, CRel m L (rowOf L id) us ∧ ∀ j v, us[j]? = some v → mb.pin (m.blk id) j = some v := by
    intro id ver hf hk hfull
    obtain ⟨cs, sz, hL, hr, hsz⟩ := fresh_row hf
    obtain ⟨us, hc, hcl, _⟩ := row_cells hW hL
    refine ⟨us, by rw [hr]; exact hc, fun j v hj => ?_⟩
    have hcap : m.cap id ≠ 0 := by
      intro h0
      have := hW.nils _ _ _ _ hL h0
      subst this
      simp only [CRel] at hc
      subst hc
      simp at hj
    refine Mem.pin_heap (hobj hfull _ (fun i hi ho he => ?_) (fun i hi hk' => hW.hid.own i _ hk' id (.inl ⟨_, _, _, hL, hcap⟩) rfl)) (hcl _ _ hj)
    have := hW.inj i id ho (.inl ⟨_, _, _, hL, hcap⟩) he
    subst this
    rw [hk] at hi; cases hi
  have slice : ∀ {id ver off n : Nat} {a : Option Addr} {c : Nat}, fresh L id ver → keep id = false → full → n ≤ c → (∀ x ∈ ((rowOf L id).drop (off * szOf L id)).take (n * szOf L id), sl x) → (n = 0 ∨ a = some ⟨m.blk id, off * szOf L id, none⟩) →
      VRel mb L (.sl ((((rowOf L id).drop (off * szOf L id)).take (n * szOf L id)).map sub) n) (.slice a n c) := by
    intro id ver off n a c hf hk hfull hle hl ha
    obtain ⟨us, hc, hp⟩ := row hf hk hfull
    simp only [VRel]
    refine ⟨a, c, rfl, hle, (us.drop (off * szOf L id)).take (n * szOf L id), H.list ((hc.drop _).take _) hl (fun _ => hfull), ?_⟩
    rcases ha with ha | ha
    · left; simp [ha]
    · refine .inr ⟨m.blk id, off * szOf L id, ha, fun i v hi => hp _ _ ?_⟩
      rw [List.getElem?_take, List.getElem?_drop] at hi
      split at hi
      · exact hi
      · cases hi
  intro x u h hl hb
  cases x <;> simp only [derefC, lentC, borC] at hl hb ⊢ <;> try exact VRel.mono M _ u h
  case agg cs =>
    simp only [VRel] at *
    obtain ⟨us, rfl, hc⟩ := h
    exact ⟨us, rfl, H.list hc hl hb⟩
  case ifc t x =>
    simp only [VRel] at *
    obtain ⟨v, rfl, h⟩ := h
    exact ⟨v, rfl, H x v h hl hb⟩
  case fn f a b =>
    simp only [VRel, Bool.or_eq_true] at *
    obtain ⟨us, vs, rfl, h1, h2⟩ := h
    exact ⟨us, vs, rfl, H.list h1 hl.1 (fun h => hb (.inl h)), H.list h2 hl.2 (fun h => hb (.inr h))⟩
  case msl id ver off n =>
    cases hk : keep id
    · simp only [hk, cond_false, Bool.not_false, forall_const] at hl hb ⊢
      obtain ⟨k1, k2, a, rfl, ha⟩ := msl_slice h hl.1
      exact slice hl.1 hk hb (by omega) hl.2 (by rcases ha with ha | ha; · left; omega
                                                 · exact .inr ha)
    · simp only [hk, cond_true]; exact VRel.mono M _ u h
  case csl id ver off n =>
    cases hk : keep id
    · simp only [hk, cond_false, Bool.not_false, forall_const] at hl hb ⊢
      obtain ⟨k1, k2, a, rfl, ha⟩ := csl_slice h hl.1
      exact slice hl.1 hk hb (Nat.le_refl _) hl.2 ha
    · simp only [hk, cond_true]; exact VRel.mono M _ u h
  case ref id ver off =>
    cases hk : keep id || !isRow L id
    · simp only [hk, cond_false, Bool.not_false, forall_const] at hl hb ⊢
      have hk' : keep id = false := by simp at hk; exact hk.1
      have hu := ref_ptr h hl.1
      obtain ⟨us, hc, hp⟩ := row hl.1 hk' hb
      simp only [VRel]
      exact ⟨us.drop off, m.blk id, off, hu, H.list (hc.drop off) hl.2 (fun _ => hb), fun i v hi => hp _ _ (by rw [List.getElem?_drop] at hi; exact hi)⟩
    · simp only [hk, cond_true]; exact VRel.mono M _ u h
  case mp id =>
    cases hk : keep id
    · simp only [hk, cond_false, Bool.not_false, forall_const] at hb ⊢
      split
      · rename_i kd f hL
        simp only [VRel] at h ⊢
        obtain ⟨r, hL', hu⟩ := h
        obtain ⟨o, hbb, hr⟩ := hW.iters _ _ hL
        simp only [RawRel] at hr
        obtain ⟨es, clock, rfl, hM⟩ := hr
        refine ⟨m.blk id, es, clock, hu, ?_, hM⟩
        rw [hobj hb, hbb]
        · intro i hi ho he
          have := hW.inj i id ho (.inr ⟨_, hL⟩) he
          subst this
          rw [hk] at hi; cases hi
        · exact fun i hi hk' => hW.hid.own i _ hk' id (.inr ⟨_, hL⟩) rfl
      · exact VRel.mono M _ u h
    · simp only [hk, cond_true]; exact VRel.mono M _ u h
theorem subA {m mb : Mem} {L : Heap} {w : World} (hW : WRel m L w) (M : Mono m L mb L) {keep : Nat → Bool} {full : Prop}
    (hobj : full → ∀ g, (∀ i, keep i = true → Own m L i → m.blk i ≠ g) → (∀ i, keep i = true → ¬ Hid m L i g) → mb.pobj g = w.heap[g]?) :
    SubOk m mb L full (derefC L keep (d3 L keep)) (lentC L keep (l3 L keep)) (borC L keep (b3 L keep)) :=
  subC hW M hobj (subC hW M hobj (subC hW M hobj (subC hW M hobj (sub0 M))))

/-- m', L' is laid into m2, L2 by ρ -/
structure Laid (m' : Mem) (L' : Heap) (ρ : Nat → Nat) (m2 : Mem) (L2 : Heap) : Prop where
  pobj : ∀ g o, m'.pobj g = some o → m2.pobj g = some o
  obj : ∀ id o, L'[id]? = some o → L2[ρ id]? = some (renO ρ o) ∧ m2.blk (ρ id) = m'.blk id ∧ m2.cap (ρ id) = m'.cap id

theorem Laid.pin {m : Mem} {L : Heap} {ρ : Nat → Nat} {m' : Mem} {L' : Heap} (H : Laid m L ρ m' L') (g o : Nat) (v : Value) (h : m.pin g o = some v) : m'.pin g o = some v := by
  obtain ⟨c, e, f, h1, h2⟩ := Mem.pin_some h
  exact Mem.pin_of (H.pobj _ _ h1) h2
mutual
theorem VRel.laid {m : Mem} {L : Heap} {ρ : Nat → Nat} {m' : Mem} {L' : Heap} (H : Laid m L ρ m' L') : ∀ (x : AV) (u : Value), VRel m L x u → VRel m' L' (ren ρ x) u
  | .any, _, _ => by simp [VRel, ren]
  | .int .., _, h => by simpa [VRel, ren] using h
  | .bool _, _, h => by simpa [VRel, ren] using h
  | .str _, _, h => by simpa [VRel, ren] using h
  | .lit _, _, h => by simpa [VRel, ren] using h
  | .agg cs, u, h => by
    simp only [VRel, ren] at *
    obtain ⟨us, rfl, hc⟩ := h
    exact ⟨us, rfl, CRel.laid H cs us hc⟩
  | .tup cs, u, h => by
    simp only [VRel, ren] at *
    obtain ⟨us, rfl, hc⟩ := h
    exact ⟨us, rfl, CRel.laid H cs us hc⟩
  | .sl cs len, u, h => by
    simp only [VRel, ren] at *
    obtain ⟨a, cap, rfl, hl, us, hc, hp⟩ := h
    refine ⟨a, cap, rfl, hl, us, CRel.laid H cs us hc, ?_⟩
    rcases hp with hp | ⟨g, o, ha, hp⟩
    · exact .inl hp
    · exact .inr ⟨g, o, ha, fun i v hv => H.pin _ _ _ (hp i v hv)⟩
  | .msl id ver off len, u, h => by
    simp only [VRel, ren] at *
    obtain ⟨cs, sz, v, hL, hv, hsh, h⟩ := h
    obtain ⟨h1, h2, h3⟩ := H.obj id _ hL
    refine ⟨renL ρ cs, sz, v, h1, hv, hsh, fun e => ?_⟩
    rw [h2, h3, renL_eq, List.length_map]
    exact h e
  | .ref id ver off, u, h => by
    simp only [VRel, ren] at *
    rcases h with ⟨cs, sz, v, hL, hv, hsh, h⟩ | ⟨r, hL, h⟩
    · obtain ⟨h1, h2, h3⟩ := H.obj id _ hL
      exact .inl ⟨renL ρ cs, sz, v, h1, hv, hsh, fun e => by rw [h2]; exact h e⟩
    · obtain ⟨h1, h2, h3⟩ := H.obj id _ hL
      exact .inr ⟨r, h1, by rw [h2]; exact h⟩
  | .ip cs, u, h => by
    simp only [VRel, ren] at *
    obtain ⟨us, g, o, rfl, hc, hp⟩ := h
    exact ⟨us, g, o, rfl, CRel.laid H cs us hc, fun i v hv => H.pin _ _ _ (hp i v hv)⟩
  | .fn f first captured, u, h => by
    simp only [VRel, ren] at *
    obtain ⟨us, vs, rfl, h1, h2⟩ := h
    exact ⟨us, vs, rfl, CRel.laid H first us h1, CRel.laid H captured vs h2⟩
  | .ifc t x, u, h => by
    simp only [VRel, ren] at *
    obtain ⟨v, rfl, h⟩ := h
    exact ⟨v, rfl, VRel.laid H x v h⟩
  | .when c x, u, h => by
    simp only [VRel, ren] at *
    exact ⟨fun hc => VRel.laid H x u (h.1 hc), h.2⟩
  | .alt c x y, u, h => by
    simp only [VRel, ren] at *
    exact ⟨fun hc => VRel.laid H x u (h.1 hc), fun hc => VRel.laid H y u (h.2 hc)⟩
  | .ub .., _, h => by simpa only [VRel, ren] using h
  | .csl id ver off len, u, h => by
    simp only [VRel, ren] at *
    obtain ⟨cs, sz, v, hL, hv, hsh, h⟩ := h
    obtain ⟨h1, h2, h3⟩ := H.obj id _ hL
    refine ⟨renL ρ cs, sz, v, h1, hv, hsh, fun e => ?_⟩
    rw [h2, h3, renL_eq, List.length_map]
    exact h e
  | .mp id, u, h => by
    simp only [VRel, ren] at *
    obtain ⟨r, hL, h⟩ := h
    obtain ⟨h1, h2, h3⟩ := H.obj id _ hL
    exact ⟨r, h1, by rw [h2]; exact h⟩
  | .mpr kd f, u, h => by
    simp only [VRel, ren] at *
    obtain ⟨g, es, clock, hu, hp, hM⟩ := h
    exact ⟨g, es, clock, hu, H.pobj _ _ hp, hM⟩
theorem CRel.laid {m : Mem} {L : Heap} {ρ : Nat → Nat} {m' : Mem} {L' : Heap} (H : Laid m L ρ m' L') : ∀ (cs : List AV) (us : List Value), CRel m L cs us → CRel m' L' (renL ρ cs) us
  | [], _, h => by simpa [CRel, renL] using h
  | c :: cs, us, h => by
    simp only [CRel, renL] at *
    obtain ⟨u, us', rfl, h1, h2⟩ := h
    exact ⟨u, us', rfl, VRel.laid H c u h1, CRel.laid H cs us' h2⟩
end

theorem own_nil {m : Mem} {id : Nat} : ¬ Own m [] id := by
  rintro (⟨_, _, _, h, _⟩ | ⟨_, h⟩) <;> simp at h

theorem hid_nil {m : Mem} {id g : Nat} : ¬ Hid m [] id g := by
  rintro ⟨_, _, _, h, _⟩; simp at h

set_option maxHeartbeats 1000000 in
/-- behind a call that began at the empty heap: the caller's heap with the new objects behind it -/
theorem post_lift {m mb : Mem} {L : Heap} {w : World} (hW : WRel m L w) (borrowed : Bool) (hb : borrowed = false → mb = m) {res : AV} {N : Heap} {e : Ending} {w' : World} (h : Post mb [] w res N e w')
    (hfree : borrowed = true → pinfreeT res = true ∧ N.all pinfreeO = true) : Post m L w (ren (· + L.length) res) (L ++ N.map (renO (· + L.length))) e w' := by
  obtain ⟨v, m', rfl, hv, hW', hE⟩ := h
  have hold : ∀ g, g < w.heap.size → w'.heap[g]? = w.heap[g]? := fun g hg => hE.frame g hg (fun id ho => absurd ho own_nil) (fun id => hid_nil)
  obtain ⟨m2, hm2⟩ : ∃ m2 : Mem, m2 = { pobj := fun g => if g < w.heap.size then m.pobj g else m'.pobj g, blk := fun i => if i < L.length then m.blk i else m'.blk (i - L.length), cap := fun i => if i < L.length then m.cap i else m'.cap (i - L.length) } := ⟨_, rfl⟩
  have hpin2 : ∀ g, m2.pobj g = if g < w.heap.size then m.pobj g else m'.pobj g := fun g => by rw [hm2]
  have hblk1 : ∀ i, i < L.length → m2.blk i = m.blk i := fun i hi => by rw [hm2]; simp [hi]
  have hcap1 : ∀ i, i < L.length → m2.cap i = m.cap i := fun i hi => by rw [hm2]; simp [hi]
  have hblk2 : ∀ i, m2.blk (i + L.length) = m'.blk i := fun i => by rw [hm2]; simp [show ¬ i + L.length < L.length by omega]
  have hcap2 : ∀ i, m2.cap (i + L.length) = m'.cap i := fun i => by rw [hm2]; simp [show ¬ i + L.length < L.length by omega]
  -- the new objects, over m' with the caller's pins
  obtain ⟨m3, hm3⟩ : ∃ m3 : Mem, m3 = { m' with pobj := m2.pobj } := ⟨_, rfl⟩
  have heq : borrowed = false → m3 = m' := by
    intro hbf
    have hmb := hb hbf
    rw [hm3]
    have : m2.pobj = m'.pobj := by
      funext g
      rw [hpin2]
      split
      · rename_i hg; have := hE.newobj g hg; rw [this, hmb]
      · rfl
    rw [this]
  have hb3 : m3.blk = m'.blk := by rw [hm3]
  have hc3 : m3.cap = m'.cap := by rw [hm3]
  have hp3 : m3.pobj = m2.pobj := by rw [hm3]
  have hv3 : VRel m3 N res v := by
    cases hbr : borrowed with
    | false => rw [heq hbr]; exact hv
    | true => exact pinfreeT_rel hb3 hc3 (hfree hbr).1 hv
  have hrow3 : ∀ (id : Nat) (cs : List AV) (sz ver : Nat) (us : List Value), N[id]? = some (AObj.row cs sz ver) → CRel m' N cs us → CRel m3 N cs us := by
    intro id cs sz ver us hN hcr
    cases hbr : borrowed with
    | false => rw [heq hbr]; exact hcr
    | true =>
      have := (hfree hbr).2
      rw [List.all_eq_true] at this
      exact pinfreeL_rel hb3 hc3 _ _ (this _ (List.mem_of_getElem? hN)) hcr
  have HL : Laid m3 N (· + L.length) m2 (L ++ N.map (renO (· + L.length))) := by
    refine ⟨fun g o h => by rw [← hp3]; exact h, fun id o ho => ⟨?_, ?_, ?_⟩⟩
    · rw [List.getElem?_append_right (by omega)]; simp [ho]
    · rw [hblk2, hb3]
    · rw [hcap2, hc3]
  have HM : Mono m L m2 (L ++ N.map (renO (· + L.length))) := by
    refine ⟨fun g o h => by rw [hpin2, if_pos (hW.pobj_lt h)]; exact h, fun id cs sz ver hL => ?_, fun id r hL => ?_⟩
    · have hlt := (List.getElem?_eq_some_iff.1 hL).1
      exact ⟨cs, ver, by rw [List.getElem?_append_left hlt]; exact hL, Nat.le_refl _, fun _ => ⟨rfl, hblk1 id hlt, hcap1 id hlt⟩⟩
    · have hlt := (List.getElem?_eq_some_iff.1 hL).1
      exact ⟨r, by rw [List.getElem?_append_left hlt]; exact hL, hblk1 id hlt⟩
  -- an object of the new heap is an old one, or a new one
  have hcase : ∀ {id : Nat} {o : AObj}, (L ++ N.map (renO (· + L.length)))[id]? = some o → (id < L.length ∧ L[id]? = some o) ∨ (∃ j o', id = j + L.length ∧ N[j]? = some o' ∧ o = renO (· + L.length) o') := by
    intro id o ho
    by_cases hlt : id < L.length
    · rw [List.getElem?_append_left hlt] at ho; exact .inl ⟨hlt, ho⟩
    · rw [List.getElem?_append_right (by omega)] at ho
      simp only [List.getElem?_map, Option.map_eq_some_iff] at ho
      obtain ⟨o', h1, h2⟩ := ho
      exact .inr ⟨id - L.length, o', by omega, h1, h2.symm⟩
  have hown : ∀ {id : Nat}, Own m2 (L ++ N.map (renO (· + L.length))) id → (Own m L id ∧ m2.blk id = m.blk id ∧ m.blk id < w.heap.size) ∨ (∃ j, id = j + L.length ∧ Own m' N j ∧ m2.blk id = m'.blk j ∧ w.heap.size ≤ m'.blk j) := by
    intro id ho
    have hnew : ∀ j, Own m' N j → w.heap.size ≤ m'.blk j := fun j hj => by
      rcases hE.blks j hj with ⟨h1, _⟩ | h1
      · exact absurd h1 own_nil
      · exact h1
    rcases ho with ⟨cs, sz, ver, hL, hc⟩ | ⟨r, hL⟩
    · rcases hcase hL with ⟨hlt, h1⟩ | ⟨j, o', rfl, h1, h2⟩
      · have ho : Own m L id := .inl ⟨_, _, _, h1, by rw [← hcap1 id hlt]; exact hc⟩
        exact .inl ⟨ho, hblk1 id hlt, hW.blk_lt ho⟩
      · cases o' <;> simp only [renO, reduceCtorEq, AObj.row.injEq] at h2
        have ho : Own m' N j := .inl ⟨_, _, _, h1, by rw [← hcap2 j]; exact hc⟩
        exact .inr ⟨j, rfl, ho, hblk2 j, hnew j ho⟩
    · rcases hcase hL with ⟨hlt, h1⟩ | ⟨j, o', rfl, h1, h2⟩
      · have ho : Own m L id := .inr ⟨_, h1⟩
        exact .inl ⟨ho, hblk1 id hlt, hW.blk_lt ho⟩
      · cases o' <;> simp only [renO, reduceCtorEq, AObj.raw.injEq] at h2
        have ho : Own m' N j := .inr ⟨_, h1⟩
        exact .inr ⟨j, rfl, ho, hblk2 j, hnew j ho⟩
  have hhid : ∀ {id g : Nat}, Hid m2 (L ++ N.map (renO (· + L.length))) id g → Hid m L id g ∨ (∃ j, id = j + L.length ∧ Hid m' N j g ∧ w.heap.size ≤ g) := by
    rintro id g ⟨T, e, l, hL, hc⟩
    rcases hcase hL with ⟨hlt, h1⟩ | ⟨j, o', rfl, h1, h2⟩
    · exact .inl ⟨T, e, l, h1, by rw [← hcap1 id hlt]; exact hc⟩
    · cases o' <;> simp only [renO, reduceCtorEq, AObj.raw.injEq] at h2
      subst h2
      have hh : Hid m' N j g := ⟨T, e, l, h1, by rw [← hcap2 j]; exact hc⟩
      rcases hE.hnew j g hh with k | k
      · exact absurd k hid_nil
      · exact .inr ⟨j, rfl, hh, k⟩
  have hHid : HidOk m2 (L ++ N.map (renO (· + L.length))) w' := by
    refine ⟨fun id T e l hL => ?_, fun id g k => ?_, fun id g k j hj => ?_, fun i j g k1 k2 => ?_⟩
    · rcases hcase hL with ⟨hlt, h1⟩ | ⟨j, o', rfl, h1, h2⟩
      · rw [hblk1 id hlt, hcap1 id hlt]
        exact (hW.hid.at_ _ _ _ _ h1).same (hold _ (hW.blk_lt (.inr ⟨_, h1⟩))) fun g hc => hold _ (hW.hid.lt ⟨_, _, _, h1, hc⟩)
      · cases o' <;> simp only [renO, reduceCtorEq, AObj.raw.injEq] at h2
        subst h2
        rw [hblk2, hcap2]; exact hW'.hid.at_ _ _ _ _ h1
    · rw [hpin2]
      rcases hhid k with k | ⟨j, rfl, k, kg⟩
      · rw [if_pos (hW.hid.lt k)]; exact hW.hid.free _ _ k
      · rw [if_neg (by omega)]; exact hW'.hid.free _ _ k
    · rcases hown hj with ⟨h1, h2, h3⟩ | ⟨i', rfl, h1, h2, h3⟩ <;> rcases hhid k with k | ⟨j', rfl, k, kg⟩
      · rw [h2]; exact hW.hid.own _ _ k _ h1
      · omega
      · have := hW.hid.lt k; omega
      · rw [h2]; exact hW'.hid.own _ _ k _ h1
    · rcases hhid k1 with k1 | ⟨i', rfl, k1, g1⟩ <;> rcases hhid k2 with k2 | ⟨j', rfl, k2, g2⟩
      · exact hW.hid.inj _ _ _ k1 k2
      · have := hW.hid.lt k1; omega
      · have := hW.hid.lt k2; omega
      · rw [hW'.hid.inj _ _ _ k1 k2]
  refine ⟨v, m2, rfl, VRel.laid HL _ _ hv3, ⟨hW.glob.mono fun g o h => by rw [hpin2, if_pos (hW.pobj_lt h)]; exact h, fun g o hp => ?_, fun id cs sz ver hL hc => ?_, fun id cs sz ver hL hc => ?_, fun id r hL => ?_, fun i j hi hj he => ?_, fun id ho => ?_, hHid⟩,
    ⟨fun g hg _ _ => hold g hg, hE.size, fun g hg => by rw [hpin2, if_pos hg], fun id ho => ?_, by simp, HM, hE.same, fun id g k => by rcases hhid k with k | ⟨_, _, _, k⟩; exact .inl k; exact .inr k⟩⟩
  · rw [hpin2] at hp
    split at hp
    · rename_i hg
      rw [hold g hg]; exact hW.pobjs g o hp
    · exact hW'.pobjs g o hp
  · rcases hcase hL with ⟨hlt, h1⟩ | ⟨j, o', rfl, h1, h2⟩
    · rw [hcap1 id hlt] at hc ⊢
      obtain ⟨us, rest, elem, lo, hi, k1, k2, k3, k4⟩ := hW.rows _ _ _ _ h1 hc
      have hb' := hW.blk_lt (.inl ⟨_, _, _, h1, hc⟩)
      exact ⟨us, rest, elem, lo, hi, by rw [hblk1 id hlt, hold _ hb']; exact k1, CRel.mono HM _ _ k2, k3, k4⟩
    · cases o' <;> simp only [renO, reduceCtorEq, AObj.row.injEq] at h2
      obtain ⟨rfl, rfl, rfl⟩ := h2
      rw [hcap2] at hc ⊢
      obtain ⟨us, rest, elem, lo, hi, k1, k2, k3, k4⟩ := hW'.rows _ _ _ _ h1 hc
      exact ⟨us, rest, elem, lo, hi, by rw [hblk2]; exact k1, CRel.laid HL _ _ (hrow3 _ _ _ _ _ h1 k2), k3, k4⟩
  · rcases hcase hL with ⟨hlt, h1⟩ | ⟨j, o', rfl, h1, h2⟩
    · rw [hcap1 id hlt] at hc; exact hW.nils _ _ _ _ h1 hc
    · cases o' <;> simp only [renO, reduceCtorEq, AObj.row.injEq] at h2
      obtain ⟨rfl, rfl, rfl⟩ := h2
      rw [hcap2] at hc
      have := hW'.nils _ _ _ _ h1 hc
      rw [this]; rfl
  · rcases hcase hL with ⟨hlt, h1⟩ | ⟨j, o', rfl, h1, h2⟩
    · have hb' := hW.blk_lt (.inr ⟨_, h1⟩)
      rw [hblk1 id hlt, hold _ hb']; exact hW.iters _ _ h1
    · cases o' <;> simp only [renO, reduceCtorEq, AObj.raw.injEq] at h2
      subst h2
      rw [hblk2]; exact hW'.iters _ _ h1
  · rcases hown hi with ⟨h1, h2, h3⟩ | ⟨i', rfl, h1, h2, h3⟩ <;> rcases hown hj with ⟨k1, k2, k3⟩ | ⟨j', rfl, k1, k2, k3⟩
    · exact hW.inj i j h1 k1 (by omega)
    · omega
    · omega
    · have := hW'.inj i' j' h1 k1 (by omega); omega
  · rw [hpin2]
    rcases hown ho with ⟨h1, h2, h3⟩ | ⟨i', rfl, h1, h2, h3⟩
    · rw [h2, if_pos h3]; exact hW.freeo id h1
    · rw [h2, if_neg (by omega)]; exact hW'.freeo i' h1
  · rcases hown ho with ⟨h1, h2, h3⟩ | ⟨i', rfl, h1, h2, h3⟩
    · exact .inl ⟨h1, h2⟩
    · exact .inr (by omega)

/-- A CONTRACT AT THE EMPTY HEAP SERVES EVERY HEAP. -/
theorem Con.lift {f : FuncId} (hfn : ∃ fn, P.funcs[f]? = some fn ∧ fn.body.isNone = false ∧ (fn.name == "runtime.NumGoroutine") = false) {lpre : List AV → Prop} {lres : List AV → AV} {lnew : List AV → Heap} {q : Bool} (hq : q = true → ∀ xs, lnew xs = [])
    (h : ∀ (m : Mem) (w : World) (xs : List AV) (vs : List Value), WRel m [] w → CRel m [] xs vs → lpre xs → Calls P f vs.toArray w (Post m [] w (lres xs) (lnew xs))) : Con P f (lift0 lpre lres lnew q) where
  quiet hq' xs L := by simp only [lift0] at hq' ⊢; rw [hq hq']; simp
  runs := .inl ⟨hfn, fun m L w xs vs hW hx hp => by
    obtain ⟨h1, h2, h3, h4⟩ := hp
    obtain ⟨mb, hmb⟩ : ∃ mb : Mem, mb = if xs.any (isMsl L) = true then { m with pobj := fun g => w.heap[g]? } else m := ⟨_, rfl⟩
    have hpin : ∀ g o, m.pobj g = some o → mb.pobj g = some o := by
      intro g o hv
      rw [hmb]
      split
      · exact hW.pobjs g o hv
      · exact hv
    have hblk : mb.blk = m.blk ∧ mb.cap = m.cap := by rw [hmb]; split <;> exact ⟨rfl, rfl⟩
    have M : Mono m L mb L := ⟨hpin, fun id cs sz ver h => ⟨cs, ver, h, Nat.le_refl _, fun _ => ⟨rfl, by rw [hblk.1], by rw [hblk.2]⟩⟩, fun id r h => ⟨r, h, by rw [hblk.1]⟩⟩
    have hWb : WRel mb [] w := by
      refine ⟨hW.glob.mono hpin, fun g o hv => ?_, fun _ _ _ _ h => by simp at h, fun _ _ _ _ h => by simp at h, fun _ _ h => by simp at h, fun i j hi => absurd hi own_nil, fun id hi => absurd hi own_nil, .nil⟩
      rw [hmb] at hv
      split at hv
      · exact hv
      · exact hW.pobjs g o hv
    have hxb : CRel mb [] (xs.map (derefA L)) vs := closedL_rel ((subA hW M (keep := keep0) (full := xs.any (isMsl L) = true) fun hf g _ _ => by rw [hmb, if_pos hf]).list hx h1 (fun h => h)) h2
    exact (h mb w _ vs hWb hxb h3).mono fun e w' hpost => post_lift hW (xs.any (isMsl L)) (fun hf => by rw [hmb, hf]; rfl) hpost h4⟩

/-- A FUNCTION WITHOUT A BODY that answers with a number, off its texts and numbers. -/
theorem Con.ofExt {f : FuncId} {lpre : List AV → Prop} {lres : List AV → AV} (hr : ∀ xs, lpre xs → ∃ k n, lres xs = .int k n)
    (h : ∀ (m : Mem) (w : World) (xs : List AV) (vs : List Value), CRel m [] xs vs → lpre xs → ∃ v, (callFunc f vs.toArray).run P w = .ok (.value v) w ∧ VRel m [] (lres xs) v) : Con P f (lift0 lpre lres (fun _ => []) true) where
  quiet _ xs L := by simp [lift0]
  runs := .inr fun m L w xs vs hW hx hp => by
    obtain ⟨h1, h2, h3, h4⟩ := hp
    obtain ⟨mb, hmb⟩ : ∃ mb : Mem, mb = if xs.any (isMsl L) = true then { m with pobj := fun g => w.heap[g]? } else m := ⟨_, rfl⟩
    have hpin : ∀ g o, m.pobj g = some o → mb.pobj g = some o := by
      intro g o hv
      rw [hmb]
      split
      · exact hW.pobjs g o hv
      · exact hv
    have hblk : mb.blk = m.blk ∧ mb.cap = m.cap := by rw [hmb]; split <;> exact ⟨rfl, rfl⟩
    have M : Mono m L mb L := ⟨hpin, fun id cs sz ver h => ⟨cs, ver, h, Nat.le_refl _, fun _ => ⟨rfl, by rw [hblk.1], by rw [hblk.2]⟩⟩, fun id r h => ⟨r, h, by rw [hblk.1]⟩⟩
    have hxb : CRel mb [] (xs.map (derefA L)) vs := closedL_rel ((subA hW M (keep := keep0) (full := xs.any (isMsl L) = true) fun hf g _ _ => by rw [hmb, if_pos hf]).list hx h1 (fun h => h)) h2
    obtain ⟨v, hv1, hv2⟩ := h mb w _ vs hxb h3
    obtain ⟨k, n, e⟩ := hr _ h3
    rw [e] at hv2
    simp only [VRel] at hv2
    exact ⟨v, hv1, by simp only [lift0, e, ren, VRel]; exact hv2, by simp [lift0]⟩

/-- what is said of a body may be said less of -/
theorem BodyOk.weak {fn : Func} {xs : List AV} {L : Heap} {res res' : AV} {L' L'' : Heap} (h : BodyOk P Γ fn xs L res L') (hi : IntoF L [res] L' ([res'], L'')) : BodyOk P Γ fn xs L res' L'' := by
  intro X h1 h2 h3 h4
  have := h { X with fin := FinS P fn.results.toList L res L', hfin := fun fr L₁ m₁ a₁ w₁ hf hR => X.hfin fr L₁ m₁ a₁ w₁ (by rw [h4]; exact ⟨hf.1, hf.2.trans hi⟩) hR } h1 h2 h3 rfl
  obtain ⟨c, hc, hH⟩ := this
  exact ⟨c, hc, hH⟩

/-- THE SAME, off the body. -/
theorem Con.of_body (hΓ : EnvOk P Γ) {f : FuncId} {fn : Func} (hf : P.funcs[f]? = some fn) (hb : fn.body.isNone = false) (hn : (fn.name == "runtime.NumGoroutine") = false) {lpre : List AV → Prop} {lres : List AV → AV} {lnew : List AV → Heap} {q : Bool}
    (hq : q = true → ∀ xs, lnew xs = []) (h : ∀ xs, lpre xs → BodyOk P Γ fn xs [] (lres xs) (lnew xs)) : Con P f (lift0 lpre lres lnew q) :=
  Con.lift ⟨fn, hf, hb, hn⟩ hq fun m w xs vs hW hx hp => calls_of_body hΓ hf (h xs hp) hW hx

/-- A LAW: begun at whatever world, with arguments that read so, it returns this, and nothing that was there is turned. -/
theorem law_of_body (hΓ : EnvOk P Γ) {f : FuncId} {fn : Func} (hf : P.funcs[f]? = some fn) {xs : List AV} {vs : List Value} {m : Mem} {w : World} (hG : GOK m.pobj) (hpin : ∀ g o, m.pobj g = some o → w.heap[g]? = some o) (hx : CRel m [] xs vs)
    {L' : Heap} (hb : BodyOk P Γ fn xs [] (.bool true) L') : Calls P f vs.toArray w fun e w' => e = .returned (.bool true) ∧ Below w.heap.size w w' := by
  have hW : WRel m [] w := ⟨hG, hpin, fun _ _ _ _ h => by simp at h, fun _ _ _ _ h => by simp at h, fun _ _ h => by simp at h, fun i j hi => absurd hi own_nil, fun id hi => absurd hi own_nil, .nil⟩
  refine (calls_of_body hΓ hf hb hW hx).mono ?_
  rintro e w' ⟨v, m', rfl, hv, hW', hE⟩
  simp only [VRel] at hv
  subst hv
  exact ⟨rfl, hE.same.1, hE.same.2.1, hE.same.2.2, hE.size, fun k hk => hE.frame k hk (fun id ho => absurd ho own_nil) (fun id => hid_nil)⟩

end
end Go.Eng
