/- The engine, part 20: contracts for functions that turn what their arguments lead to, over objects that lead to others; a nil cell of an own row becomes an own row; classes of heaps by a pattern. -/
import Derived.Test.YtbnnhffkbcekcaaGreatDoorEng19
import Derived.Test.YtbnnhffkbcekcaaGreatDoorEng14
import Derived.Test.YtbnnhffkbcekcaaGreatDoorEng16
namespace Go.Eng
open Go
set_option linter.unusedVariables false
set_option linter.unusedSimpArgs false

/-! ### nil rows are said to be empty ones -/
mutual
def softV : AV → AV
  | .lit (.slice none 0 0) => .sl [] 0
  | .agg cs => .agg (softL cs)
  | .tup cs => .tup (softL cs)
  | x => x
def softL : List AV → List AV
  | [] => []
  | x :: xs => softV x :: softL xs
end
mutual
theorem VRel.soft {m : Mem} {L : Heap} : ∀ (x : AV) (u : Value), VRel m L x u → VRel m L (softV x) u
  | .lit v, u, h => by
    by_cases hv : v = .slice none 0 0
    · subst hv
      simp only [VRel, softV] at *
      exact ⟨none, 0, h, Nat.le_refl _, [], CRel.nil _ _, .inl rfl⟩
    · have e : softV (.lit v) = .lit v := by
        unfold softV
        split <;> simp_all
      rw [e]; exact h
  | .agg cs, u, h => by
    simp only [VRel, softV] at *
    obtain ⟨us, rfl, hc⟩ := h
    exact ⟨us, rfl, CRel.soft cs us hc⟩
  | .tup cs, u, h => by
    simp only [VRel, softV] at *
    obtain ⟨us, rfl, hc⟩ := h
    exact ⟨us, rfl, CRel.soft cs us hc⟩
  | .any, _, h => h
  | .int .., _, h => h
  | .bool _, _, h => h
  | .str _, _, h => h
  | .sl .., _, h => h
  | .msl .., _, h => h
  | .ref .., _, h => h
  | .ip _, _, h => h
  | .fn .., _, h => h
  | .ifc .., _, h => h
  | .when .., _, h => h
  | .alt .., _, h => h
  | .ub .., _, h => h
  | .csl .., _, h => h
  | .mp .., _, h => h
  | .mpr .., _, h => h
theorem CRel.soft {m : Mem} {L : Heap} : ∀ (cs : List AV) (us : List Value), CRel m L cs us → CRel m L (softL cs) us
  | [], _, h => by simpa only [softL] using h
  | c :: cs, us, h => by
    simp only [CRel, softL] at *
    obtain ⟨u, us', rfl, h1, h2⟩ := h
    exact ⟨u, us', rfl, VRel.soft c u h1, CRel.soft cs us' h2⟩
end
theorem softL_length : ∀ cs : List AV, (softL cs).length = cs.length
  | [] => by simp only [softL]
  | c :: cs => by simp only [softL, List.length_cons, softL_length cs]
theorem softV_nil : softV (.lit (.slice none 0 0)) = .sl [] 0 := by simp only [softV]
theorem softV_agg (cs : List AV) : softV (.agg cs) = .agg (softL cs) := by simp only [softV]
theorem softV_tup (cs : List AV) : softV (.tup cs) = .tup (softL cs) := by simp only [softV]
theorem softV_int (k : IntKind) (n : Int) : softV (.int k n) = .int k n := by simp only [softV]
theorem softV_str (l : List UInt8) : softV (.str l) = .str l := by simp only [softV]
theorem softV_bool (b : Bool) : softV (.bool b) = .bool b := by simp only [softV]
theorem softV_sl (cs : List AV) (n : Nat) : softV (.sl cs n) = .sl cs n := by simp only [softV]
theorem softV_msl (a b c d : Nat) : softV (.msl a b c d) = .msl a b c d := by simp only [softV]
theorem softV_ref (a b c : Nat) : softV (.ref a b c) = .ref a b c := by simp only [softV]
theorem softV_any : softV .any = .any := by simp only [softV]
theorem softL_nil : softL [] = [] := by simp only [softL]
theorem softL_cons (x : AV) (xs : List AV) : softL (x :: xs) = softV x :: softL xs := by simp only [softL]
theorem IntoF.soft {L0 : Heap} {fr : List AV} {L : Heap} {S : List AV × Heap} (h : IntoF L0 (softL fr) L S) : IntoF L0 fr L S := .sem (fun m us => CRel.soft fr us) h
theorem IntoF.softH {L0 : Heap} {fr : List AV} {L : Heap} {S : List AV × Heap} (id : Nat) {cs : List AV} {sz v : Nat} (hL : L[id]? = some (.row cs sz v)) (h : IntoF L0 fr (L.set id (.row (softL cs) sz v)) S) : IntoF L0 fr L S := .recell id (softL cs) hL (softL_length cs) (fun m us => CRel.soft cs us) h
attribute [push_cast] softV_nil softV_agg softV_tup softV_int softV_str softV_bool softV_sl softV_msl softV_ref softV_any softL_nil softL_cons
theorem Holds.recell {X : Cx} {k : List It} {fr : List AV} {L : Heap} (id : Nat) (cs' : List AV) {cs : List AV} {sz v : Nat} (hL : L[id]? = some (.row cs sz v)) (hl : cs'.length = cs.length) (hc : ∀ m us, CRel m L cs us → CRel m L cs' us)
    (h : Holds X k fr (L.set id (.row cs' sz v))) : Holds X k fr L := fun m a w hR =>
  h m a w ⟨hR.wrel.recell hL hl (hc m), CRel.mono (recell_mono hL hl) _ _ hR.frel, hR.ext.recell hL hl, hR.defers⟩
/-- a nil slice in a cell of an own row becomes an own row without room -/
theorem Holds.nilH {X : Cx} {k : List It} {fr : List AV} {L : Heap} (id j sz' : Nat) {cs : List AV} {sz v : Nat} (hL : L[id]? = some (.row cs sz v)) (hj : cs.getD j .any = .lit (.slice none 0 0))
    (h : Holds X k fr (L.set id (.row (cs.set j (.msl L.length 0 0 0)) sz v) ++ [.row [] sz' 0])) : Holds X k fr L := by
  intro m a w hR
  have hlt := (List.getElem?_eq_some_iff.1 hL).1
  have hL1 : (L ++ [AObj.row [] sz' 0])[id]? = some (.row cs sz v) := by rw [List.getElem?_append_left hlt]; exact hL
  have e : L.set id (.row (cs.set j (.msl L.length 0 0 0)) sz v) ++ [AObj.row [] sz' 0] = (L ++ [AObj.row [] sz' 0]).set id (.row (cs.set j (.msl L.length 0 0 0)) sz v) := by
    rw [List.set_append_left _ _ hlt]
  rw [e] at h
  -- the nil row is laid, then the cell is turned
  have hjl : j < cs.length := by
    rcases Nat.lt_or_ge j cs.length with h' | h'
    · exact h'
    · simp [List.getD, List.getElem?_eq_none h'] at hj
  have hW1 := hR.wrel.nil (sz := sz')
  have hE1 := hR.ext.nil (sz := sz')
  have hc1 := CRel.mono (nil_mono (m := m) (L := L) (sz := sz')) _ _ hR.frel
  have hv : VRel (nilM m L.length) (L ++ [AObj.row [] sz' 0]) (.msl L.length 0 0 0) (.slice none 0 0) := by
    simp only [VRel]
    exact ⟨[], sz', 0, by simp, Nat.le_refl _, ⟨none, 0, 0, rfl⟩, fun _ => ⟨by simp, by simp, none, by simp [nilM], .inl (by simp [nilM])⟩⟩
  have hcell : ∀ us, CRel (nilM m L.length) (L ++ [AObj.row [] sz' 0]) cs us → CRel (nilM m L.length) (L ++ [AObj.row [] sz' 0]) (cs.set j (.msl L.length 0 0 0)) us := by
    intro us hcs
    refine CRel.mk (by simp [hcs.length]) fun i c u hi hu => ?_
    rw [List.getElem?_set] at hi
    by_cases hij : j = i
    · subst hij
      simp [hjl] at hi
      subst hi
      have := hcs.getD j
      rw [hj] at this
      simp only [VRel] at this
      simp [List.getD, hu] at this
      rw [this]; exact hv
    · simp [hij] at hi
      obtain ⟨u1, hu1, hr1⟩ := hcs.get i c hi
      rw [hu] at hu1; obtain rfl := Option.some.inj hu1; exact hr1
  exact h _ a w ⟨hW1.recell hL1 (by simp) hcell, CRel.mono (recell_mono hL1 (by simp)) _ _ hc1, hE1.recell hL1 (by simp), hR.defers⟩

/-! ### classes of heaps by a pattern: an object that stands, or a row of such cells -/
inductive Pt where
  | fix (o : AObj)
  | row (sz ver : Nat)
  | len (n sz ver : Nat)
def patH : List Pt → Heap → Prop
  | [], _ => True
  | .fix o :: ps, G => ∃ G', G = o :: G' ∧ patH ps G'
  | .row sz v :: ps, G => ∃ cs G', G = .row cs sz v :: G' ∧ patH ps G'
  | .len n sz v :: ps, G => ∃ cs G', cs.length = n ∧ G = .row cs sz v :: G' ∧ patH ps G'
theorem qob_p0 (f : Heap → Prop) : qob (patH []) f = ∀ A, f A := propext ⟨fun h A => h A trivial, fun h A _ => h A⟩
theorem qob_p1 (o : AObj) (ps : List Pt) (f : Heap → Prop) : qob (patH (.fix o :: ps)) f = qob (patH ps) (fun G => f (o :: G)) := propext ⟨fun h G hG => h _ ⟨G, rfl, hG⟩, fun h G ⟨G', e, hG⟩ => e ▸ h G' hG⟩
theorem qob_p2 (sz v : Nat) (ps : List Pt) (f : Heap → Prop) : qob (patH (.row sz v :: ps)) f = ∀ cs, qob (patH ps) (fun G => f (.row cs sz v :: G)) := propext ⟨fun h cs G hG => h _ ⟨cs, G, rfl, hG⟩, fun h G ⟨cs, G', e, hG⟩ => e ▸ h cs G' hG⟩
theorem qob_p3 (n sz v : Nat) (ps : List Pt) (f : Heap → Prop) : qob (patH (.len n sz v :: ps)) f = ∀ cs : List AV, cs.length = n → qob (patH ps) (fun G => f (.row cs sz v :: G)) := propext ⟨fun h cs hc G hG => h _ ⟨cs, G, hc, rfl, hG⟩, fun h G ⟨cs, G', hc, e, hG⟩ => e ▸ h cs hc G' hG⟩
theorem patH_0 (G : Heap) : patH [] G = True := rfl
theorem patH_1 (o : AObj) (ps : List Pt) (G : Heap) : patH (.fix o :: ps) (o :: G) = patH ps G := by simp [patH]
theorem patH_2 (cs : List AV) (sz v : Nat) (ps : List Pt) (G : Heap) : patH (.row sz v :: ps) (.row cs sz v :: G) = patH ps G := propext ⟨fun ⟨_, _, h, h'⟩ => by cases h; exact h', fun h => ⟨_, _, rfl, h⟩⟩
theorem patH_3 (n : Nat) (cs : List AV) (sz v : Nat) (ps : List Pt) (G : Heap) : patH (.len n sz v :: ps) (.row cs sz v :: G) = (cs.length = n ∧ patH ps G) := propext ⟨fun ⟨_, _, hl, h, h'⟩ => by cases h; exact ⟨hl, h'⟩, fun h => ⟨_, _, h.1, rfl, h.2⟩⟩
theorem patH_app : ∀ (ps : List Pt) {G : Heap} (A : Heap), patH ps G → patH ps (G ++ A)
  | [], _, _, _ => trivial
  | .fix o :: ps, _, A, ⟨G', e, h⟩ => ⟨G' ++ A, by rw [e]; rfl, patH_app ps A h⟩
  | .row sz v :: ps, _, A, ⟨cs, G', e, h⟩ => ⟨cs, G' ++ A, by rw [e]; rfl, patH_app ps A h⟩
  | .len n sz v :: ps, _, A, ⟨cs, G', hl, e, h⟩ => ⟨cs, G' ++ A, hl, by rw [e]; rfl, patH_app ps A h⟩
attribute [push_cast] qob_p0 qob_p1 qob_p2 qob_p3 patH_0 patH_1 patH_2 patH_3

/-! ### The contract -/
structure HSpec where
  ids : List AV → Heap → List Nat
  args : List AV → Heap → List AV
  start : List AV → Heap → Heap
  pre : List AV → Heap → Prop
  res : List AV → Heap → AV
  post : List AV → Heap → Heap

def liftH (g : HSpec) : FSpec where
  pre xs L := (∀ x ∈ xs, lentG L (g.ids xs L) x) ∧ (g.ids xs L).Nodup ∧ xs.map (derefG L (g.ids xs L)) = renL (fun j => (g.ids xs L).getD j j) (g.args xs L) ∧
    ((g.ids xs L).map fun i => L[i]?) = ((g.start xs L).map fun o => some (renO (fun j => (g.ids xs L).getD j j) o)) ∧ scpL (g.start xs L).length (g.args xs L) = true ∧ (g.start xs L).all (scpO (g.start xs L).length) = true ∧
    g.pre (g.args xs L) (g.start xs L) ∧ (xs.any (isMslG L (g.ids xs L)) = true → pinfreeT (g.res (g.args xs L) (g.start xs L)) = true ∧ (g.post (g.args xs L) (g.start xs L)).all pinfreeO = true)
  res xs L := ren (rhoG (g.ids xs L) L.length) (g.res (g.args xs L) (g.start xs L))
  post xs L := placeG (g.ids xs L) L (g.post (g.args xs L) (g.start xs L))
  quiet := false

section
variable {P : Program} {Γ : Env}

open Classical in
/-- A CONTRACT AT A SMALL HEAP SERVES EVERY HEAP -/
theorem Con.liftH {f : FuncId} (hfn : ∃ fn, P.funcs[f]? = some fn ∧ fn.body.isNone = false ∧ (fn.name == "runtime.NumGoroutine") = false) {g : HSpec}
    (h : ∀ (m : Mem) (L : Heap) (w : World) (xs : List AV) (vs : List Value), WRel m L w → CRel m L xs vs → g.pre xs L → Calls P f vs.toArray w (Post m L w (g.res xs L) (g.post xs L))) : Con P f (Eng.liftH g) where
  quiet hq := by cases hq
  runs := .inl ⟨hfn, fun m L w xs vs hW hx hp => by
    obtain ⟨h1, h2, h3, h4, h5, h6, h7, h8⟩ := hp
    obtain ⟨ids, hids⟩ : ∃ ids, ids = g.ids xs L := ⟨_, rfl⟩
    rw [← hids] at h1 h2 h3 h4 h8
    obtain ⟨mp, hmp⟩ : ∃ mp : Mem, mp = if xs.any (isMslG L ids) = true then { m with pobj := fun g => if (∃ i ∈ ids, Own m L i ∧ m.blk i = g) ∨ (∃ i ∈ ids, Hid m L i g) then none else w.heap[g]? } else m := ⟨_, rfl⟩
    have hpin : ∀ g o, m.pobj g = some o → mp.pobj g = some o := by
      intro g o hv
      rw [hmp]
      split
      · simp only
        rw [if_neg]
        · exact hW.pobjs _ _ hv
        · rintro (⟨i, hi, ho, rfl⟩ | ⟨i, hi, hk⟩)
          · have := hW.freeo i ho
            rw [hv] at this; cases this
          · have := hW.hid.free i _ hk
            rw [hv] at this; cases this
      · exact hv
    have hblk : mp.blk = m.blk ∧ mp.cap = m.cap := by rw [hmp]; split <;> exact ⟨rfl, rfl⟩
    have hpins : ∀ g o, mp.pobj g = some o → w.heap[g]? = some o := by
      intro g o hv
      rw [hmp] at hv
      split at hv
      · simp only at hv
        split at hv
        · cases hv
        · exact hv
      · exact hW.pobjs _ _ hv
    have hfree : ∀ i ∈ ids, Own m L i → mp.pobj (m.blk i) = none := by
      intro i hi ho
      rw [hmp]
      split
      · simp only
        rw [if_pos (.inl ⟨i, hi, ho, rfl⟩)]
      · exact hW.freeo i ho
    have M : Mono m L mp L := ⟨hpin, fun id cs sz ver h => ⟨cs, ver, h, Nat.le_refl _, fun _ => ⟨rfl, by rw [hblk.1], by rw [hblk.2]⟩⟩, fun id r h => ⟨r, h, by rw [hblk.1]⟩⟩
    have hx' : CRel mp L (xs.map (derefG L ids)) vs := (subA hW M (keep := keepG ids) (full := xs.any (isMslG L ids) = true) fun hf g hno hnh => by
      rw [hmp, if_pos hf]
      simp only
      rw [if_neg]
      rintro (⟨i, hi, ho, he⟩ | ⟨i, hi, hk⟩)
      · exact hno i (by simp [keepG, hi]) ho he
      · exact hnh i (by simp [keepG, hi]) hk).list hx h1 (fun h => h)
    have hw : Weak 0 ids (xs.map (derefG L ids)) L (g.args xs L) (g.start xs L) := ⟨by rw [h3]; exact leF_refl _, h4, h2, rfl, h5, h6⟩
    have H := hw.renamed mp
    have hc0 := CRel.ren H _ _ (by rw [← h3]; exact hx') h5
    obtain ⟨mb, hmb⟩ : ∃ mb : Mem, mb = { mp with blk := fun i => mp.blk (ids.getD i i), cap := fun i => mp.cap (ids.getD i i) } := ⟨_, rfl⟩
    rw [← hmb] at H hc0
    have hgd : ∀ j, j < ids.length → ids.getD j j = ids.getD j 0 := fun j hj => by simp [List.getD, hj]
    have HL : Lent m mb L (g.start xs L) ids := ⟨h2, h4, fun j hj => by rw [hmb]; simp only [hblk.1, hgd j hj], fun j hj => by rw [hmb]; simp only [hblk.2, hgd j hj], fun g o hv => by rw [hmb]; exact hpin g o hv⟩
    have hfreeH : ∀ i ∈ ids, ∀ g, Hid m L i g → mp.pobj g = none := by
      intro i hi g hk
      rw [hmp]
      split
      · simp only
        rw [if_pos (.inr ⟨i, hi, hk⟩)]
      · exact hW.hid.free i g hk
    have hW0 : WRel mb (g.start xs L) w := by
      have hs' : ∀ o ∈ g.start xs L, scpO (g.start xs L).length o = true := by simpa [List.all_eq_true] using h6
      refine ⟨hW.glob.mono fun g o hv => by rw [hmb]; exact hpin g o hv, fun g o hv => hpins g o (by rw [hmb] at hv; exact hv), fun j cs sz ver hL hc => ?_, fun j cs sz ver hL hc => ?_, fun j r hL => ?_, fun i j hi hj he => ?_, fun j ho => ?_, ⟨fun j T e l hL => ?_, fun j g k => ?_, fun j g k i hi => ?_, fun i j g k1 k2 => ?_⟩⟩
      · obtain ⟨k1, k2⟩ := HL.at hL
        rw [HL.cap j k1] at hc ⊢
        obtain ⟨us, rest, elem, lo, hi, q1, q2, q3, q4⟩ := hW.rows _ _ _ _ k2 hc
        have hscp := hs' _ (List.mem_of_getElem? hL)
        exact ⟨us, rest, elem, lo, hi, by rw [HL.blk j k1]; exact q1, CRel.ren H _ _ (CRel.mono M _ _ q2) (by simpa [scpO] using hscp), q3, q4⟩
      · obtain ⟨k1, k2⟩ := HL.at hL
        rw [HL.cap j k1] at hc
        have := hW.nils _ _ _ _ k2 hc
        rw [renL_eq] at this
        simpa using this
      · obtain ⟨k1, k2⟩ := HL.at hL
        rw [HL.blk j k1]; exact hW.iters _ _ k2
      · obtain ⟨a1, a2, a3⟩ := HL.own hi
        obtain ⟨b1, b2, b3⟩ := HL.own hj
        exact getD_inj h2 a1 b1 (hW.inj _ _ a2 b2 (by omega))
      · obtain ⟨a1, a2, a3⟩ := HL.own ho
        rw [a3, hmb]
        exact hfree _ (getD_mem a1) a2
      · obtain ⟨k1, k2⟩ := HL.at hL
        rw [HL.blk j k1, HL.cap j k1]; exact hW.hid.at_ _ _ _ _ k2
      · obtain ⟨a1, a2⟩ := HL.hid k
        rw [hmb]; exact hfreeH _ (getD_mem a1) g a2
      · obtain ⟨a1, a2⟩ := HL.hid k
        obtain ⟨b1, b2, b3⟩ := HL.own hi
        rw [b3]; exact hW.hid.own _ _ a2 _ b2
      · obtain ⟨a1, a2⟩ := HL.hid k1
        obtain ⟨b1, b2⟩ := HL.hid k2
        exact getD_inj h2 a1 b1 (hW.hid.inj _ _ _ a2 b2)
    have := (h mb (g.start xs L) w (g.args xs L) vs hW0 hc0 h7).mono fun e w' hpost => post_place hW HL (xs.any (isMslG L ids)) (fun hf => by rw [hmb, hmp, hf]; rfl) hpost h8
    rw [hids] at this
    exact this⟩

/-- THE SAME, off the body -/
theorem Con.liftH_of_body (hΓ : EnvOk P Γ) {f : FuncId} {fn : Func} (hf : P.funcs[f]? = some fn) (hb : fn.body.isNone = false) (hn : (fn.name == "runtime.NumGoroutine") = false) {g : HSpec}
    (h : ∀ xs L, g.pre xs L → BodyOk P Γ fn xs L (g.res xs L) (g.post xs L)) : Con P f (Eng.liftH g) :=
  Con.liftH ⟨fn, hf, hb, hn⟩ fun m L w xs vs hW hx hp => calls_of_body hΓ hf (h xs L hp) hW hx
end

/-! ### objects that the arguments lead to -/
mutual
def refsV : AV → List Nat
  | .ref id _ _ => [id]
  | .fn _ a b => refsL a ++ refsL b
  | .agg cs => refsL cs
  | _ => []
def refsL : List AV → List Nat
  | [] => []
  | x :: xs => refsV x ++ refsL xs
end
/-- own rows too -/
def refsW : List AV → List Nat
  | [] => []
  | .msl id _ _ _ :: xs => id :: refsW xs
  | .ref id _ _ :: xs => id :: refsW xs
  | .mp id :: xs => id :: refsW xs
  | _ :: xs => refsW xs
def refsO (deep : Bool) (L : Heap) (id : Nat) : List Nat := match L[id]? with
  | some (.row cs _ _) => cond deep (refsW cs) (refsL cs)
  | _ => []
def inL : List Nat → Nat → Bool
  | [], _ => false
  | i :: is, j => i == j || inL is j
def addNew : List Nat → List Nat → List Nat
  | is, [] => is
  | is, j :: js => cond (inL is j) (addNew is js) (addNew (is ++ [j]) js)
def newOf : List Nat → List Nat → List Nat
  | _, [] => []
  | is, j :: js => cond (inL is j) (newOf is js) (j :: newOf is js)
def idxL : List Nat → Nat → Nat
  | [], _ => 0
  | i :: is, j => cond (i == j) 0 (idxL is j + 1)
/-- ids so far, those not looked into yet -/
def reachF (deep : Bool) (L : Heap) : Nat → List Nat → List Nat → List Nat
  | 0, is, _ => is
  | _ + 1, is, [] => is
  | n + 1, is, q :: qs => reachF deep L n (addNew is (refsO deep L q)) (qs ++ newOf is (refsO deep L q))
def reach (deep : Bool) (xs : List AV) (L : Heap) : List Nat := reachF deep L 9 (addNew [] (refsL xs)) (addNew [] (refsL xs))
theorem inL_nil (j : Nat) : inL [] j = false := rfl
theorem inL_cons (i j : Nat) (is : List Nat) : inL (i :: is) j = (i == j || inL is j) := rfl
theorem addNew_nil (is : List Nat) : addNew is [] = is := rfl
theorem addNew_cons (is js : List Nat) (j : Nat) : addNew is (j :: js) = cond (inL is j) (addNew is js) (addNew (is ++ [j]) js) := rfl
theorem newOf_nil (is : List Nat) : newOf is [] = [] := rfl
theorem newOf_cons (is js : List Nat) (j : Nat) : newOf is (j :: js) = cond (inL is j) (newOf is js) (j :: newOf is js) := rfl
theorem idxL_nil (j : Nat) : idxL [] j = 0 := rfl
theorem idxL_cons (i j : Nat) (is : List Nat) : idxL (i :: is) j = cond (i == j) 0 (idxL is j + 1) := rfl
theorem reach_at (deep : Bool) (xs : List AV) (L : Heap) : reach deep xs L = reachF deep L 9 (addNew [] (refsL xs)) (addNew [] (refsL xs)) := rfl
theorem reachF_nil (deep : Bool) (L : Heap) (n : Nat) (is : List Nat) : reachF deep L n is [] = is := by cases n <;> rfl
theorem reachF_9 (deep : Bool) (L : Heap) (is qs : List Nat) (q : Nat) : reachF deep L 9 is (q :: qs) = reachF deep L 8 (addNew is (refsO deep L q)) (qs ++ newOf is (refsO deep L q)) := rfl
theorem reachF_8 (deep : Bool) (L : Heap) (is qs : List Nat) (q : Nat) : reachF deep L 8 is (q :: qs) = reachF deep L 7 (addNew is (refsO deep L q)) (qs ++ newOf is (refsO deep L q)) := rfl
theorem reachF_7 (deep : Bool) (L : Heap) (is qs : List Nat) (q : Nat) : reachF deep L 7 is (q :: qs) = reachF deep L 6 (addNew is (refsO deep L q)) (qs ++ newOf is (refsO deep L q)) := rfl
theorem reachF_6 (deep : Bool) (L : Heap) (is qs : List Nat) (q : Nat) : reachF deep L 6 is (q :: qs) = reachF deep L 5 (addNew is (refsO deep L q)) (qs ++ newOf is (refsO deep L q)) := rfl
theorem reachF_5 (deep : Bool) (L : Heap) (is qs : List Nat) (q : Nat) : reachF deep L 5 is (q :: qs) = reachF deep L 4 (addNew is (refsO deep L q)) (qs ++ newOf is (refsO deep L q)) := rfl
theorem reachF_4 (deep : Bool) (L : Heap) (is qs : List Nat) (q : Nat) : reachF deep L 4 is (q :: qs) = reachF deep L 3 (addNew is (refsO deep L q)) (qs ++ newOf is (refsO deep L q)) := rfl
theorem reachF_3 (deep : Bool) (L : Heap) (is qs : List Nat) (q : Nat) : reachF deep L 3 is (q :: qs) = reachF deep L 2 (addNew is (refsO deep L q)) (qs ++ newOf is (refsO deep L q)) := rfl
theorem refsV_ref (id v o : Nat) : refsV (.ref id v o) = [id] := rfl
theorem refsV_fn (f : Fn) (a b : List AV) : refsV (.fn f a b) = refsL a ++ refsL b := by simp only [refsV]
theorem refsV_agg (cs : List AV) : refsV (.agg cs) = refsL cs := by simp only [refsV]
theorem refsV_int (k : IntKind) (n : Int) : refsV (.int k n) = [] := rfl
theorem refsV_str (l : List UInt8) : refsV (.str l) = [] := rfl
theorem refsV_bool (b : Bool) : refsV (.bool b) = [] := rfl
theorem refsV_lit (v : Value) : refsV (.lit v) = [] := rfl
theorem refsV_sl (cs : List AV) (n : Nat) : refsV (.sl cs n) = [] := by simp only [refsV]
theorem refsV_ip (cs : List AV) : refsV (.ip cs) = [] := by simp only [refsV]
theorem refsV_msl (a b c d : Nat) : refsV (.msl a b c d) = [] := rfl
theorem refsV_mpr (k : Option IntKind) (f : Key → Option Value) : refsV (.mpr k f) = [] := rfl
theorem refsV_mp (id : Nat) : refsV (.mp id) = [] := rfl
theorem refsL_nil : refsL [] = [] := rfl
theorem refsL_cons (x : AV) (xs : List AV) : refsL (x :: xs) = refsV x ++ refsL xs := by simp only [refsL]
theorem refsW_nil : refsW [] = [] := rfl
theorem refsW_msl (id v o n : Nat) (xs : List AV) : refsW (.msl id v o n :: xs) = id :: refsW xs := rfl
theorem refsW_ref (id v o : Nat) (xs : List AV) : refsW (.ref id v o :: xs) = id :: refsW xs := rfl
theorem refsW_mp (id : Nat) (xs : List AV) : refsW (.mp id :: xs) = id :: refsW xs := rfl
theorem refsW_int (k : IntKind) (n : Int) (xs : List AV) : refsW (.int k n :: xs) = refsW xs := rfl
theorem refsW_str (l : List UInt8) (xs : List AV) : refsW (.str l :: xs) = refsW xs := rfl
theorem refsW_bool (b : Bool) (xs : List AV) : refsW (.bool b :: xs) = refsW xs := rfl
theorem refsW_lit (v : Value) (xs : List AV) : refsW (.lit v :: xs) = refsW xs := rfl
theorem refsW_sl (cs : List AV) (n : Nat) (xs : List AV) : refsW (.sl cs n :: xs) = refsW xs := rfl
theorem refsW_ip (cs : List AV) (xs : List AV) : refsW (.ip cs :: xs) = refsW xs := rfl
mutual
theorem pure_refs : ∀ x : AV, pureA x = true → refsV x = []
  | .agg cs, h => by simp only [pureA, refsV] at *; exact pure_refsL cs h
  | .fn _ a b, h => by simp only [pureA, refsV, Bool.and_eq_true] at *; rw [pure_refsL a h.1, pure_refsL b h.2]; rfl
  | .tup _, _ => by simp only [refsV]
  | .sl .., _ => by simp only [refsV]
  | .ip _, _ => by simp only [refsV]
  | .ifc .., _ => by simp only [refsV]
  | .int .., _ => rfl
  | .bool _, _ => rfl
  | .str _, _ => rfl
  | .lit _, _ => rfl
  | .mpr .., _ => rfl
  | .any, h => by simp [pureA] at h
  | .msl .., h => by simp [pureA] at h
  | .ref .., h => by simp [pureA] at h
  | .when .., h => by simp [pureA] at h
  | .alt .., h => by simp [pureA] at h
  | .ub .., h => by simp [pureA] at h
  | .csl .., h => by simp [pureA] at h
  | .mp .., h => by simp [pureA] at h
theorem pure_refsL : ∀ xs : List AV, pureL xs = true → refsL xs = []
  | [], _ => rfl
  | x :: xs, h => by simp only [pureL, refsL, Bool.and_eq_true] at *; rw [pure_refs x h.1, pure_refsL xs h.2]; rfl
end
theorem pure_refsW : ∀ xs : List AV, pureL xs = true → refsW xs = []
  | [], _ => rfl
  | x :: xs, h => by
    simp only [pureL, Bool.and_eq_true] at h
    have := pure_refsW xs h.2
    cases x <;> simp only [refsW, this] <;> simp [pureA] at h
section
variable {α : Type} {f : α → AV} {g : α → List AV}
theorem refsL_map [PureF f] (xs : List α) : refsL (xs.map f) = [] := pure_refsL _ (pureL_map xs)
theorem refsL_fm [PureC g] (xs : List α) : refsL (xs.flatMap g) = [] := pure_refsL _ (pureL_fm xs)
theorem refsL_c [PureC g] (x : α) : refsL (g x) = [] := pure_refsL _ (pureL_at x)
theorem refsW_map [PureF f] (xs : List α) : refsW (xs.map f) = [] := pure_refsW _ (pureL_map xs)
theorem refsW_fm [PureC g] (xs : List α) : refsW (xs.flatMap g) = [] := pure_refsW _ (pureL_fm xs)
theorem refsW_c [PureC g] (x : α) : refsW (g x) = [] := pure_refsW _ (pureL_at x)
end
attribute [push_cast] inL_nil inL_cons addNew_nil addNew_cons newOf_nil newOf_cons idxL_nil idxL_cons reach_at reachF_nil reachF_9 reachF_8 reachF_7 reachF_6 reachF_5 reachF_4 reachF_3 refsV_ref refsV_fn refsV_agg refsV_int refsV_str refsV_bool refsV_lit refsV_sl refsV_ip refsV_msl refsV_mpr refsV_mp refsL_nil refsL_cons refsW_nil refsW_mp refsW_msl refsW_ref refsW_int refsW_str refsW_bool refsW_lit refsW_sl refsW_ip refsO refsL_map refsL_fm refsL_c refsW_map refsW_fm refsW_c
open Classical in
noncomputable def rselK {α β κ : Type} (e : α → κ) (r : α → β) (d : β) (x : κ) : β := if h : ∃ a, x = e a then r h.choose else d
theorem rselK_at {α β κ : Type} {e : α → κ} (hi : ∀ a b, e a = e b → a = b) (r : α → β) (d : β) (a : α) : rselK e r d (e a) = r a := by
  have h : ∃ b, e a = e b := ⟨a, rfl⟩
  unfold rselK
  rw [dif_pos h, ← hi _ _ h.choose_spec]
def pselK {α κ : Type} (e : α → κ) (p : α → Prop) (x : κ) : Prop := ∃ a, x = e a ∧ p a
theorem pselK_at {α κ : Type} {e : α → κ} (hi : ∀ a b, e a = e b → a = b) (p : α → Prop) (a : α) : pselK e p (e a) = p a :=
  propext ⟨fun ⟨b, h1, h2⟩ => by rw [hi _ _ h1]; exact h2, fun h => ⟨a, rfl, h⟩⟩
noncomputable def heapE {α : Type} (deep : Bool) (e : α → List AV × Heap) (p : α → Prop) (r : α → AV) (h : α → Heap) : FSpec := liftH {
  ids := reach deep
  args := fun xs L => renL (fun j => idxL (reach deep xs L) j) (xs.map (derefG L (reach deep xs L)))
  start := fun xs L => (reach deep xs L).map fun i => renO (fun j => idxL (reach deep xs L) j) (L.getD i .dead)
  pre := fun xs L => pselK e p (xs, L)
  res := fun xs L => rselK e r .any (xs, L)
  post := fun xs L => rselK e h [] (xs, L) }
attribute [push_cast] heapE liftH
theorem heapE_con {P : Program} {Γ : Env} (hΓ : EnvOk P Γ) {f : FuncId} {fn : Func} (hf : P.funcs[f]? = some fn) (hb : fn.body.isNone = false) (hn : (fn.name == "runtime.NumGoroutine") = false) {α : Type} {deep : Bool} {e : α → List AV × Heap} {p : α → Prop} {r : α → AV} {h : α → Heap}
    (hi : ∀ a b, e a = e b → a = b) (hh : ∀ a, p a → BodyOk P Γ fn (e a).1 (e a).2 (r a) (h a)) : Con P f (heapE deep e p r h) := by
  refine Con.liftH_of_body hΓ hf hb hn fun xs L hx => ?_
  obtain ⟨a, ha, hp⟩ := hx
  simp only
  rw [ha, rselK_at hi, rselK_at hi]
  have h1 : xs = (e a).1 := by rw [← ha]
  have h2 : L = (e a).2 := by rw [← ha]
  rw [h1, h2]
  exact hh a hp
end Go.Eng
