/- The engine, part 12: small lemmas for its use. -/
import Derived.Test.YtbnnhffkbcekcaaGreatDoorEng14
import Derived.Test.YtbnnhffkbcekcaaGreatDoorEng13
import Derived.Laws.RangeAny
namespace Go.Eng
open Go
set_option linter.unusedVariables false
set_option linter.unusedSimpArgs false

theorem getD_range (n i : Nat) : (List.range n).getD i i = i := by
  by_cases h : i < n
  · simp [List.getD, h]
  · simp [List.getD, h]

theorem renO_id (o : AObj) : renO (fun i => i) o = o := by
  cases o <;> simp [renO, renL_id]

/-- the heap's first objects stay, what lies behind them is dropped -/
theorem Into.drop {L0 : Heap} {fr : List AV} {L' G : Heap} {fr' : List AV} (h : leF fr fr') (hs : scpL L'.length fr' = true) (ho : L'.all (scpO L'.length) = true) (hn : L0.length ≤ L'.length) : Into L0 fr (L' ++ G) (fr', L') := by
  refine IntoF.base (List.range L'.length) ⟨?_, ?_, List.nodup_range, ?_, hs, ho⟩ hn
  · have : (fun i => (List.range L'.length).getD i i) = fun i => i := by funext i; exact getD_range _ _
    rw [this, renL_id]; exact h
  · have : (fun i => (List.range L'.length).getD i i) = fun i => i := by funext i; exact getD_range _ _
    simp only [this, renO_id]
    apply List.ext_getElem?
    intro i
    simp only [List.getElem?_map]
    by_cases hi : i < L'.length
    · simp only [List.getElem?_range hi, Option.map_some, List.getElem?_append_left hi]
      simp [hi]
    · simp [hi]
  · rw [List.take_range]; congr 1; omega

theorem Into.same {L0 : Heap} {fr : List AV} {L : Heap} {fr' : List AV} (h : leF fr fr') (hs : scpL L.length fr' = true) (ho : L.all (scpO L.length) = true) (hn : L0.length ≤ L.length) : Into L0 fr L (fr', L) := by
  have := Into.drop (G := []) h hs ho hn
  rwa [List.append_nil] at this

theorem Into.keep0 {L0 : Heap} {fr fr' : List AV} {G : Heap} (h : leF fr fr') (hs : scpL 0 fr' = true) (ho : ([] : Heap).all (scpO 0) = true) (hn : L0.length ≤ 0) : Into L0 fr (G) (fr', []) := Into.drop (L' := []) (G := G) h hs ho hn
theorem Into.keep1 {L0 : Heap} {fr fr' : List AV} {G : Heap} {o0 : AObj} (h : leF fr fr') (hs : scpL 1 fr' = true) (ho : [o0].all (scpO 1) = true) (hn : L0.length ≤ 1) : Into L0 fr (o0 :: G) (fr', [o0]) := Into.drop (L' := [o0]) (G := G) h hs ho hn
theorem Into.keep2 {L0 : Heap} {fr fr' : List AV} {G : Heap} {o0 o1 : AObj} (h : leF fr fr') (hs : scpL 2 fr' = true) (ho : [o0, o1].all (scpO 2) = true) (hn : L0.length ≤ 2) : Into L0 fr (o0 :: o1 :: G) (fr', [o0, o1]) := Into.drop (L' := [o0, o1]) (G := G) h hs ho hn
theorem Into.keep3 {L0 : Heap} {fr fr' : List AV} {G : Heap} {o0 o1 o2 : AObj} (h : leF fr fr') (hs : scpL 3 fr' = true) (ho : [o0, o1, o2].all (scpO 3) = true) (hn : L0.length ≤ 3) : Into L0 fr (o0 :: o1 :: o2 :: G) (fr', [o0, o1, o2]) := Into.drop (L' := [o0, o1, o2]) (G := G) h hs ho hn
theorem Into.keep4 {L0 : Heap} {fr fr' : List AV} {G : Heap} {o0 o1 o2 o3 : AObj} (h : leF fr fr') (hs : scpL 4 fr' = true) (ho : [o0, o1, o2, o3].all (scpO 4) = true) (hn : L0.length ≤ 4) : Into L0 fr (o0 :: o1 :: o2 :: o3 :: G) (fr', [o0, o1, o2, o3]) := Into.drop (L' := [o0, o1, o2, o3]) (G := G) h hs ho hn
theorem Into.keep5 {L0 : Heap} {fr fr' : List AV} {G : Heap} {o0 o1 o2 o3 o4 : AObj} (h : leF fr fr') (hs : scpL 5 fr' = true) (ho : [o0, o1, o2, o3, o4].all (scpO 5) = true) (hn : L0.length ≤ 5) : Into L0 fr (o0 :: o1 :: o2 :: o3 :: o4 :: G) (fr', [o0, o1, o2, o3, o4]) := Into.drop (L' := [o0, o1, o2, o3, o4]) (G := G) h hs ho hn
theorem Into.keep6 {L0 : Heap} {fr fr' : List AV} {G : Heap} {o0 o1 o2 o3 o4 o5 : AObj} (h : leF fr fr') (hs : scpL 6 fr' = true) (ho : [o0, o1, o2, o3, o4, o5].all (scpO 6) = true) (hn : L0.length ≤ 6) : Into L0 fr (o0 :: o1 :: o2 :: o3 :: o4 :: o5 :: G) (fr', [o0, o1, o2, o3, o4, o5]) := Into.drop (L' := [o0, o1, o2, o3, o4, o5]) (G := G) h hs ho hn
theorem Into.keep7 {L0 : Heap} {fr fr' : List AV} {G : Heap} {o0 o1 o2 o3 o4 o5 o6 : AObj} (h : leF fr fr') (hs : scpL 7 fr' = true) (ho : [o0, o1, o2, o3, o4, o5, o6].all (scpO 7) = true) (hn : L0.length ≤ 7) : Into L0 fr (o0 :: o1 :: o2 :: o3 :: o4 :: o5 :: o6 :: G) (fr', [o0, o1, o2, o3, o4, o5, o6]) := Into.drop (L' := [o0, o1, o2, o3, o4, o5, o6]) (G := G) h hs ho hn
theorem Into.keep8 {L0 : Heap} {fr fr' : List AV} {G : Heap} {o0 o1 o2 o3 o4 o5 o6 o7 : AObj} (h : leF fr fr') (hs : scpL 8 fr' = true) (ho : [o0, o1, o2, o3, o4, o5, o6, o7].all (scpO 8) = true) (hn : L0.length ≤ 8) : Into L0 fr (o0 :: o1 :: o2 :: o3 :: o4 :: o5 :: o6 :: o7 :: G) (fr', [o0, o1, o2, o3, o4, o5, o6, o7]) := Into.drop (L' := [o0, o1, o2, o3, o4, o5, o6, o7]) (G := G) h hs ho hn
theorem Into.flat {fr fr' : List AV} (h : leF fr fr') (hs : scpL 0 fr' = true) : Into [] fr [] (fr', []) := Into.same h hs rfl (Nat.le_refl _)

theorem Into.one {v res : AV} {G : Heap} (h : v = res) (hs : scp 0 res = true) : Into [] [v] G ([res], []) := Into.drop (L' := []) (G := G) (by subst h; exact leF_refl _) (by simp [scpL, hs]) rfl (Nat.le_refl _)

theorem byte_imp {p q : UInt8 → Bool} (h : (List.range 256).all (fun n => !(p (UInt8.ofNat n)) || q (UInt8.ofNat n)) = true) (c : UInt8) : p c = true → q c = true := by
  intro hp
  have := List.all_eq_true.1 h c.toNat (List.mem_range.2 c.toNat_lt)
  rw [UInt8.ofNat_toNat, hp] at this
  simpa using this
theorem byte_eq {α : Type} [BEq α] [LawfulBEq α] {p q : UInt8 → α} (h : (List.range 256).all (fun n => p (UInt8.ofNat n) == q (UInt8.ofNat n)) = true) (c : UInt8) : p c = q c := by
  have := List.all_eq_true.1 h c.toNat (List.mem_range.2 c.toNat_lt)
  rw [UInt8.ofNat_toNat] at this
  exact eq_of_beq this

theorem wrap_i64 (n : Int) (h : -9223372036854775808 ≤ n ∧ n ≤ 9223372036854775807) : IntKind.i64.wrap n = n := IntWalk.i64_in n h

/-- all that a world's cells hold, as memory that is only read -/
def pinW (w : World) : Mem := ⟨fun g => w.heap[g]?, fun _ => 0, fun _ => 0⟩
theorem pinW_pin (w : World) (g : Nat) (o : Obj) (h : (pinW w).pobj g = some o) : w.heap[g]? = some o := h
theorem rel_nil (w : World) : VRel (pinW w) [] (.sl [] 0) (.slice none 0 0) := by
  simp only [VRel]
  exact ⟨none, 0, rfl, Nat.le_refl _, [], CRel.nil _ _, .inl rfl⟩
/-- a slice of one-cell elements that came in -/
theorem rel_slice (w : World) (x : Addr) (len cap : Nat) (us : List Value) (cs : List AV) (hl : len ≤ cap) (hcr : CRel (pinW w) [] cs us) (hcell : ∀ i v, us[i]? = some v → w.cell? (x.add i) = some v) : VRel (pinW w) [] (.sl cs len) (.slice (some x) len cap) := by
  simp only [VRel]
  refine ⟨some x, cap, rfl, hl, us, hcr, ?_⟩
  cases us with
  | nil => exact .inl rfl
  | cons u us =>
    have h0 := hcell 0 u (by simp)
    obtain ⟨b, off, spot⟩ := x
    have hs : spot = none := by simpa [Addr.add] using World.cell?_spot h0
    subst hs
    exact .inr ⟨b, off, rfl, fun i v hi => by
      have := hcell i v hi
      refine Mem.pin_heap rfl ?_
      rw [← this]; congr 1; simp only [Addr.add]; split <;> simp_all⟩
theorem crel_strs (m : Mem) (L : Heap) : ∀ ss : List ByteArray, CRel m L ((ss.map (·.data.toList)).map .str) (ss.map .string)
  | [] => CRel.nil _ _
  | s :: ss => CRel.cons (by simp [VRel]) (crel_strs m L ss)

/-- an environment, one function more -/
def addE (Γ : Env) (f : FuncId) (sp : FSpec) : Env := fun g => if g = f then some sp else Γ g
def noE : Env := fun _ => none
theorem noE_ok (P : Program) : EnvOk P noE := fun _ _ h => by cases h
theorem EnvOk.add {P : Program} {Γ : Env} {f : FuncId} {sp : FSpec} (h : EnvOk P Γ) (hc : Con P f sp) : EnvOk P (addE Γ f sp) := by
  intro g s hs
  unfold addE at hs
  split at hs
  · rename_i e; subst e; obtain rfl := Option.some.inj hs; exact hc
  · exact h g s hs

theorem scpL_str (n : Nat) : ∀ ss : List (List UInt8), scpL n (ss.map .str) = true
  | [] => rfl
  | s :: ss => by simp only [List.map_cons, scpL, scp, scpL_str n ss, Bool.and_self]
theorem drop_str {ss : List (List UInt8)} {k : Nat} (h : k < ss.length) {d : AV} : ((ss.map AV.str).drop k).getD 0 d = .str (ss.getD k []) := by
  simp [List.getD, List.getElem?_drop, h]
theorem renL_closed (ρ : Nat → Nat) (ss : List (List UInt8)) : renL ρ (ss.map .str) = ss.map .str := by
  induction ss with
  | nil => rfl
  | cons s ss ih => simp only [List.map_cons, renL, ren, ih]
theorem pinfreeL_str : ∀ ss : List (List UInt8), pinfreeL (ss.map .str) = true
  | [] => rfl
  | s :: ss => by simp only [List.map_cons, pinfreeL, pinfree, pinfreeL_str ss, Bool.and_self]
theorem oneCells_str : ∀ ss : List (List UInt8), oneCells (ss.map .str) = true
  | [] => rfl
  | s :: ss => by simp only [List.map_cons, oneCells, oneCells_str ss]

theorem takeWhile_at {α : Type} (p : α → Bool) (d : α) : ∀ (l : List α) (k : Nat), k ≤ l.length → (∀ j, j < k → p (l.getD j d) = true) → (k = l.length ∨ p (l.getD k d) = false) → l.takeWhile p = l.take k
  | [], k, _, _, _ => by simp
  | c :: l, 0, _, _, hs => by
    rcases hs with hs | hs
    · simp at hs
    · simp at hs; simp [List.takeWhile_cons, hs]
  | c :: l, k + 1, hk, h, hs => by
    have h0 := h 0 (by omega)
    simp only [List.getD_cons_zero] at h0
    rw [List.takeWhile_cons, h0, List.take_succ_cons, takeWhile_at p d l k (by simpa using hk) (fun j hj => by simpa using h (j + 1) (by omega)) (by simpa using hs)]
    rfl

theorem rune_lo {l : List UInt8} {k : Nat} (h : k < l.length) (ha : (l.getD k 0).toNat < 128) : runeAt l k = ((l.getD k 0).toNat, 1) := by
  have e : l.getD k 0 = l[k] := by simp [List.getD, h]
  rw [e] at ha ⊢
  exact decode_ascii ⟨l.toArray⟩ k (by simpa [ByteArray.size] using h) (by show (l.toArray[k]).toNat < 128; simpa using ha)
theorem rune_hi {l : List UInt8} {k : Nat} (h : k < l.length) (ha : 128 ≤ (l.getD k 0).toNat) : 128 ≤ (runeAt l k).1 := by
  have e : l.getD k 0 = l[k] := by simp [List.getD, h]
  rw [e] at ha
  exact (decode_high ⟨l.toArray⟩ k (by simpa [ByteArray.size] using h) (by show 128 ≤ (l.toArray[k]).toNat; simpa using ha)).1

theorem forall_true (p : Prop) : (true = true → p) = p := by simp
theorem forall_false (p : Prop) : (false = true → p) = True := by simp

theorem need_any (c : Bool) : need c (.any) = True := eq_true fun _ => rfl
theorem need_int (c : Bool) (k : IntKind) (n : Int) : need c (.int k n) = True := eq_true fun _ => rfl
theorem need_bool (c : Bool) (b : Bool) : need c (.bool b) = True := eq_true fun _ => rfl
theorem need_str (c : Bool) (l : List UInt8) : need c (.str l) = True := eq_true fun _ => rfl
theorem need_lit (c : Bool) (v : Value) : need c (.lit v) = True := eq_true fun _ => rfl
theorem need_agg (c : Bool) (cs : List AV) : need c (.agg cs) = True := eq_true fun _ => rfl
theorem need_tup (c : Bool) (vs : List AV) : need c (.tup vs) = True := eq_true fun _ => rfl
theorem need_sl (c : Bool) (cs : List AV) (n : Nat) : need c (.sl cs n) = True := eq_true fun _ => rfl
theorem need_msl (c : Bool) (a b d e : Nat) : need c (.msl a b d e) = True := eq_true fun _ => rfl
theorem need_ref (c : Bool) (a b d : Nat) : need c (.ref a b d) = True := eq_true fun _ => rfl
theorem need_ip (c : Bool) (cs : List AV) : need c (.ip cs) = True := eq_true fun _ => rfl
theorem need_fn (c : Bool) (f : Fn) (a b : List AV) : need c (.fn f a b) = True := eq_true fun _ => rfl
theorem need_ifc (c : Bool) (t : TypeId) (x : AV) : need c (.ifc t x) = True := eq_true fun _ => rfl
theorem need_alt (c : Bool) (b : Bool) (x y : AV) : need c (.alt b x y) = True := eq_true fun _ => rfl

theorem exU_split {E : List It → Prop} {p q : Prop} {t1 t2 : List It} (h1 : p → E t1) (h2 : q → E t2) : exU E p q t1 t2 := ⟨h1, h2⟩
theorem need_ub (c : Bool) (p q : Prop) : need c (.ub p q) = True := eq_true fun _ => rfl
theorem need_csl (c : Bool) (a b d e : Nat) : need c (.csl a b d e) = True := eq_true fun _ => rfl
theorem need_mpr (c : Bool) (k : Option IntKind) (f : Key → Option Value) : need c (.mpr k f) = True := eq_true fun _ => rfl
theorem need_mp (c : Bool) (i : Nat) : need c (.mp i) = True := eq_true fun _ => rfl
theorem scpL_bytes (n : Nat) (l : List UInt8) : scpL n (l.map byteAV) = true := by rw [scpL_iff]; simp [List.all_eq_true, byteAV, scp]
theorem renL_bytes (ρ : Nat → Nat) (l : List UInt8) : renL ρ (l.map byteAV) = l.map byteAV := by rw [renL_eq]; simp [byteAV, ren]
theorem pinfreeL_bytes (l : List UInt8) : pinfreeL (l.map byteAV) = true := by induction l <;> simp_all [pinfreeL, byteAV, pinfree]
theorem oneCells_bytes (l : List UInt8) : oneCells (l.map byteAV) = true := by induction l <;> simp_all [oneCells, byteAV]

theorem verL_str (L : Heap) (id v' : Nat) (ss : List (List UInt8)) : verL L id v' (ss.map .str) = ss.map .str := by induction ss <;> simp_all [verL, verV]
theorem verL_bytes (L : Heap) (id v' : Nat) (l : List UInt8) : verL L id v' (l.map byteAV) = l.map byteAV := by induction l <;> simp_all [verL, verV, byteAV]
theorem frzL_str (L : Heap) (id : Nat) (ss : List (List UInt8)) : frzL L id (ss.map .str) = ss.map .str := by induction ss <;> simp_all [frzL, frzV]
theorem frzL_bytes (L : Heap) (id : Nat) (l : List UInt8) : frzL L id (l.map byteAV) = l.map byteAV := by induction l <;> simp_all [frzL, frzV, byteAV]
theorem verL_append (L : Heap) (id v' : Nat) (xs ys : List AV) : verL L id v' (xs ++ ys) = verL L id v' xs ++ verL L id v' ys := by induction xs <;> simp_all [verL]
theorem frzL_append (L : Heap) (id : Nat) (xs ys : List AV) : frzL L id (xs ++ ys) = frzL L id xs ++ frzL L id ys := by induction xs <;> simp_all [frzL]
theorem renL_append (ρ : Nat → Nat) (xs ys : List AV) : renL ρ (xs ++ ys) = renL ρ xs ++ renL ρ ys := by induction xs <;> simp_all [renL]
theorem scpL_append (n : Nat) (xs ys : List AV) : scpL n (xs ++ ys) = (scpL n xs && scpL n ys) := by induction xs <;> simp_all [scpL, Bool.and_assoc]
theorem pinfreeL_append (xs ys : List AV) : pinfreeL (xs ++ ys) = (pinfreeL xs && pinfreeL ys) := by induction xs <;> simp_all [pinfreeL, Bool.and_assoc]
theorem unbytes_append (xs ys : List AV) : unbytes (xs ++ ys) = unbytes xs ++ unbytes ys := by simp [unbytes]
theorem allBytes_append (xs ys : List AV) : allBytes (xs ++ ys) = (allBytes xs && allBytes ys) := by simp [allBytes]
/-- a value that leads to no own row and rests on no memory -/
def flat : AV → Bool
  | .int .. => true
  | .bool _ => true
  | .str _ => true
  | _ => false
theorem flat_cases {x : AV} (h : flat x = true) : (∃ k n, x = .int k n) ∨ (∃ b, x = .bool b) ∨ (∃ l, x = .str l) := by
  cases x <;> simp_all [flat]
theorem flat_scp {xs : List AV} (h : xs.all flat = true) (n : Nat) : scpL n xs = true := by
  rw [scpL_iff]; rw [List.all_eq_true] at *; intro x hx
  rcases flat_cases (h x hx) with ⟨_, _, rfl⟩ | ⟨_, rfl⟩ | ⟨_, rfl⟩ <;> rfl
theorem flat_ren {xs : List AV} (h : xs.all flat = true) (ρ : Nat → Nat) : renL ρ xs = xs := by
  rw [renL_eq]; rw [List.all_eq_true] at h
  conv => rhs; rw [← List.map_id xs]
  refine List.map_congr_left fun x hx => ?_
  rcases flat_cases (h x hx) with ⟨_, _, rfl⟩ | ⟨_, rfl⟩ | ⟨_, rfl⟩ <;> rfl
theorem flat_ver {xs : List AV} (h : xs.all flat = true) (L : Heap) (id v' : Nat) : verL L id v' xs = xs := by
  induction xs with
  | nil => rfl
  | cons x xs ih =>
    rw [List.all_cons, Bool.and_eq_true] at h
    simp only [verL, ih h.2]
    rcases flat_cases h.1 with ⟨_, _, rfl⟩ | ⟨_, rfl⟩ | ⟨_, rfl⟩ <;> rfl
theorem flat_frz {xs : List AV} (h : xs.all flat = true) (L : Heap) (id : Nat) : frzL L id xs = xs := by
  induction xs with
  | nil => rfl
  | cons x xs ih =>
    rw [List.all_cons, Bool.and_eq_true] at h
    simp only [frzL, ih h.2]
    rcases flat_cases h.1 with ⟨_, _, rfl⟩ | ⟨_, rfl⟩ | ⟨_, rfl⟩ <;> rfl
theorem flat_pinfree {xs : List AV} (h : xs.all flat = true) : pinfreeL xs = true := by
  induction xs with
  | nil => rfl
  | cons x xs ih =>
    rw [List.all_cons, Bool.and_eq_true] at h
    simp only [pinfreeL, ih h.2, Bool.and_true]
    rcases flat_cases h.1 with ⟨_, _, rfl⟩ | ⟨_, rfl⟩ | ⟨_, rfl⟩ <;> rfl
theorem flat_one {xs : List AV} (h : xs.all flat = true) : oneCells xs = true := by
  induction xs with
  | nil => rfl
  | cons x xs ih =>
    rw [List.all_cons, Bool.and_eq_true] at h
    have := ih h.2
    rcases flat_cases h.1 with ⟨_, _, rfl⟩ | ⟨_, rfl⟩ | ⟨_, rfl⟩ <;> simpa [oneCells] using this
theorem flat_deref {xs : List AV} (h : xs.all flat = true) (L : Heap) (keep : Nat → Bool) (sub : AV → AV) : xs.map (derefC L keep sub) = xs := by
  rw [List.all_eq_true] at h
  conv => rhs; rw [← List.map_id xs]
  refine List.map_congr_left fun x hx => ?_
  rcases flat_cases (h x hx) with ⟨_, _, rfl⟩ | ⟨_, rfl⟩ | ⟨_, rfl⟩ <;> rfl
theorem flat_lent {xs : List AV} (h : xs.all flat = true) (L : Heap) (keep : Nat → Bool) (sub : AV → Prop) : (∀ x ∈ xs, lentC L keep sub x) = True := by
  rw [List.all_eq_true] at h
  refine eq_true fun x hx => ?_
  rcases flat_cases (h x hx) with ⟨_, _, rfl⟩ | ⟨_, rfl⟩ | ⟨_, rfl⟩ <;> trivial
theorem flat_str (ss : List (List UInt8)) : (ss.map AV.str).all flat = true := by simp [flat]
theorem flat_bytes (l : List UInt8) : (l.map byteAV).all flat = true := by simp [flat, byteAV]
theorem flat_take {xs : List AV} (h : xs.all flat = true) (n : Nat) : (xs.take n).all flat = true := by
  rw [List.all_eq_true] at *; exact fun x hx => h x (List.mem_of_mem_take hx)
theorem flat_drop {xs : List AV} (h : xs.all flat = true) (n : Nat) : (xs.drop n).all flat = true := by
  rw [List.all_eq_true] at *; exact fun x hx => h x (List.mem_of_mem_drop hx)

/-! values that lead to no own row: nothing is read anew -/
theorem dC_any (L : Heap) (keep : Nat → Bool) (sub : AV → AV)  : derefC L keep sub (.any) = .any := rfl
theorem lC_any (L : Heap) (keep : Nat → Bool) (sub : AV → Prop)  : lentC L keep sub (.any) = True := rfl
theorem bC_any (L : Heap) (keep : Nat → Bool) (sub : AV → Bool)  : borC L keep sub (.any) = false := rfl
theorem dC_int (L : Heap) (keep : Nat → Bool) (sub : AV → AV) (k : IntKind) (n : Int) : derefC L keep sub (.int k n) = .int k n := rfl
theorem lC_int (L : Heap) (keep : Nat → Bool) (sub : AV → Prop) (k : IntKind) (n : Int) : lentC L keep sub (.int k n) = True := rfl
theorem bC_int (L : Heap) (keep : Nat → Bool) (sub : AV → Bool) (k : IntKind) (n : Int) : borC L keep sub (.int k n) = false := rfl
theorem dC_bool (L : Heap) (keep : Nat → Bool) (sub : AV → AV) (b : Bool) : derefC L keep sub (.bool b) = .bool b := rfl
theorem lC_bool (L : Heap) (keep : Nat → Bool) (sub : AV → Prop) (b : Bool) : lentC L keep sub (.bool b) = True := rfl
theorem bC_bool (L : Heap) (keep : Nat → Bool) (sub : AV → Bool) (b : Bool) : borC L keep sub (.bool b) = false := rfl
theorem dC_str (L : Heap) (keep : Nat → Bool) (sub : AV → AV) (l : List UInt8) : derefC L keep sub (.str l) = .str l := rfl
theorem lC_str (L : Heap) (keep : Nat → Bool) (sub : AV → Prop) (l : List UInt8) : lentC L keep sub (.str l) = True := rfl
theorem bC_str (L : Heap) (keep : Nat → Bool) (sub : AV → Bool) (l : List UInt8) : borC L keep sub (.str l) = false := rfl
theorem dC_lit (L : Heap) (keep : Nat → Bool) (sub : AV → AV) (v : Value) : derefC L keep sub (.lit v) = .lit v := rfl
theorem lC_lit (L : Heap) (keep : Nat → Bool) (sub : AV → Prop) (v : Value) : lentC L keep sub (.lit v) = True := rfl
theorem bC_lit (L : Heap) (keep : Nat → Bool) (sub : AV → Bool) (v : Value) : borC L keep sub (.lit v) = false := rfl
theorem dC_tup (L : Heap) (keep : Nat → Bool) (sub : AV → AV) (vs : List AV) : derefC L keep sub (.tup vs) = .tup vs := rfl
theorem lC_tup (L : Heap) (keep : Nat → Bool) (sub : AV → Prop) (vs : List AV) : lentC L keep sub (.tup vs) = True := rfl
theorem bC_tup (L : Heap) (keep : Nat → Bool) (sub : AV → Bool) (vs : List AV) : borC L keep sub (.tup vs) = false := rfl
theorem dC_sl (L : Heap) (keep : Nat → Bool) (sub : AV → AV) (cs : List AV) (n : Nat) : derefC L keep sub (.sl cs n) = .sl cs n := rfl
theorem lC_sl (L : Heap) (keep : Nat → Bool) (sub : AV → Prop) (cs : List AV) (n : Nat) : lentC L keep sub (.sl cs n) = True := rfl
theorem bC_sl (L : Heap) (keep : Nat → Bool) (sub : AV → Bool) (cs : List AV) (n : Nat) : borC L keep sub (.sl cs n) = false := rfl
theorem dC_ip (L : Heap) (keep : Nat → Bool) (sub : AV → AV) (cs : List AV) : derefC L keep sub (.ip cs) = .ip cs := rfl
theorem lC_ip (L : Heap) (keep : Nat → Bool) (sub : AV → Prop) (cs : List AV) : lentC L keep sub (.ip cs) = True := rfl
theorem bC_ip (L : Heap) (keep : Nat → Bool) (sub : AV → Bool) (cs : List AV) : borC L keep sub (.ip cs) = false := rfl
theorem dC_when (L : Heap) (keep : Nat → Bool) (sub : AV → AV) (c : Bool) (x : AV) : derefC L keep sub (.when c x) = .when c x := rfl
theorem lC_when (L : Heap) (keep : Nat → Bool) (sub : AV → Prop) (c : Bool) (x : AV) : lentC L keep sub (.when c x) = True := rfl
theorem bC_when (L : Heap) (keep : Nat → Bool) (sub : AV → Bool) (c : Bool) (x : AV) : borC L keep sub (.when c x) = false := rfl
theorem dC_alt (L : Heap) (keep : Nat → Bool) (sub : AV → AV) (c : Bool) (x y : AV) : derefC L keep sub (.alt c x y) = .alt c x y := rfl
theorem lC_alt (L : Heap) (keep : Nat → Bool) (sub : AV → Prop) (c : Bool) (x y : AV) : lentC L keep sub (.alt c x y) = True := rfl
theorem bC_alt (L : Heap) (keep : Nat → Bool) (sub : AV → Bool) (c : Bool) (x y : AV) : borC L keep sub (.alt c x y) = false := rfl
theorem dC_ub (L : Heap) (keep : Nat → Bool) (sub : AV → AV) (p q : Prop) : derefC L keep sub (.ub p q) = .ub p q := rfl
theorem lC_ub (L : Heap) (keep : Nat → Bool) (sub : AV → Prop) (p q : Prop) : lentC L keep sub (.ub p q) = True := rfl
theorem bC_ub (L : Heap) (keep : Nat → Bool) (sub : AV → Bool) (p q : Prop) : borC L keep sub (.ub p q) = false := rfl
theorem dC_mp (L : Heap) (keep : Nat → Bool) (sub : AV → AV) (i : Nat) : derefC L keep sub (.mp i) = cond (keep i) (.mp i) (match L[i]? with | some (.raw (.map kd f)) => .mpr kd f | _ => .mp i) := rfl
theorem dC_mpr (L : Heap) (keep : Nat → Bool) (sub : AV → AV) (k : Option IntKind) (f : Key → Option Value) : derefC L keep sub (.mpr k f) = .mpr k f := rfl
theorem lC_mpr (L : Heap) (keep : Nat → Bool) (sub : AV → Prop) (k : Option IntKind) (f : Key → Option Value) : lentC L keep sub (.mpr k f) = True := rfl
theorem bC_mpr (L : Heap) (keep : Nat → Bool) (sub : AV → Bool) (k : Option IntKind) (f : Key → Option Value) : borC L keep sub (.mpr k f) = false := rfl
theorem lC_mp (L : Heap) (keep : Nat → Bool) (sub : AV → Prop) (i : Nat) : lentC L keep sub (.mp i) = True := rfl
theorem bC_mp (L : Heap) (keep : Nat → Bool) (sub : AV → Bool) (i : Nat) : borC L keep sub (.mp i) = !keep i := rfl
theorem dC_agg (L : Heap) (keep : Nat → Bool) (sub : AV → AV) (cs : List AV) : derefC L keep sub (.agg cs) = .agg (cs.map sub) := rfl
theorem lC_agg (L : Heap) (keep : Nat → Bool) (sub : AV → Prop) (cs : List AV) : lentC L keep sub (.agg cs) = (∀ x ∈ cs, sub x) := rfl
theorem bC_agg (L : Heap) (keep : Nat → Bool) (sub : AV → Bool) (cs : List AV) : borC L keep sub (.agg cs) = cs.any sub := rfl
theorem dC_ifc (L : Heap) (keep : Nat → Bool) (sub : AV → AV) (t : TypeId) (x : AV) : derefC L keep sub (.ifc t x) = .ifc t (sub x) := rfl
theorem lC_ifc (L : Heap) (keep : Nat → Bool) (sub : AV → Prop) (t : TypeId) (x : AV) : lentC L keep sub (.ifc t x) = sub x := rfl
theorem bC_ifc (L : Heap) (keep : Nat → Bool) (sub : AV → Bool) (t : TypeId) (x : AV) : borC L keep sub (.ifc t x) = sub x := rfl
theorem dC_fn (L : Heap) (keep : Nat → Bool) (sub : AV → AV) (f : Fn) (a b : List AV) : derefC L keep sub (.fn f a b) = .fn f (a.map sub) (b.map sub) := rfl
theorem lC_fn (L : Heap) (keep : Nat → Bool) (sub : AV → Prop) (f : Fn) (a b : List AV) : lentC L keep sub (.fn f a b) = ((∀ x ∈ a, sub x) ∧ ∀ x ∈ b, sub x) := rfl
theorem bC_fn (L : Heap) (keep : Nat → Bool) (sub : AV → Bool) (f : Fn) (a b : List AV) : borC L keep sub (.fn f a b) = (a.any sub || b.any sub) := rfl
theorem dC_msl (L : Heap) (keep : Nat → Bool) (sub : AV → AV) (id ver off n : Nat) : derefC L keep sub (.msl id ver off n) = cond (keep id) (.msl id ver off n) (.sl ((((rowOf L id).drop (off * szOf L id)).take (n * szOf L id)).map sub) n) := rfl
theorem lC_msl (L : Heap) (keep : Nat → Bool) (sub : AV → Prop) (id ver off n : Nat) : lentC L keep sub (.msl id ver off n) = cond (keep id) True (fresh L id ver ∧ ∀ x ∈ ((rowOf L id).drop (off * szOf L id)).take (n * szOf L id), sub x) := rfl
theorem bC_msl (L : Heap) (keep : Nat → Bool) (sub : AV → Bool) (id ver off n : Nat) : borC L keep sub (.msl id ver off n) = !keep id := rfl
theorem dC_csl (L : Heap) (keep : Nat → Bool) (sub : AV → AV) (id ver off n : Nat) : derefC L keep sub (.csl id ver off n) = cond (keep id) (.csl id ver off n) (.sl ((((rowOf L id).drop (off * szOf L id)).take (n * szOf L id)).map sub) n) := rfl
theorem lC_csl (L : Heap) (keep : Nat → Bool) (sub : AV → Prop) (id ver off n : Nat) : lentC L keep sub (.csl id ver off n) = cond (keep id) True (fresh L id ver ∧ ∀ x ∈ ((rowOf L id).drop (off * szOf L id)).take (n * szOf L id), sub x) := rfl
theorem bC_csl (L : Heap) (keep : Nat → Bool) (sub : AV → Bool) (id ver off n : Nat) : borC L keep sub (.csl id ver off n) = !keep id := rfl
theorem dC_ref (L : Heap) (keep : Nat → Bool) (sub : AV → AV) (id ver off : Nat) : derefC L keep sub (.ref id ver off) = cond (keep id || !isRow L id) (.ref id ver off) (.ip (((rowOf L id).drop off).map sub)) := rfl
theorem lC_ref (L : Heap) (keep : Nat → Bool) (sub : AV → Prop) (id ver off : Nat) : lentC L keep sub (.ref id ver off) = cond (keep id || !isRow L id) True (fresh L id ver ∧ ∀ x ∈ (rowOf L id).drop off, sub x) := rfl
theorem bC_ref (L : Heap) (keep : Nat → Bool) (sub : AV → Bool) (id ver off : Nat) : borC L keep sub (.ref id ver off) = !(keep id || !isRow L id) := rfl
theorem d1_at (L : Heap) (k : Nat → Bool) (x : AV) : d1 L k x = derefC L k deref0 x := rfl
theorem l1_at (L : Heap) (k : Nat → Bool) (x : AV) : l1 L k x = lentC L k lent0 x := rfl
theorem b1_at (L : Heap) (k : Nat → Bool) (x : AV) : b1 L k x = borC L k bor0 x := rfl
theorem d2_at (L : Heap) (k : Nat → Bool) (x : AV) : d2 L k x = derefC L k (d1 L k) x := rfl
theorem l2_at (L : Heap) (k : Nat → Bool) (x : AV) : l2 L k x = lentC L k (l1 L k) x := rfl
theorem b2_at (L : Heap) (k : Nat → Bool) (x : AV) : b2 L k x = borC L k (b1 L k) x := rfl
theorem d3_at (L : Heap) (k : Nat → Bool) (x : AV) : d3 L k x = derefC L k (d2 L k) x := rfl
theorem l3_at (L : Heap) (k : Nat → Bool) (x : AV) : l3 L k x = lentC L k (l2 L k) x := rfl
theorem b3_at (L : Heap) (k : Nat → Bool) (x : AV) : b3 L k x = borC L k (b2 L k) x := rfl
theorem d0_at (x : AV) : deref0 x = x := rfl
theorem l0_at (x : AV) : lent0 x = True := rfl
theorem b0_at (x : AV) : bor0 x = false := rfl
theorem dA_at (L : Heap) (x : AV) : derefA L x = derefC L keep0 (d3 L keep0) x := rfl
theorem lA_at (L : Heap) (x : AV) : lent L x = lentC L keep0 (l3 L keep0) x := rfl
theorem bA_at (L : Heap) (x : AV) : isMsl L x = borC L keep0 (b3 L keep0) x := rfl
theorem dG_at (L : Heap) (ids : List Nat) (x : AV) : derefG L ids x = derefC L (keepG ids) (d3 L (keepG ids)) x := rfl
theorem lG_at (L : Heap) (ids : List Nat) (x : AV) : lentG L ids x = lentC L (keepG ids) (l3 L (keepG ids)) x := rfl
theorem bG_at (L : Heap) (ids : List Nat) (x : AV) : isMslG L ids x = borC L (keepG ids) (b3 L (keepG ids)) x := rfl
theorem k0_at (i : Nat) : keep0 i = false := rfl
theorem kG_at (ids : List Nat) (i : Nat) : keepG ids i = ids.contains i := rfl
theorem map_d0 (xs : List AV) : xs.map deref0 = xs := List.map_id xs
theorem d1_str (L : Heap) (k : Nat → Bool) (ss : List (List UInt8)) : (ss.map AV.str).map (d1 L k) = ss.map AV.str := flat_deref (flat_str ss) _ _ _
theorem l1_str (L : Heap) (k : Nat → Bool) (ss : List (List UInt8)) : (∀ x ∈ ss.map AV.str, l1 L k x) = True := flat_lent (flat_str ss) _ _ _
theorem d2_str (L : Heap) (k : Nat → Bool) (ss : List (List UInt8)) : (ss.map AV.str).map (d2 L k) = ss.map AV.str := flat_deref (flat_str ss) _ _ _
theorem l2_str (L : Heap) (k : Nat → Bool) (ss : List (List UInt8)) : (∀ x ∈ ss.map AV.str, l2 L k x) = True := flat_lent (flat_str ss) _ _ _
theorem d3_str (L : Heap) (k : Nat → Bool) (ss : List (List UInt8)) : (ss.map AV.str).map (d3 L k) = ss.map AV.str := flat_deref (flat_str ss) _ _ _
theorem l3_str (L : Heap) (k : Nat → Bool) (ss : List (List UInt8)) : (∀ x ∈ ss.map AV.str, l3 L k x) = True := flat_lent (flat_str ss) _ _ _
theorem d1_bytes (L : Heap) (k : Nat → Bool) (l : List UInt8) : (l.map byteAV).map (d1 L k) = l.map byteAV := flat_deref (flat_bytes l) _ _ _
theorem l1_bytes (L : Heap) (k : Nat → Bool) (l : List UInt8) : (∀ x ∈ l.map byteAV, l1 L k x) = True := flat_lent (flat_bytes l) _ _ _
theorem d2_bytes (L : Heap) (k : Nat → Bool) (l : List UInt8) : (l.map byteAV).map (d2 L k) = l.map byteAV := flat_deref (flat_bytes l) _ _ _
theorem l2_bytes (L : Heap) (k : Nat → Bool) (l : List UInt8) : (∀ x ∈ l.map byteAV, l2 L k x) = True := flat_lent (flat_bytes l) _ _ _
theorem d3_bytes (L : Heap) (k : Nat → Bool) (l : List UInt8) : (l.map byteAV).map (d3 L k) = l.map byteAV := flat_deref (flat_bytes l) _ _ _
theorem l3_bytes (L : Heap) (k : Nat → Bool) (l : List UInt8) : (∀ x ∈ l.map byteAV, l3 L k x) = True := flat_lent (flat_bytes l) _ _ _
theorem getD_8 (x0 x1 x2 x3 x4 x5 x6 x7 : AV) (l : List AV) (n : Nat) (d : AV) : (x0 :: x1 :: x2 :: x3 :: x4 :: x5 :: x6 :: x7 :: l).getD (n + 8) d = l.getD n d := rfl
theorem set_8 (x0 x1 x2 x3 x4 x5 x6 x7 : AV) (l : List AV) (n : Nat) (d : AV) : (x0 :: x1 :: x2 :: x3 :: x4 :: x5 :: x6 :: x7 :: l).set (n + 8) d = x0 :: x1 :: x2 :: x3 :: x4 :: x5 :: x6 :: x7 :: l.set n d := rfl
attribute [push_cast high] getD_8 set_8
attribute [push_cast] lkT tyB dC_any lC_any bC_any dC_int lC_int bC_int dC_bool lC_bool bC_bool dC_str lC_str bC_str dC_lit lC_lit bC_lit dC_tup lC_tup bC_tup dC_sl lC_sl bC_sl dC_ip lC_ip bC_ip dC_when lC_when bC_when dC_alt lC_alt bC_alt dC_ub lC_ub bC_ub lC_mp dC_mp bC_mp dC_mpr lC_mpr bC_mpr need_mpr dC_agg lC_agg bC_agg dC_ifc lC_ifc bC_ifc dC_fn lC_fn bC_fn dC_msl lC_msl bC_msl dC_csl lC_csl bC_csl dC_ref lC_ref bC_ref d1_at l1_at b1_at d2_at l2_at b2_at d3_at l3_at b3_at d0_at l0_at b0_at dA_at lA_at bA_at dG_at lG_at bG_at k0_at kG_at map_d0 d1_str l1_str d2_str l2_str d3_str l3_str d1_bytes l1_bytes d2_bytes l2_bytes d3_bytes l3_bytes keyOfA pureV pureVs storeV fieldsOk makeMapR mapPutR mapDelR lookR Key.kd exists_eq_left' List.all_cons List.all_nil List.nodup_cons List.nodup_nil scpO unbytes_map allBytes_map verL_str verL_bytes frzL_str frzL_bytes verL_append frzL_append renL_append scpL_append pinfreeL_append unbytes_append allBytes_append verV verL verO verH need_ub need_csl need_mp scpL_bytes renL_bytes pinfreeL_bytes oneCells_bytes nilR eqAgg eqFs eqOne fits isConst exU minR liftG rhoG putAll placeG derefG isMslG lentG evQ Nat.mul_one Nat.one_mul Nat.zero_mul Nat.mul_zero List.length_map List.length_drop List.length_take List.length_append scpL_str renL_closed pinfreeL_str oneCells_str exB_true exB_false evD qob_fix qob_ext frzV frzL frzH frzO List.contains_nil List.contains_cons List.set_nil lift0 scpL scp pinfreeT pinfreeL pinfree pinfreeO ren renL renO FinS resAll resR resV ex evOps stepA lentB srcUse roSliceR List.any_cons List.any_nil Bool.or_true stepR callR ev opd ofV ofCell guardOk guardC mkV putA needAll needO optB AV.cond AV.bare AV.cells need_any need_int need_bool need_str need_lit need_agg need_tup need_sl need_msl need_ref need_ip need_fn need_ifc need_alt need_same need_and need_true need_false pickR pickV pk_and pk_or binR intR strR unR convR lenR indexR indexAddrR loadR storeR allocR boxR buildR buildSliceR fieldR fieldAddrR extractR boundV sliceR arrPtrR copyR appR zerosR srcCells srcOk srcLen appendR rangeR nextR makeSliceR nilCheckR builtinR partsA Rz.also bad hasBlk popTo rowOf szOf verOf isRow fresh headV headOk setRow splice oneCells inits placesOf fillA reps elemIsByte List.getD_cons_zero List.getD_cons_succ List.set_cons_zero List.set_cons_succ List.getElem?_cons_zero List.getElem?_cons_succ List.length_cons List.length_nil List.replicate List.cons_append List.nil_append List.append_nil List.map_cons List.map_nil List.toList_toArray Option.bind_some Option.bind_none Option.map_some Option.map_none List.flatten_cons List.flatten_nil List.take_zero List.take_succ_cons List.drop_zero List.drop_succ_cons List.take_nil List.drop_nil List.getElem?_nil List.size_toArray List.getElem?_toArray true_and and_true ne_eq not_true_eq_false not_false_eq_true imp_self implies_true forall_const Bool.false_eq_true Bool.true_eq_false false_implies if_true if_false decide_true decide_false Bool.not_true Bool.not_false Bool.true_and Bool.and_true Bool.false_and Bool.and_false Bool.or_true Bool.true_or Bool.or_false Bool.false_or beq_self_eq_true List.not_mem_nil List.mem_cons or_false forall_eq forall_eq_or_imp List.any_cons List.any_nil beq_true beq_false Option.isSome_some Option.isSome_none Option.some.injEq eq_self TypeDesc.int.injEq exists_eq' exists_eq exists_eq_left and_self Option.isNone_some Option.isNone_none TypeDesc.slice.injEq Nat.add_zero Nat.zero_add Int.toNat_natCast false_or true_or or_self false_and and_false cond_true cond_false Bool.cond_self pickV_true pickV_false forall_true forall_false

/-! the ends of a walk, with what is to be shown of them -/
theorem Into.sameA {L0 : Heap} {fr : List AV} {L : Heap} {fr' : List AV} (h : leF fr fr' := by first | exact leF_refl _ | (simp only [leF, true_and, and_true, and_self]; done) | (simp [leF]; done)) (hs : scpL L.length fr' = true := by (simp only [push_cast, reduceCtorEq, Nat.reduceAdd, Nat.reduceMul, Nat.reduceSub, Nat.reduceBEq, Nat.reduceGT, Nat.reduceLT, Int.toNat_zero, Nat.reduceLeDiff, Int.reduceEq, Int.reduceLT, Int.reduceLE]; done)) (ho : L.all (scpO L.length) = true := by (simp only [push_cast, reduceCtorEq, Nat.reduceAdd, Nat.reduceMul, Nat.reduceSub, Nat.reduceBEq, Nat.reduceGT, Nat.reduceLT, Int.toNat_zero, Nat.reduceLeDiff, Int.reduceEq, Int.reduceLT, Int.reduceLE]; done)) (hn : L0.length ≤ L.length := by first | decide | simp) : Into L0 fr L (fr', L) := Into.same h hs ho hn
theorem Into.dropA {L0 : Heap} {fr : List AV} {L' G : Heap} {fr' : List AV} (h : leF fr fr' := by first | exact leF_refl _ | (simp only [leF, true_and, and_true, and_self]; done) | (simp [leF]; done)) (hs : scpL L'.length fr' = true := by (simp only [push_cast, reduceCtorEq, Nat.reduceAdd, Nat.reduceMul, Nat.reduceSub, Nat.reduceBEq, Nat.reduceGT, Nat.reduceLT, Int.toNat_zero, Nat.reduceLeDiff, Int.reduceEq, Int.reduceLT, Int.reduceLE]; done)) (ho : L'.all (scpO L'.length) = true := by (simp only [push_cast, reduceCtorEq, Nat.reduceAdd, Nat.reduceMul, Nat.reduceSub, Nat.reduceBEq, Nat.reduceGT, Nat.reduceLT, Int.toNat_zero, Nat.reduceLeDiff, Int.reduceEq, Int.reduceLT, Int.reduceLE]; done)) (hn : L0.length ≤ L'.length := by first | decide | simp) : Into L0 fr (L' ++ G) (fr', L') := Into.drop h hs ho hn
theorem Into.keep0A {L0 : Heap} {fr fr' : List AV} {G : Heap} (h : leF fr fr' := by first | exact leF_refl _ | (simp only [leF, true_and, and_true, and_self]; done) | (simp [leF]; done)) (hs : scpL 0 fr' = true := by (simp only [push_cast, reduceCtorEq, Nat.reduceAdd, Nat.reduceMul, Nat.reduceSub, Nat.reduceBEq, Nat.reduceGT, Nat.reduceLT, Int.toNat_zero, Nat.reduceLeDiff, Int.reduceEq, Int.reduceLT, Int.reduceLE]; done)) (ho : ([] : Heap).all (scpO 0) = true := by first | rfl | (simp only [push_cast, reduceCtorEq, Nat.reduceAdd, Nat.reduceMul, Nat.reduceSub, Nat.reduceBEq, Nat.reduceGT, Nat.reduceLT, Int.toNat_zero, Nat.reduceLeDiff, Int.reduceEq, Int.reduceLT, Int.reduceLE]; done)) (hn : L0.length ≤ 0 := by first | decide | simp) : Into L0 fr (G) (fr', []) := Into.keep0 h hs ho hn
theorem Into.keep1A {L0 : Heap} {fr fr' : List AV} {G : Heap} {o0 : AObj} (h : leF fr fr' := by first | exact leF_refl _ | (simp only [leF, true_and, and_true, and_self]; done) | (simp [leF]; done)) (hs : scpL 1 fr' = true := by (simp only [push_cast, reduceCtorEq, Nat.reduceAdd, Nat.reduceMul, Nat.reduceSub, Nat.reduceBEq, Nat.reduceGT, Nat.reduceLT, Int.toNat_zero, Nat.reduceLeDiff, Int.reduceEq, Int.reduceLT, Int.reduceLE]; done)) (ho : [o0].all (scpO 1) = true := by first | rfl | (simp only [push_cast, reduceCtorEq, Nat.reduceAdd, Nat.reduceMul, Nat.reduceSub, Nat.reduceBEq, Nat.reduceGT, Nat.reduceLT, Int.toNat_zero, Nat.reduceLeDiff, Int.reduceEq, Int.reduceLT, Int.reduceLE]; done)) (hn : L0.length ≤ 1 := by first | decide | simp) : Into L0 fr (o0 :: G) (fr', [o0]) := Into.keep1 h hs ho hn
theorem Into.keep2A {L0 : Heap} {fr fr' : List AV} {G : Heap} {o0 o1 : AObj} (h : leF fr fr' := by first | exact leF_refl _ | (simp only [leF, true_and, and_true, and_self]; done) | (simp [leF]; done)) (hs : scpL 2 fr' = true := by (simp only [push_cast, reduceCtorEq, Nat.reduceAdd, Nat.reduceMul, Nat.reduceSub, Nat.reduceBEq, Nat.reduceGT, Nat.reduceLT, Int.toNat_zero, Nat.reduceLeDiff, Int.reduceEq, Int.reduceLT, Int.reduceLE]; done)) (ho : [o0, o1].all (scpO 2) = true := by first | rfl | (simp only [push_cast, reduceCtorEq, Nat.reduceAdd, Nat.reduceMul, Nat.reduceSub, Nat.reduceBEq, Nat.reduceGT, Nat.reduceLT, Int.toNat_zero, Nat.reduceLeDiff, Int.reduceEq, Int.reduceLT, Int.reduceLE]; done)) (hn : L0.length ≤ 2 := by first | decide | simp) : Into L0 fr (o0 :: o1 :: G) (fr', [o0, o1]) := Into.keep2 h hs ho hn
theorem Into.keep3A {L0 : Heap} {fr fr' : List AV} {G : Heap} {o0 o1 o2 : AObj} (h : leF fr fr' := by first | exact leF_refl _ | (simp only [leF, true_and, and_true, and_self]; done) | (simp [leF]; done)) (hs : scpL 3 fr' = true := by (simp only [push_cast, reduceCtorEq, Nat.reduceAdd, Nat.reduceMul, Nat.reduceSub, Nat.reduceBEq, Nat.reduceGT, Nat.reduceLT, Int.toNat_zero, Nat.reduceLeDiff, Int.reduceEq, Int.reduceLT, Int.reduceLE]; done)) (ho : [o0, o1, o2].all (scpO 3) = true := by first | rfl | (simp only [push_cast, reduceCtorEq, Nat.reduceAdd, Nat.reduceMul, Nat.reduceSub, Nat.reduceBEq, Nat.reduceGT, Nat.reduceLT, Int.toNat_zero, Nat.reduceLeDiff, Int.reduceEq, Int.reduceLT, Int.reduceLE]; done)) (hn : L0.length ≤ 3 := by first | decide | simp) : Into L0 fr (o0 :: o1 :: o2 :: G) (fr', [o0, o1, o2]) := Into.keep3 h hs ho hn
theorem Into.keep4A {L0 : Heap} {fr fr' : List AV} {G : Heap} {o0 o1 o2 o3 : AObj} (h : leF fr fr' := by first | exact leF_refl _ | (simp only [leF, true_and, and_true, and_self]; done) | (simp [leF]; done)) (hs : scpL 4 fr' = true := by (simp only [push_cast, reduceCtorEq, Nat.reduceAdd, Nat.reduceMul, Nat.reduceSub, Nat.reduceBEq, Nat.reduceGT, Nat.reduceLT, Int.toNat_zero, Nat.reduceLeDiff, Int.reduceEq, Int.reduceLT, Int.reduceLE]; done)) (ho : [o0, o1, o2, o3].all (scpO 4) = true := by first | rfl | (simp only [push_cast, reduceCtorEq, Nat.reduceAdd, Nat.reduceMul, Nat.reduceSub, Nat.reduceBEq, Nat.reduceGT, Nat.reduceLT, Int.toNat_zero, Nat.reduceLeDiff, Int.reduceEq, Int.reduceLT, Int.reduceLE]; done)) (hn : L0.length ≤ 4 := by first | decide | simp) : Into L0 fr (o0 :: o1 :: o2 :: o3 :: G) (fr', [o0, o1, o2, o3]) := Into.keep4 h hs ho hn
theorem Into.keep5A {L0 : Heap} {fr fr' : List AV} {G : Heap} {o0 o1 o2 o3 o4 : AObj} (h : leF fr fr' := by first | exact leF_refl _ | (simp only [leF, true_and, and_true, and_self]; done) | (simp [leF]; done)) (hs : scpL 5 fr' = true := by (simp only [push_cast, reduceCtorEq, Nat.reduceAdd, Nat.reduceMul, Nat.reduceSub, Nat.reduceBEq, Nat.reduceGT, Nat.reduceLT, Int.toNat_zero, Nat.reduceLeDiff, Int.reduceEq, Int.reduceLT, Int.reduceLE]; done)) (ho : [o0, o1, o2, o3, o4].all (scpO 5) = true := by first | rfl | (simp only [push_cast, reduceCtorEq, Nat.reduceAdd, Nat.reduceMul, Nat.reduceSub, Nat.reduceBEq, Nat.reduceGT, Nat.reduceLT, Int.toNat_zero, Nat.reduceLeDiff, Int.reduceEq, Int.reduceLT, Int.reduceLE]; done)) (hn : L0.length ≤ 5 := by first | decide | simp) : Into L0 fr (o0 :: o1 :: o2 :: o3 :: o4 :: G) (fr', [o0, o1, o2, o3, o4]) := Into.keep5 h hs ho hn
theorem Into.keep6A {L0 : Heap} {fr fr' : List AV} {G : Heap} {o0 o1 o2 o3 o4 o5 : AObj} (h : leF fr fr' := by first | exact leF_refl _ | (simp only [leF, true_and, and_true, and_self]; done) | (simp [leF]; done)) (hs : scpL 6 fr' = true := by (simp only [push_cast, reduceCtorEq, Nat.reduceAdd, Nat.reduceMul, Nat.reduceSub, Nat.reduceBEq, Nat.reduceGT, Nat.reduceLT, Int.toNat_zero, Nat.reduceLeDiff, Int.reduceEq, Int.reduceLT, Int.reduceLE]; done)) (ho : [o0, o1, o2, o3, o4, o5].all (scpO 6) = true := by first | rfl | (simp only [push_cast, reduceCtorEq, Nat.reduceAdd, Nat.reduceMul, Nat.reduceSub, Nat.reduceBEq, Nat.reduceGT, Nat.reduceLT, Int.toNat_zero, Nat.reduceLeDiff, Int.reduceEq, Int.reduceLT, Int.reduceLE]; done)) (hn : L0.length ≤ 6 := by first | decide | simp) : Into L0 fr (o0 :: o1 :: o2 :: o3 :: o4 :: o5 :: G) (fr', [o0, o1, o2, o3, o4, o5]) := Into.keep6 h hs ho hn
theorem Into.keep7A {L0 : Heap} {fr fr' : List AV} {G : Heap} {o0 o1 o2 o3 o4 o5 o6 : AObj} (h : leF fr fr' := by first | exact leF_refl _ | (simp only [leF, true_and, and_true, and_self]; done) | (simp [leF]; done)) (hs : scpL 7 fr' = true := by (simp only [push_cast, reduceCtorEq, Nat.reduceAdd, Nat.reduceMul, Nat.reduceSub, Nat.reduceBEq, Nat.reduceGT, Nat.reduceLT, Int.toNat_zero, Nat.reduceLeDiff, Int.reduceEq, Int.reduceLT, Int.reduceLE]; done)) (ho : [o0, o1, o2, o3, o4, o5, o6].all (scpO 7) = true := by first | rfl | (simp only [push_cast, reduceCtorEq, Nat.reduceAdd, Nat.reduceMul, Nat.reduceSub, Nat.reduceBEq, Nat.reduceGT, Nat.reduceLT, Int.toNat_zero, Nat.reduceLeDiff, Int.reduceEq, Int.reduceLT, Int.reduceLE]; done)) (hn : L0.length ≤ 7 := by first | decide | simp) : Into L0 fr (o0 :: o1 :: o2 :: o3 :: o4 :: o5 :: o6 :: G) (fr', [o0, o1, o2, o3, o4, o5, o6]) := Into.keep7 h hs ho hn
theorem Into.keep8A {L0 : Heap} {fr fr' : List AV} {G : Heap} {o0 o1 o2 o3 o4 o5 o6 o7 : AObj} (h : leF fr fr' := by first | exact leF_refl _ | (simp only [leF, true_and, and_true, and_self]; done) | (simp [leF]; done)) (hs : scpL 8 fr' = true := by (simp only [push_cast, reduceCtorEq, Nat.reduceAdd, Nat.reduceMul, Nat.reduceSub, Nat.reduceBEq, Nat.reduceGT, Nat.reduceLT, Int.toNat_zero, Nat.reduceLeDiff, Int.reduceEq, Int.reduceLT, Int.reduceLE]; done)) (ho : [o0, o1, o2, o3, o4, o5, o6, o7].all (scpO 8) = true := by first | rfl | (simp only [push_cast, reduceCtorEq, Nat.reduceAdd, Nat.reduceMul, Nat.reduceSub, Nat.reduceBEq, Nat.reduceGT, Nat.reduceLT, Int.toNat_zero, Nat.reduceLeDiff, Int.reduceEq, Int.reduceLT, Int.reduceLE]; done)) (hn : L0.length ≤ 8 := by first | decide | simp) : Into L0 fr (o0 :: o1 :: o2 :: o3 :: o4 :: o5 :: o6 :: o7 :: G) (fr', [o0, o1, o2, o3, o4, o5, o6, o7]) := Into.keep8 h hs ho hn
end Go.Eng
