/- The engine, part 12: small lemmas for its use. -/
import Derived.Test.YtkglmlfkcmpbbaaEng11
import Derived.Test.YtkglmlfkcmpbbaaEng13
import Derived.Laws.RangeAny
namespace Go.Eng
open Go

theorem getD_range (n i : Nat) : (List.range n).getD i i = i := by
  by_cases h : i < n
  · simp [List.getD, h]
  · simp [List.getD, h]

theorem renO_id (o : AObj) : renO (fun i => i) o = o := by
  cases o <;> simp [renO, renL_id]

/-- the heap's first objects stay, what lies behind them is dropped -/
theorem Into.drop {n0 : Nat} {fr : List AV} {L' G : Heap} {fr' : List AV} (h : leF fr fr') (hs : scpL L'.length fr' = true) (ho : L'.all (scpO L'.length) = true) (hn : n0 ≤ L'.length) : Into n0 fr (L' ++ G) (fr', L') := by
  refine IntoF.base (List.range L'.length) ⟨?_, ?_, List.nodup_range, ?_, hs, ho⟩ hn
  · have : (fun i => (List.range L'.length).getD i i) = fun i => i := by funext i; exact getD_range _ _
    rw [this, renL_id]; exact h
  · have : (fun i => (List.range L'.length).getD i i) = fun i => i := by funext i; exact getD_range _ _
    simp only [this, renO_id]
    apply List.ext_getElem?
    intro i
    simp only [List.getElem?_map]
    by_cases hi : i < L'.length
    · simp only [List.getElem?_range hi, Option.map_some, List.getElem?_append_left hi]
      simp [hi]
    · simp [hi]
  · rw [List.take_range]; congr 1; omega

theorem Into.same {n0 : Nat} {fr : List AV} {L : Heap} {fr' : List AV} (h : leF fr fr') (hs : scpL L.length fr' = true) (ho : L.all (scpO L.length) = true) (hn : n0 ≤ L.length) : Into n0 fr L (fr', L) := by
  have := Into.drop (G := []) h hs ho hn
  rwa [List.append_nil] at this

theorem Into.flat {fr fr' : List AV} (h : leF fr fr') (hs : scpL 0 fr' = true) : Into 0 fr [] (fr', []) := Into.same h hs rfl (Nat.le_refl _)

theorem leF_refl : ∀ xs : List AV, leF xs xs
  | [] => trivial
  | x :: xs => by
    have h := leF_refl xs
    cases x <;> first | exact h | exact ⟨rfl, h⟩
theorem Into.one {v res : AV} {G : Heap} (h : v = res) (hs : scp 0 res = true) : Into 0 [v] G ([res], []) := Into.drop (L' := []) (G := G) (by subst h; exact leF_refl _) (by simp [scpL, hs]) rfl (Nat.le_refl _)

theorem byte_imp {p q : UInt8 → Bool} (h : (List.range 256).all (fun n => !(p (UInt8.ofNat n)) || q (UInt8.ofNat n)) = true) (c : UInt8) : p c = true → q c = true := by
  intro hp
  have := List.all_eq_true.1 h c.toNat (List.mem_range.2 c.toNat_lt)
  rw [UInt8.ofNat_toNat, hp] at this
  simpa using this
theorem byte_eq {α : Type} [BEq α] [LawfulBEq α] {p q : UInt8 → α} (h : (List.range 256).all (fun n => p (UInt8.ofNat n) == q (UInt8.ofNat n)) = true) (c : UInt8) : p c = q c := by
  have := List.all_eq_true.1 h c.toNat (List.mem_range.2 c.toNat_lt)
  rw [UInt8.ofNat_toNat] at this
  exact eq_of_beq this

theorem wrap_i64 (n : Int) (h : -9223372036854775808 ≤ n ∧ n ≤ 9223372036854775807) : IntKind.i64.wrap n = n := IntWalk.i64_in n h

/-- all that a world's cells hold, as memory that is only read -/
def pinW (w : World) : Mem := ⟨fun g o => w.cell? ⟨g, o, none⟩, fun _ => 0, fun _ => 0⟩
theorem pinW_pin (w : World) (g o : Nat) (v : Value) (h : (pinW w).pin g o = some v) : w.cell? ⟨g, o, none⟩ = some v := h
theorem rel_nil (w : World) : VRel (pinW w) [] (.sl [] 0) (.slice none 0 0) := by
  simp only [VRel]
  exact ⟨none, 0, rfl, Nat.le_refl _, [], CRel.nil _ _, .inl rfl⟩
/-- a slice of one-cell elements that came in -/
theorem rel_slice (w : World) (x : Addr) (len cap : Nat) (us : List Value) (cs : List AV) (hl : len ≤ cap) (hcr : CRel (pinW w) [] cs us) (hcell : ∀ i v, us[i]? = some v → w.cell? (x.add i) = some v) : VRel (pinW w) [] (.sl cs len) (.slice (some x) len cap) := by
  simp only [VRel]
  refine ⟨some x, cap, rfl, hl, us, hcr, ?_⟩
  cases us with
  | nil => exact .inl rfl
  | cons u us =>
    have h0 := hcell 0 u (by simp)
    obtain ⟨b, off, spot⟩ := x
    have hs : spot = none := by simpa [Addr.add] using World.cell?_spot h0
    subst hs
    exact .inr ⟨b, off, rfl, fun i v hi => by
      have := hcell i v hi
      show w.cell? ⟨b, off + i, none⟩ = some v
      rw [← this]; congr 1; simp only [Addr.add]; split <;> simp_all⟩
theorem crel_strs (m : Mem) (L : Heap) : ∀ ss : List ByteArray, CRel m L ((ss.map (·.data.toList)).map .str) (ss.map .string)
  | [] => CRel.nil _ _
  | s :: ss => CRel.cons (by simp [VRel]) (crel_strs m L ss)

/-- an environment, one function more -/
def addE (Γ : Env) (f : FuncId) (sp : FSpec) : Env := fun g => if g = f then some sp else Γ g
def noE : Env := fun _ => none
theorem noE_ok (P : Program) : EnvOk P noE := fun _ _ h => by cases h
theorem EnvOk.add {P : Program} {Γ : Env} {f : FuncId} {sp : FSpec} (h : EnvOk P Γ) (hc : Con P f sp) : EnvOk P (addE Γ f sp) := by
  intro g s hs
  unfold addE at hs
  split at hs
  · rename_i e; subst e; obtain rfl := Option.some.inj hs; exact hc
  · exact h g s hs

theorem scpL_str (n : Nat) : ∀ ss : List (List UInt8), scpL n (ss.map .str) = true
  | [] => rfl
  | s :: ss => by simp only [List.map_cons, scpL, scp, scpL_str n ss, Bool.and_self]
theorem drop_str {ss : List (List UInt8)} {k : Nat} (h : k < ss.length) : ((ss.map AV.str).drop k).getD 0 .any = .str (ss.getD k []) := by
  simp [List.getD, List.getElem?_drop, h]
theorem renL_closed (ρ : Nat → Nat) (ss : List (List UInt8)) : renL ρ (ss.map .str) = ss.map .str := by
  induction ss with
  | nil => rfl
  | cons s ss ih => simp only [List.map_cons, renL, ren, ih]
theorem pinfreeL_str : ∀ ss : List (List UInt8), pinfreeL (ss.map .str) = true
  | [] => rfl
  | s :: ss => by simp only [List.map_cons, pinfreeL, pinfree, pinfreeL_str ss, Bool.and_self]
theorem oneCells_str : ∀ ss : List (List UInt8), oneCells (ss.map .str) = true
  | [] => rfl
  | s :: ss => by simp only [List.map_cons, oneCells, oneCells_str ss]

theorem takeWhile_at {α : Type} (p : α → Bool) (d : α) : ∀ (l : List α) (k : Nat), k ≤ l.length → (∀ j, j < k → p (l.getD j d) = true) → (k = l.length ∨ p (l.getD k d) = false) → l.takeWhile p = l.take k
  | [], k, _, _, _ => by simp
  | c :: l, 0, _, _, hs => by
    rcases hs with hs | hs
    · simp at hs
    · simp at hs; simp [List.takeWhile_cons, hs]
  | c :: l, k + 1, hk, h, hs => by
    have h0 := h 0 (by omega)
    simp only [List.getD_cons_zero] at h0
    rw [List.takeWhile_cons, h0, List.take_succ_cons, takeWhile_at p d l k (by simpa using hk) (fun j hj => by simpa using h (j + 1) (by omega)) (by simpa using hs)]
    rfl

theorem rune_lo {l : List UInt8} {k : Nat} (h : k < l.length) (ha : (l.getD k 0).toNat < 128) : runeAt l k = ((l.getD k 0).toNat, 1) := by
  have e : l.getD k 0 = l[k] := by simp [List.getD, h]
  rw [e] at ha ⊢
  exact decode_ascii ⟨l.toArray⟩ k (by simpa [ByteArray.size] using h) (by show (l.toArray[k]).toNat < 128; simpa using ha)
theorem rune_hi {l : List UInt8} {k : Nat} (h : k < l.length) (ha : 128 ≤ (l.getD k 0).toNat) : 128 ≤ (runeAt l k).1 := by
  have e : l.getD k 0 = l[k] := by simp [List.getD, h]
  rw [e] at ha
  exact (decode_high ⟨l.toArray⟩ k (by simpa [ByteArray.size] using h) (by show 128 ≤ (l.toArray[k]).toNat; simpa using ha)).1

theorem forall_true (p : Prop) : (true = true → p) = p := by simp
theorem forall_false (p : Prop) : (false = true → p) = True := by simp

theorem need_any (c : Bool) : need c (.any) = True := eq_true fun _ => rfl
theorem need_int (c : Bool) (k : IntKind) (n : Int) : need c (.int k n) = True := eq_true fun _ => rfl
theorem need_bool (c : Bool) (b : Bool) : need c (.bool b) = True := eq_true fun _ => rfl
theorem need_str (c : Bool) (l : List UInt8) : need c (.str l) = True := eq_true fun _ => rfl
theorem need_lit (c : Bool) (v : Value) : need c (.lit v) = True := eq_true fun _ => rfl
theorem need_agg (c : Bool) (cs : List AV) : need c (.agg cs) = True := eq_true fun _ => rfl
theorem need_tup (c : Bool) (vs : List AV) : need c (.tup vs) = True := eq_true fun _ => rfl
theorem need_sl (c : Bool) (cs : List AV) (n : Nat) : need c (.sl cs n) = True := eq_true fun _ => rfl
theorem need_msl (c : Bool) (a b d e : Nat) : need c (.msl a b d e) = True := eq_true fun _ => rfl
theorem need_ref (c : Bool) (a b d : Nat) : need c (.ref a b d) = True := eq_true fun _ => rfl
theorem need_ip (c : Bool) (cs : List AV) : need c (.ip cs) = True := eq_true fun _ => rfl
theorem need_fn (c : Bool) (f : Fn) (a b : List AV) : need c (.fn f a b) = True := eq_true fun _ => rfl
theorem need_ifc (c : Bool) (t : TypeId) (x : AV) : need c (.ifc t x) = True := eq_true fun _ => rfl
theorem need_alt (c : Bool) (b : Bool) (x y : AV) : need c (.alt b x y) = True := eq_true fun _ => rfl

attribute [push_cast] evQ Nat.mul_one Nat.one_mul Nat.zero_mul Nat.mul_zero List.length_map List.length_drop List.length_take List.length_append scpL_str renL_closed pinfreeL_str oneCells_str exB_true exB_false evD qob_fix qob_ext frzV frzL frzH frzO List.contains_nil List.contains_cons List.set_nil lift0 derefA lent scpL scp isMsl pinfreeT pinfreeL pinfree pinfreeO ren renL renO FinS resAll resR resV ex evOps stepR callR ev opd ofV ofCell guardOk guardC mkV putA needAll needO optB AV.cond AV.bare AV.cells need_any need_int need_bool need_str need_lit need_agg need_tup need_sl need_msl need_ref need_ip need_fn need_ifc need_alt need_same need_and need_true need_false pickR pickV pk_and pk_or binR intR strR unR convR lenR indexR indexAddrR loadR storeR allocR boxR buildR buildSliceR fieldR fieldAddrR extractR boundV sliceR srcCells srcOk srcLen appendR rangeR nextR makeSliceR nilCheckR builtinR partsA Rz.also bad hasBlk popTo rowOf szOf verOf isRow fresh headV headOk setRow splice oneCells inits placesOf fillA reps elemIsByte List.getD_cons_zero List.getD_cons_succ List.set_cons_zero List.set_cons_succ List.getElem?_cons_zero List.getElem?_cons_succ List.length_cons List.length_nil List.replicate List.cons_append List.nil_append List.append_nil List.map_cons List.map_nil List.toList_toArray Option.bind_some Option.bind_none Option.map_some Option.map_none List.flatten_cons List.flatten_nil List.take_zero List.take_succ_cons List.drop_zero List.drop_succ_cons List.take_nil List.drop_nil List.getElem?_nil List.size_toArray List.getElem?_toArray true_and and_true ne_eq not_true_eq_false not_false_eq_true imp_self implies_true forall_const Bool.false_eq_true Bool.true_eq_false false_implies if_true if_false decide_true decide_false Bool.not_true Bool.not_false Bool.true_and Bool.and_true Bool.false_and Bool.and_false Bool.or_true Bool.true_or Bool.or_false Bool.false_or beq_self_eq_true List.not_mem_nil List.mem_cons or_false forall_eq forall_eq_or_imp List.any_cons List.any_nil beq_true beq_false Option.isSome_some Option.isSome_none Option.some.injEq eq_self TypeDesc.int.injEq exists_eq' exists_eq exists_eq_left and_self Option.isNone_some Option.isNone_none TypeDesc.slice.injEq Nat.add_zero Nat.zero_add Int.toNat_natCast false_or true_or or_self false_and and_false cond_true cond_false pickV_true pickV_false forall_true forall_false

end Go.Eng
