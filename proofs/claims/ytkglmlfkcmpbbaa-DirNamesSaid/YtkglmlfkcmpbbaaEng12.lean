/- The engine, part 12: small lemmas for its use. -/
import Derived.Test.YtkglmlfkcmpbbaaEng11
namespace Go.Eng
open Go

theorem getD_range (n i : Nat) : (List.range n).getD i i = i := by
  by_cases h : i < n
  · simp [List.getD, h]
  · simp [List.getD, h]

theorem renO_id (o : AObj) : renO (fun i => i) o = o := by
  cases o <;> simp [renO, renL_id]

/-- the heap's first objects stay, what lies behind them is dropped -/
theorem Into.drop {n0 : Nat} {fr : List AV} {L' G : Heap} {fr' : List AV} (h : leF fr fr') (hs : scpL L'.length fr' = true) (ho : L'.all (scpO L'.length) = true) (hn : n0 ≤ L'.length) : Into n0 fr (L' ++ G) (fr', L') := by
  refine ⟨List.range L'.length, ⟨?_, ?_, List.nodup_range, ?_, hs, ho⟩, hn⟩
  · have : (fun i => (List.range L'.length).getD i i) = fun i => i := by funext i; exact getD_range _ _
    rw [this, renL_id]; exact h
  · have : (fun i => (List.range L'.length).getD i i) = fun i => i := by funext i; exact getD_range _ _
    simp only [this, renO_id]
    apply List.ext_getElem?
    intro i
    simp only [List.getElem?_map]
    by_cases hi : i < L'.length
    · simp only [List.getElem?_range hi, Option.map_some, List.getElem?_append_left hi]
      simp [hi]
    · simp [hi]
  · rw [List.take_range]; congr 1; omega

theorem Into.same {n0 : Nat} {fr : List AV} {L : Heap} {fr' : List AV} (h : leF fr fr') (hs : scpL L.length fr' = true) (ho : L.all (scpO L.length) = true) (hn : n0 ≤ L.length) : Into n0 fr L (fr', L) := by
  have := Into.drop (G := []) h hs ho hn
  rwa [List.append_nil] at this

theorem Into.flat {fr fr' : List AV} (h : leF fr fr') (hs : scpL 0 fr' = true) : Into 0 fr [] (fr', []) := Into.same h hs rfl (Nat.le_refl _)

theorem leF_refl : ∀ xs : List AV, leF xs xs
  | [] => trivial
  | x :: xs => by
    have h := leF_refl xs
    cases x <;> first | exact h | exact ⟨rfl, h⟩
theorem Into.one {v res : AV} (h : v = res) (hs : scp 0 res = true) : Into 0 [v] [] ([res], []) := Into.flat (by subst h; exact leF_refl _) (by simp [scpL, hs])

theorem byte_imp {p q : UInt8 → Bool} (h : (List.range 256).all (fun n => !(p (UInt8.ofNat n)) || q (UInt8.ofNat n)) = true) (c : UInt8) : p c = true → q c = true := by
  intro hp
  have := List.all_eq_true.1 h c.toNat (List.mem_range.2 c.toNat_lt)
  rw [UInt8.ofNat_toNat, hp] at this
  simpa using this
theorem byte_eq {α : Type} [BEq α] [LawfulBEq α] {p q : UInt8 → α} (h : (List.range 256).all (fun n => p (UInt8.ofNat n) == q (UInt8.ofNat n)) = true) (c : UInt8) : p c = q c := by
  have := List.all_eq_true.1 h c.toNat (List.mem_range.2 c.toNat_lt)
  rw [UInt8.ofNat_toNat] at this
  exact eq_of_beq this

theorem wrap_i64 (n : Int) (h : -9223372036854775808 ≤ n ∧ n ≤ 9223372036854775807) : IntKind.i64.wrap n = n := IntWalk.i64_in n h

theorem forall_true (p : Prop) : (true = true → p) = p := by simp
theorem forall_false (p : Prop) : (false = true → p) = True := by simp

theorem need_any (c : Bool) : need c (.any) = True := eq_true fun _ => rfl
theorem need_int (c : Bool) (k : IntKind) (n : Int) : need c (.int k n) = True := eq_true fun _ => rfl
theorem need_bool (c : Bool) (b : Bool) : need c (.bool b) = True := eq_true fun _ => rfl
theorem need_str (c : Bool) (l : List UInt8) : need c (.str l) = True := eq_true fun _ => rfl
theorem need_lit (c : Bool) (v : Value) : need c (.lit v) = True := eq_true fun _ => rfl
theorem need_agg (c : Bool) (cs : List AV) : need c (.agg cs) = True := eq_true fun _ => rfl
theorem need_tup (c : Bool) (vs : List AV) : need c (.tup vs) = True := eq_true fun _ => rfl
theorem need_sl (c : Bool) (cs : List AV) (n : Nat) : need c (.sl cs n) = True := eq_true fun _ => rfl
theorem need_msl (c : Bool) (a b d e : Nat) : need c (.msl a b d e) = True := eq_true fun _ => rfl
theorem need_ref (c : Bool) (a b d : Nat) : need c (.ref a b d) = True := eq_true fun _ => rfl
theorem need_ip (c : Bool) (cs : List AV) : need c (.ip cs) = True := eq_true fun _ => rfl
theorem need_fn (c : Bool) (f : Fn) (a b : List AV) : need c (.fn f a b) = True := eq_true fun _ => rfl
theorem need_ifc (c : Bool) (t : TypeId) (x : AV) : need c (.ifc t x) = True := eq_true fun _ => rfl
theorem need_alt (c : Bool) (b : Bool) (x y : AV) : need c (.alt b x y) = True := eq_true fun _ => rfl

attribute [push_cast] lift0 derefA lent scpL scp isMsl pinfreeT pinfreeL pinfree pinfreeO ren renL renO FinS resAll resR resV ex evOps stepR callR ev opd ofV ofCell guardOk guardC mkV putA needAll needO optB AV.cond AV.bare AV.cells need_any need_int need_bool need_str need_lit need_agg need_tup need_sl need_msl need_ref need_ip need_fn need_ifc need_alt need_same need_and need_true need_false pickR pickV pk_and pk_or binR intR strR unR convR lenR indexR indexAddrR loadR storeR allocR boxR buildR buildSliceR fieldR fieldAddrR extractR boundV sliceR srcCells srcOk srcLen appendR rangeR nextR makeSliceR nilCheckR builtinR partsA Rz.also bad hasBlk popTo rowOf szOf verOf isRow fresh headV headOk setRow splice oneCells inits placesOf fillA reps elemIsByte List.getD_cons_zero List.getD_cons_succ List.set_cons_zero List.set_cons_succ List.getElem?_cons_zero List.getElem?_cons_succ List.length_cons List.length_nil List.replicate List.cons_append List.nil_append List.append_nil List.map_cons List.map_nil List.toList_toArray Option.bind_some Option.bind_none Option.map_some Option.map_none List.flatten_cons List.flatten_nil List.take_zero List.take_succ_cons List.drop_zero List.drop_succ_cons List.take_nil List.drop_nil List.getElem?_nil List.size_toArray List.getElem?_toArray true_and and_true ne_eq not_true_eq_false not_false_eq_true imp_self implies_true forall_const Bool.false_eq_true Bool.true_eq_false false_implies if_true if_false decide_true decide_false Bool.not_true Bool.not_false Bool.true_and Bool.and_true Bool.false_and Bool.and_false Bool.or_true Bool.true_or Bool.or_false Bool.false_or beq_self_eq_true List.not_mem_nil List.mem_cons or_false forall_eq forall_eq_or_imp List.any_cons List.any_nil beq_true beq_false Option.isSome_some Option.isSome_none Option.some.injEq eq_self TypeDesc.int.injEq exists_eq' exists_eq exists_eq_left and_self Option.isNone_some Option.isNone_none TypeDesc.slice.injEq Nat.add_zero Nat.zero_add Int.toNat_natCast false_or true_or or_self false_and and_false cond_true cond_false pickV_true pickV_false forall_true forall_false

end Go.Eng
