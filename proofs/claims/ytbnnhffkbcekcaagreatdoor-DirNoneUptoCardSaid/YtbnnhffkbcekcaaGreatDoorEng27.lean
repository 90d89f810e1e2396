/- The engine, part 27: an operation of a region that is looked at in the model itself; ranges over maps. -/
import Derived.Test.YtbnnhffkbcekcaaGreatDoorEng21
import Derived.Maps.RangeRun
namespace Go.Eng
open Go
set_option linter.unusedVariables false
set_option linter.unusedSimpArgs false
section
variable {P : Program} {Γ : Env}
theorem evOps_prefix (hΓ : EnvOk P Γ) {B : Base} (ops : Array Oper) {K : List AV → Heap → Prop} {Q : Exit → Act → World → Prop} {l' : List Oper} (hK : ∀ fr L m a w, K fr L → RS B fr L m a w → wpList P ops Q l' a w) :
    ∀ (l : List Oper) (fr : List AV) (L : Heap) (m : Mem) (a : Act) (w : World), evOps P Γ ops.toList l fr L K → RS B fr L m a w → wpList P ops Q (l ++ l') a w
  | [], fr, L, m, a, w, h, hR => hK fr L m a w h hR
  | o :: l, fr, L, m, a, w, h, hR => by
    obtain ⟨h1, h2, h3⟩ := h
    have := step_sound (P := P) (Γ := Γ) hΓ hR.wrel hR.frel ops o (next := wpList P ops Q (l ++ l')) (Q := Q) h1 h2 fun a' w' m' k1 k2 k3 k4 =>
      evOps_prefix hΓ ops hK l _ _ m' a' w' h3 ⟨k1, k2, hR.ext.trans k3, by rw [k4, hR.defers]⟩
    rw [List.cons_append]
    unfold wpList
    split
    · rename_i hw; rw [if_pos hw] at this; exact .inl this
    · rename_i hw; rw [if_neg hw] at this; exact this
end
/-- what comes of an operation, whichever way it goes -/
def OpOut (X : Cx) (fr : List AV) (L : Heap) (o : Oper) (Out : AV → Heap → Prop) : Prop :=
  ∀ m a w, RS X.B fr L m a w → ∃ v L' u w' m', (execOp a.eval o).run X.P w = .ok (.value u) w' ∧ VRel m' L' v u ∧ WRel m' L' w' ∧ Ext m L w m' L' w' ∧ Out v L'
theorem Holds.opIn {X : Cx} {id : Nat} {ops : Array Oper} {k : List It} {fr : List AV} {L : Heap} (n : Nat) {o : Oper} {l2 : List Oper} (hd : ops.toList.drop n = o :: l2) (hg : o.guard = none)
    (h : evOps X.P X.Γ ops.toList (ops.toList.take n) fr L fun fr1 L1 => ∃ Out : AV → Heap → Prop, OpOut X fr1 L1 o Out ∧ ∀ v L', Out v L' → evOps X.P X.Γ ops.toList l2 (putA fr1 o.dst v) L' (Holds X k)) :
    Holds X (.code (.region id ops false) :: k) fr L := by
  have hs : ops.toList = ops.toList.take n ++ o :: l2 := by rw [← hd, List.take_append_drop]
  generalize ops.toList.take n = l1 at hs h
  intro m a w hR
  refine wp_region_list ?_
  rw [hs]
  refine evOps_prefix X.ok ops (fun fr1 L1 m1 a1 w1 hk hR1 => ?_) l1 fr L m a w h hR
  obtain ⟨Out, h1, h2⟩ := hk
  obtain ⟨v, L', u, w', m', hrun, hv, hW, hE, hO⟩ := h1 m1 a1 w1 hR1
  unfold wpList
  have hw : Region.wanted o (yielded ops a1.tmps) = true := by simp [Region.wanted, hg]
  rw [if_pos hw]
  left
  unfold Oper.wp
  rw [hrun]
  simp only [Oper.upon]
  refine evOps_sound X.ok ops (Q := W X.P X.B X.Q k) (fun fr2 L2 m2 a2 w2 hk hR2 => hk m2 a2 w2 hR2) l2 _ _ m' _ w' (h2 v L' hO) ⟨hW, put_rel (CRel.mono hE.mono _ _ hR1.frel) o.dst hv, hR1.ext.trans hE, ?_⟩
  cases o.dst <;> exact hR1.defers

theorem Holds.peel {X : Cx} {a b : Code} {k : List It} {fr : List AV} {L : Heap} (h : Holds X (.code a :: .code b :: k) fr L) : Holds X (.code (.seq a b) :: k) fr L := holds_of_ex X 1 _ _ _ h
theorem Holds.peelB {X : Cx} {id : Nat} {b : Code} {k : List It} {fr : List AV} {L : Heap} (h : Holds X (.code b :: .blk id :: k) fr L) : Holds X (.code (.block id b) :: k) fr L := holds_of_ex X 1 _ _ _ h
theorem Holds.peelS {X : Cx} {b : Code} {k : List It} {fr : List AV} {L : Heap} (h : Holds X (.code b :: k) fr L) : Holds X (.code (.scope b) :: k) fr L := holds_of_ex X 1 _ _ _ h
theorem Holds.peelL {X : Cx} {n : Nat} {k : List It} {fr : List AV} {L : Heap} (h : Holds X k fr L) : Holds X (.code (.label n) :: k) fr L := holds_of_ex X 1 _ _ _ h
theorem Holds.peelN {X : Cx} {k : List It} {fr : List AV} {L : Heap} (h : Holds X k fr L) : Holds X (.code .skip :: k) fr L := holds_of_ex X 1 _ _ _ h
theorem Holds.condT {X : Cx} {q : Operand} {x y : Code} {k : List It} {fr : List AV} {L : Heap} (hq : opd fr q = .bool true) (h : Holds X (.code x :: k) fr L) : Holds X (.code (.cond q x y) :: k) fr L :=
  holds_of_ex X 1 _ _ _ (by simp only [ex, hq]; exact ⟨fun _ => h, (fun h => by cases h)⟩)
theorem Holds.condF {X : Cx} {q : Operand} {x y : Code} {k : List It} {fr : List AV} {L : Heap} (hq : opd fr q = .bool false) (h : Holds X (.code y :: k) fr L) : Holds X (.code (.cond q x y) :: k) fr L :=
  holds_of_ex X 1 _ _ _ (by simp only [ex, hq]; exact ⟨(fun h => by cases h), fun _ => h⟩)
section
variable {X : Cx} {k : List It} {fr : List AV} {L : Heap}
theorem same_chg (w : World) (g : Nat) {o : Obj} (h : w.heap[g]? = some o) : Chg w w g o := ⟨h, fun _ _ _ => rfl, Nat.le_refl _, Same.refl w⟩
theorem RS.raw {B : Base} {m : Mem} {a : Act} {w : World} (hR : RS B fr L m a w) {id : Nat} {r r' : Raw} {o : Obj} (hL : L[id]? = some (.raw r)) (ho : w.heap[m.blk id]? = some o) (hr : RawRel (m.blk id) r' o) (hnb : ∀ T e l, r' ≠ .bld T e l) :
    RS B fr (L.set id (.raw r')) m a w := by
  obtain ⟨t1, t2⟩ := turn_raw (r := r') hR.wrel hL (same_chg w _ ho) hr hnb
  exact ⟨t1, CRel.mono t2.mono _ _ hR.frel, hR.ext.trans t2, hR.defers⟩
/-- a map is just this row of entries -/
theorem Holds.pinMap {id : Nat} {kd : Option IntKind} {f : Key → Option Value} (hL : L[id]? = some (.raw (.map kd f))) (h : ∀ b es clock, MRC kd f es.toList clock → Holds X k fr (L.set id (.raw (.obj (some b) (.map es clock))))) : Holds X k fr L := by
  intro m a w hR
  obtain ⟨o, ho, es, clock, rfl, hM⟩ := hR.wrel.iters id _ hL
  exact h (m.blk id) es clock hM m a w (hR.raw hL ho ⟨fun x hx => by cases hx; rfl, rfl⟩ (fun _ _ _ h => by cases h))
/-- it is a map again -/
theorem Holds.unpinMap {id b : Nat} {es : Array MapEntry} {clock : Nat} {kd : Option IntKind} {f : Key → Option Value} (hL : L[id]? = some (.raw (.obj (some b) (.map es clock)))) (hM : MRC kd f es.toList clock) (h : Holds X k fr (L.set id (.raw (.map kd f)))) : Holds X k fr L := by
  intro m a w hR
  obtain ⟨o, ho, _, rfl⟩ := hR.wrel.iters id _ hL
  exact h m a w (hR.raw hL ho ⟨es, clock, rfl, hM⟩ (fun _ _ _ h => by cases h))
theorem mp_val {m : Mem} {id : Nat} {u : Value} (h : VRel m L (.mp id) u) : u = .map (some (m.blk id)) := by
  simp only [VRel] at h
  exact h.choose_spec.2
theorem raw_ptr {m : Mem} {id : Nat} {r : Raw} {u : Value} (hL : L[id]? = some (.raw r)) (h : VRel m L (.ref id 0 0) u) : u = .pointer (some ⟨m.blk id, 0, none⟩) := by
  simp only [VRel] at h
  rcases h with ⟨_, _, _, h, _⟩ | ⟨_, _, h⟩
  · rw [hL] at h; cases h
  · exact h
/-- a range over a map begins -/
theorem out_range {o : Oper} {t kt et : TypeId} {x : Operand} (ho : o.op = .range t x) (ht : X.P.underlying t = some (.map kt et)) {id b : Nat} {es : Array MapEntry} {clock : Nat} (hx : opd fr x = .mp id) (hL : L[id]? = some (.raw (.obj (some b) (.map es clock)))) :
    OpOut X fr L o fun v L' => v = .ref L.length 0 0 ∧ L' = L ++ [.raw (.obj none (.mapIter (some b) clock #[] clock))] := by
  intro m a w hR
  have hu := mp_val (by rw [← hx]; exact opd_rel hR.frel x)
  obtain ⟨ob, hb, hbb, rfl⟩ := hR.wrel.iters id _ hL
  have hbe := hbb b rfl
  have hrun : (execOp a.eval o).run X.P w = .ok (.value (.pointer (some ⟨w.heap.size, 0, none⟩))) (w.alloc (.mapIter (some b) clock #[] clock)) := by
    have := run_range_map w t kt et b es clock ht (by rw [← hbe]; exact hb)
    simp [execOp, ho, hu, hbe, this]
  refine ⟨.ref L.length 0 0, L ++ [.raw (.obj none (.mapIter (some b) clock #[] clock))], _, _, m.put L.length w.heap.size 0, hrun, ?_, push_raw (r := .obj none (.mapIter (some b) clock #[] clock)) hR.wrel (Pushed.alloc w _) (show RawRel _ (.obj none _) _ from ⟨(fun _ hx => by cases hx), rfl⟩), ext_push _ _ (Pushed.alloc w _).keep, rfl, rfl⟩
  simp only [VRel]
  exact .inr ⟨.obj none (.mapIter (some b) clock #[] clock), by simp, by simp [Mem.put]⟩
/-- its next entry -/
theorem out_next {o : Oper} {x : Operand} (ho : o.op = .next x false) {id it b since c0 : Nat} {seen : Array Nat} {es : Array MapEntry} {clock : Nat} (hx : opd fr x = .ref it 0 0) (hL : L[id]? = some (.raw (.obj (some b) (.map es clock))))
    (hI : L[it]? = some (.raw (.obj none (.mapIter (some b) since seen c0)))) (hold : ∀ x ∈ es.toList, x.born < since) (hsc : since ≤ c0) :
    OpOut X fr L o fun v L' => (v = .tup [.bool false] ∧ L' = L ∧ (leftOf es seen).size = 0) ∨
      ∃ e ∈ (leftOf es seen).toList, v = .tup [.bool true, ofV e.key, ofV e.val] ∧ L' = L.set it (.raw (.obj none (.mapIter (some b) since (seen.push e.born) clock))) := by
  intro m a w hR
  have hu := raw_ptr hI (by rw [← hx]; exact opd_rel hR.frel x)
  obtain ⟨ob, hb, hbb, rfl⟩ := hR.wrel.iters id _ hL
  have hbe := hbb b rfl
  obtain ⟨oi, hi, _, rfl⟩ := hR.wrel.iters it _ hI
  have hlt : m.blk it < w.heap.size := hR.wrel.blk_lt (.inr ⟨_, hI⟩)
  rcases run_next_at (P := X.P) w o.type (m.blk it) b since c0 seen es clock hi (by rw [← hbe]; exact hb) hold hsc with ⟨h0, hrun⟩ | ⟨e, he, w1, hw1, hrun⟩
  · refine ⟨.tup [.bool false], L, .tuple #[.bool false], w, m, ?_, ⟨[.bool false], rfl, by simp [CRel, VRel]⟩, hR.wrel, Ext.refl, .inl ⟨rfl, rfl, h0⟩⟩
    simp [execOp, ho, hu, hrun]
  · have hC : Chg w (ChangeMaps.setBlock w1 (m.blk it) (.mapIter (some b) since (seen.push e.born) clock)) (m.blk it) (.mapIter (some b) since (seen.push e.born) clock) := by
      have hh : w1.heap = w.heap := by rcases hw1 with rfl | rfl <;> rfl
      refine ⟨by simp [ChangeMaps.setBlock, hh, hlt], fun g' hne _ => ?_, by simp [ChangeMaps.setBlock, hh], ?_⟩
      · simp [ChangeMaps.setBlock, hh, Array.getElem?_setIfInBounds, hne.symm]
      · rcases hw1 with rfl | rfl <;> exact ⟨rfl, rfl, rfl⟩
    obtain ⟨t1, t2⟩ := turn_raw (r := .obj none (.mapIter (some b) since (seen.push e.born) clock)) hR.wrel hI hC ⟨(fun _ hx => by cases hx), rfl⟩
    refine ⟨_, _, .tuple #[.bool true, e.key, e.val], _, m, ?_, ?_, t1, t2, .inr ⟨e, he, rfl, rfl⟩⟩
    · simp [execOp, ho, hu, hrun]
    · simp only [VRel]
      exact ⟨[.bool true, e.key, e.val], rfl, .cons (by simp [VRel]) (.cons (ofV_rel m _ _) (.cons (ofV_rel m _ _) (.nil m _)))⟩
/-- that entry again -/
theorem out_entry {o : Oper} {x : Operand} (ho : o.op = .entry x) {id it b since : Nat} {seen : Array Nat} {es : Array MapEntry} {clock : Nat} {e : MapEntry} (hx : opd fr x = .ref it 0 0) (hL : L[id]? = some (.raw (.obj (some b) (.map es clock))))
    (hI : L[it]? = some (.raw (.obj none (.mapIter (some b) since (seen.push e.born) clock)))) (he : e ∈ es.toList) (hn : (es.toList.map (·.born)).Nodup) :
    OpOut X fr L o fun v L' => v = .tup [ofV e.key, ofV e.val] ∧ L' = L := by
  intro m a w hR
  have hu := raw_ptr hI (by rw [← hx]; exact opd_rel hR.frel x)
  obtain ⟨ob, hb, hbb, rfl⟩ := hR.wrel.iters id _ hL
  have hbe := hbb b rfl
  rw [hbe] at hb
  obtain ⟨oi, hi, _, rfl⟩ := hR.wrel.iters it _ hI
  have hf : es.find? (·.born == e.born) = some e := by rw [← Array.find?_toList]; exact find_born e es.toList hn he
  have hrun : (Instr.entry (.pointer (some ⟨m.blk it, 0, none⟩))).run X.P w = .ok (.tuple #[e.key, e.val]) w := by
    simp only [Instr.entry, getObj, Sem.run_bind, Sem.run, hi, hb, Result.andThen, Array.back?_push, bne_self_eq_false, Bool.false_eq_true, if_false, hf]
    rfl
  refine ⟨_, _, .tuple #[e.key, e.val], w, m, ?_, ?_, hR.wrel, Ext.refl, rfl, rfl⟩
  · simp [execOp, ho, hu, hrun]
  · simp only [VRel]
    exact ⟨[e.key, e.val], rfl, .cons (ofV_rel m _ _) (.cons (ofV_rel m _ _) (.nil m _))⟩
end
end Go.Eng
