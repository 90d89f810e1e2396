/- The engine, part 27: an operation of a region that is looked at in the model itself; ranges over maps. The engine, part 31: a text of an array's bytes. The engine, part 23: small helpers for its use at rows. The engine, part 24: package-level variables, off what a row lays. The engine, part 30: a package-level table, off what a row lays. -/
import Derived.Test.YtbnnhffkbcekcaaGreatDoorEe
import Derived.Maps.RangeRun
import Derived.Laws.IdiomStrings
import Derived.Test.YtbnnhffkbcekcaaGreatDoorXa
import Derived.Stop.LaidErr
import Derived.FnData
import Derived.OpenShut
set_option linter.unusedVariables false
set_option linter.unusedSimpArgs false
section
namespace Go.Eng
open Go
section
variable {P : Program} {Γ : Env}
theorem run_defer {P : Program} {ρ : Operand → Value} {o : Oper} {w w' : World} {u : Value} (h : (execOp ρ o).run P w = .ok (.value u) w') : ∀ c, o.op ≠ .defer c := by
  intro c hc
  unfold execOp at h
  rw [hc] at h
  simp only [Sem.run_bind] at h
  cases hr : (resolve ρ c o.type).run P w <;> rw [hr] at h <;> simp [Result.andThen] at h
theorem evOps_prefix {R : Option Nat} (hΓ : EnvOk P Γ) {B : Base} (ops : Array Oper) {K : List AV → Heap → Prop} {Q : Exit → Act → World → Prop} {l' : List Oper} (hK : ∀ fr L m a w, K fr L → RS B fr L m a w → wpListIn (fenceR R) 0 P ops Q l' a w) :
    ∀ (l : List Oper) (fr : List AV) (L : Heap) (m : Mem) (a : Act) (w : World), evOps P Γ ops.toList l fr L K → RS B fr L m a w → wpListIn (fenceR R) 0 P ops Q (l ++ l') a w
  | [], fr, L, m, a, w, h, hR => hK fr L m a w h hR
  | o :: l, fr, L, m, a, w, h, hR => by
    obtain ⟨h1, h2, h3⟩ := h
    have := step_sound (P := P) (Γ := Γ) (R := R) hΓ hR.wrel hR.frel ops o (next := wpListIn (fenceR R) 0 P ops Q (l ++ l')) (Q := Q) h1 h2 fun a' w' m' k1 k2 k3 k4 =>
      evOps_prefix hΓ ops hK l _ _ m' a' w' h3 ⟨k1, k2, hR.ext.trans k3, by rw [k4, hR.defers]⟩
    rw [List.cons_append]
    unfold wpListIn
    split
    · rename_i hw; rw [if_pos hw] at this; exact this
    · rename_i hw; rw [if_neg hw] at this; exact this
end
def OpOut (X : Cx) (fr : List AV) (L : Heap) (o : Oper) (Out : AV → Heap → Prop) : Prop :=
  ∀ m a w, RS X.B fr L m a w → ∃ v L' u w' m', (execOp a.eval o).run X.P w = .ok (.value u) w' ∧ VRel m' L' v u ∧ WRel m' L' w' ∧ Ext m L w m' L' w' ∧ Out v L'
theorem Holds.peel {X : Cx} {a b : Code} {k : List It} {fr : List AV} {L : Heap} (h : Holds X (.code a :: .code b :: k) fr L) : Holds X (.code (.seq a b) :: k) fr L := holds_of_ex X 1 _ _ _ h
theorem Holds.peelB {X : Cx} {id : Nat} {b : Code} {k : List It} {fr : List AV} {L : Heap} (h : Holds X (.code b :: .blk id :: k) fr L) : Holds X (.code (.block id b) :: k) fr L := holds_of_ex X 1 _ _ _ h
section
variable {X : Cx} {k : List It} {fr : List AV} {L : Heap}
theorem same_chg (w : World) (g : Nat) {o : Obj} (h : w.heap[g]? = some o) : Chg w w g o := ⟨h, fun _ _ _ => rfl, Nat.le_refl _, Same.refl w⟩
theorem RS.raw {B : Base} {m : Mem} {a : Act} {w : World} (hR : RS B fr L m a w) {id : Nat} {r r' : Raw} {o : Obj} (hL : L[id]? = some (.raw r)) (ho : w.heap[m.blk id]? = some o) (hr : RawRel (m.blk id) r' o) (hnb : ∀ T e l, r' ≠ .bld T e l) :
    RS B fr (L.set id (.raw r')) m a w := by
  obtain ⟨t1, t2⟩ := turn_raw (r := r') hR.wrel hL (same_chg w _ ho) hr hnb
  exact ⟨t1, CRel.mono t2.mono _ _ hR.frel, hR.ext.trans t2, hR.defers⟩
end
end Go.Eng
end
section
namespace Go.Eng
open Go
def RestIn (X : Cx) (ops : Array Oper) (l : List Oper) (k : List It) (fr : List AV) (L : Heap) : Prop :=
  ∀ m a w, RS X.B fr L m a w → wpListIn (fenceR X.R) 0 X.P ops (W X.P X.R X.B X.Q k) l a w
theorem Holds.reg {X : Cx} {id : Nat} {ops : Array Oper} {k : List It} {fr : List AV} {L : Heap} (h : RestIn X ops ops.toList k fr L) : Holds X (.code (.region id ops false) :: k) fr L :=
  fun m a w hR => wpIn_region_list (h m a w hR)
theorem RestIn.nil {X : Cx} {ops : Array Oper} {k : List It} {fr : List AV} {L : Heap} (h : Holds X k fr L) : RestIn X ops [] k fr L := fun m a w hR => h m a w hR
theorem RestIn.ev {X : Cx} {ops : Array Oper} {k : List It} {fr : List AV} {L : Heap} {l : List Oper} (n : Nat) (h : evOps X.P X.Γ ops.toList (l.take n) fr L fun fr1 L1 => RestIn X ops (l.drop n) k fr1 L1) : RestIn X ops l k fr L := by
  intro m a w hR
  have := evOps_prefix X.ok ops (l' := l.drop n) (Q := W X.P X.R X.B X.Q k) (fun fr1 L1 m1 a1 w1 hk hR1 => hk m1 a1 w1 hR1) (l.take n) fr L m a w h hR
  rwa [List.take_append_drop] at this
theorem RestIn.op {X : Cx} {ops : Array Oper} {k : List It} {fr : List AV} {L : Heap} {o : Oper} {l : List Oper} (hg : o.guard = none) {Out : AV → Heap → Prop} (h1 : OpOut X fr L o Out)
    (h2 : ∀ v L', Out v L' → RestIn X ops l k (putA fr o.dst v) L') : RestIn X ops (o :: l) k fr L := by
  intro m a w hR
  obtain ⟨v, L', u, w', m', hrun, hv, hW, hE, hO⟩ := h1 m a w hR
  unfold wpListIn
  have hw : Region.wanted o (yielded ops a.tmps) = true := by simp [Region.wanted, hg]
  rw [if_pos hw]
  refine ⟨fun _ _ => trivial, ?_⟩
  rw [Oper.semAt_eq _ _ _ (run_defer hrun), hrun]
  simp only [Oper.uponIn]
  refine h2 v L' hO m' _ w' ⟨hW, put_rel (CRel.mono hE.mono _ _ hR.frel) o.dst hv, hR.ext.trans hE, ?_⟩
  cases o.dst <;> exact hR.defers
theorem RestIn.call {X : Cx} {ops : Array Oper} {k : List It} {fr : List AV} {L : Heap} {o : Oper} {l : List Oper} (hg : o.guard = none)
    {g : FuncId} {args : Array Operand} {ts : Array TypeId} {fn : Func} (ho : o.op = .call { callee := .value (.func g), args := args, argTypes := ts }) (hfn : X.P.funcs[g]? = some fn) (hb : fn.body.isNone = false) (hn : (fn.name == "runtime.NumGoroutine") = false)
    {Out : AV → Heap → Prop} (h1 : ∀ m a w, RS X.B fr L m a w → Calls X.P g (args.map a.eval) w fun e w' => ∃ v u m' L', e = .returned u ∧ VRel m' L' v u ∧ WRel m' L' w' ∧ Ext m L w m' L' w' ∧ Out v L')
    (h2 : ∀ v L', Out v L' → RestIn X ops l k (putA fr o.dst v) L') : RestIn X ops (o :: l) k fr L := by
  intro m a w hR
  have hcalls := h1 m a w hR
  have hname' : fn.name ≠ "runtime.NumGoroutine" := by simpa using hn
  have hbody' : fn.body ≠ none := by intro h; simp [h] at hb
  have hrun : (execOp a.eval o).run X.P w = .ok (.enter g (args.map a.eval)) w := by
    simp [execOp, ho, resolve, Act.eval, Deferred.ofValue, invoke, callFunc, hfn, hbody', hname']
  unfold wpListIn
  have hw : Region.wanted o (yielded ops a.tmps) = true := by simp [Region.wanted, hg]
  rw [if_pos hw]
  refine ⟨fun _ _ => trivial, ?_⟩
  rw [Oper.semAt_eq _ _ _ (fun q hq => by rw [ho] at hq; cases hq), hrun]
  simp only [Oper.uponIn]
  refine ⟨fun h => (by cases h), CallsIn.mono (calls_R hcalls) ?_⟩
  rintro e w' ⟨v, u, m', L', rfl, hv, hW, hE, hO⟩
  refine h2 v L' hO m' _ w' ⟨hW, put_rel (CRel.mono hE.mono _ _ hR.frel) o.dst hv, hR.ext.trans hE, ?_⟩
  cases o.dst <;> exact hR.defers
section
variable {X : Cx} {k : List It} {fr : List AV} {L : Heap}
end
end Go.Eng
end
section
namespace Go.Eng
open Go
attribute [push_cast] List.append_eq getD_fm getD_fm0 head_fm' toNat_add1 Int.natCast_nonneg
theorem inj_map {α β : Type} {f : α → β} (hf : ∀ a b, f a = f b → a = b) : ∀ {xs ys : List α}, xs.map f = ys.map f → xs = ys
  | [], [], _ => rfl
  | [], _ :: _, h => by simp at h
  | _ :: _, [], h => by simp at h
  | a :: xs, b :: ys, h => by
    simp only [List.map_cons, List.cons.injEq] at h
    rw [hf _ _ h.1, inj_map hf h.2]
theorem mi_iff {k : IntKind} {xs ys : List Int} : xs.map (AV.int k) = ys.map (AV.int k) ↔ xs = ys := ⟨inj_map fun a b h => by injection h, fun h => by rw [h]⟩
theorem ms_iff {xs ys : List (List UInt8)} : xs.map AV.str = ys.map AV.str ↔ xs = ys := ⟨inj_map fun a b h => by injection h, fun h => by rw [h]⟩
theorem mb_iff {xs ys : List Bool} : xs.map AV.bool = ys.map AV.bool ↔ xs = ys := ⟨inj_map fun a b h => by injection h, fun h => by rw [h]⟩
theorem my_iff {xs ys : List UInt8} : xs.map byteAV = ys.map byteAV ↔ xs = ys := ⟨inj_map fun a b h => by
  simp only [byteAV, AV.int.injEq, true_and] at h
  exact UInt8.toNat.inj (by omega), fun h => by rw [h]⟩
theorem inj_fm {α β : Type} {g : α → List β} {n : Nat} (hg : ∀ a b, g a = g b → a = b) (hw : ∀ a, (g a).length = n) (hn : 0 < n) : ∀ {xs ys : List α}, xs.flatMap g = ys.flatMap g → xs = ys
  | [], [], _ => rfl
  | [], b :: ys, h => by have := congrArg List.length h; simp [hw] at this; omega
  | a :: xs, [], h => by have := congrArg List.length h; simp [hw] at this; omega
  | a :: xs, b :: ys, h => by
    simp only [List.flatMap_cons] at h
    obtain ⟨h1, h2⟩ := List.append_inj h (by rw [hw, hw])
    rw [hg _ _ h1, inj_fm hg hw hn h2]
theorem tk_map {α β : Type} (f : α → β) (l : List α) : List.take l.length (l.map f) = l.map f := List.take_of_length_le (by simp)
theorem oc_nil : (Value.slice none 0 0).oneCell' = true := rfl
attribute [push_cast] oc_nil
end Go.Eng
end
section
namespace Go.Eng
open Go
end Go.Eng
end
section
namespace Go.Eng
open Go
end Go.Eng
end
