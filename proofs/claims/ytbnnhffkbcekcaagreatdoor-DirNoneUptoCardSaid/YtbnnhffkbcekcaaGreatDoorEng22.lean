/- The engine, part 22: contracts of the library, proved over the model's own worlds, as contracts here. -/
import Derived.Test.YtbnnhffkbcekcaaGreatDoorEng21
import Derived.RowKit2
namespace Go.Eng
open Go Go.RowKit
set_option linter.unusedVariables false
set_option linter.unusedSimpArgs false
theorem below_world {m : Mem} {L : Heap} {w w' : World} (hW : WRel m L w) (hb : Below w.heap.size w w') : WRel m L w' ∧ Ext m L w m L w' := by
  refine ⟨⟨hW.glob, fun x o' h => ?_, fun id cs sz ver hL hc => ?_, fun id cs sz ver hL hc => hW.nils id cs sz ver hL hc, fun id r hL => ?_, fun i j hi hj e => hW.inj i j hi hj e, fun id ho' => hW.freeo id ho', hW.hid.keep (fun _ _ _ _ h => ⟨h, rfl, rfl⟩) (fun id T e l h _ => hb.block _ (hW.blk_lt (.inr ⟨_, h⟩))) (fun id g k => hb.block _ (hW.hid.lt k)) (fun _ _ k => hW.hid.free _ _ k) (fun _ _ k j hj => hW.hid.own _ _ k j hj)⟩, ?_⟩
  · rw [hb.block _ (hW.pobj_lt h)]; exact hW.pobjs _ _ h
  · obtain ⟨us, rest, elem, lo, hi, h1, h2, h3, h4⟩ := hW.rows id cs sz ver hL hc
    have hlt : m.blk id < w.heap.size := hW.blk_lt (.inl ⟨_, _, _, hL, hc⟩)
    exact ⟨us, rest, elem, lo, hi, by rw [hb.block _ hlt]; exact h1, h2, h3, h4⟩
  · obtain ⟨o', h1, h2⟩ := hW.iters id r hL
    have hlt : m.blk id < w.heap.size := hW.blk_lt (.inr ⟨_, hL⟩)
    exact ⟨o', by rw [hb.block _ hlt]; exact h1, h2⟩
  · exact ⟨fun x hx _ _ => hb.block x hx, hb.size, fun x hx => rfl, fun id h => .inl ⟨h, rfl⟩, Nat.le_refl _, Mono.refl _ _, ⟨hb.os, hb.tape, hb.output⟩, fun _ _ h => .inl h⟩
/-- A CONTRACT OF THE LIBRARY THAT TURNS NOTHING. -/
theorem Con.ofBelow {P : Program} {f : FuncId} (hfn : ∃ fn, P.funcs[f]? = some fn ∧ fn.body.isNone = false ∧ (fn.name == "runtime.NumGoroutine") = false) {lpre : List AV → Prop} {lres : List AV → AV} {q : Bool}
    (h : ∀ (m : Mem) (w : World) (xs : List AV) (vs : List Value), WRel m [] w → CRel m [] xs vs → lpre xs → Calls P f vs.toArray w fun e w' => ∃ v, e = .returned v ∧ VRel m [] (lres xs) v ∧ Below w.heap.size w w') :
    Con P f (lift0 lpre lres (fun _ => []) q) :=
  Con.lift hfn (fun _ _ => rfl) fun m w xs vs hW hx hp => (h m w xs vs hW hx hp).mono fun e w' ⟨v, he, hv, hb⟩ =>
    ⟨v, m, he, hv, (below_world hW hb).1, (below_world hW hb).2⟩
theorem glob_cell {m : Mem} {L : Heap} {w : World} (hW : WRel m L w) {g : Nat} (hg : g ∈ gIface) : ∃ t x, w.cell? ⟨g, 0, none⟩ = some (.iface t x) := by
  obtain ⟨t, x, c, e, f, h1, h2⟩ := hW.glob.1 g hg
  have := hW.pobjs _ _ h1
  exact ⟨t, x, by simp [World.cell?, this, h2]⟩
/-- a contract by plain values, of the library -/
theorem funS_below {P : Program} {f : FuncId} {fn : Func} (hf : P.funcs[f]? = some fn) (hb : fn.body.isNone = false) (hn : (fn.name == "runtime.NumGoroutine") = false) {α : Type} {e : α → List AV} {p : α → Prop} {r : α → AV} {g : α → Heap} {q : Bool}
    (hi : ∀ a b, e a = e b → a = b) (hg : ∀ a, g a = [])
    (h : ∀ (m : Mem) (w : World) (a : α) (vs : List Value), WRel m [] w → CRel m [] (e a) vs → p a → Calls P f vs.toArray w fun y w' => ∃ v, y = .returned v ∧ VRel m [] (r a) v ∧ Below w.heap.size w w') :
    Con P f (funS e p r g q) := by
  have e0 : rsel e g [] = fun _ => [] := by
    funext xs
    unfold rsel
    split
    · exact hg _
    · rfl
  unfold funS
  rw [e0]
  refine Con.ofBelow ⟨fn, hf, hb, hn⟩ fun m w xs vs hW hx hp => ?_
  obtain ⟨a, rfl, ha⟩ := hp
  have := h m w a vs hW hx ha
  rwa [rsel_at hi r .any a]
end Go.Eng
