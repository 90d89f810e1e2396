/- The engine, part 24: package-level variables, off what a row lays. -/
import Derived.Test.YtbnnhffkbcekcaaGreatDoorEng23
import Derived.Stop.LaidErr
import Derived.FnData
namespace Go.Eng
open Go
set_option linter.unusedVariables false
theorem glob_of_laid {P : Program} {n nm : String} {d : DataW Unit} {r : List (String × DataW Unit)} {W : World} {g : Nat} {ti : TypeId} {ms : Array (String × TypeId)}
    (h : laidMet P ((n, .iface nm d) :: r) W) (hg : P.globalNamed n = some g) (ht : (P.globals[g]?).map (·.type) = some ti) (hi : P.underlying ti = some (.interface ms)) :
    ∃ t x c e f, (pinW W).pobj g = some (.cells c e f) ∧ c[0]? = some (.iface t x) := by
  obtain ⟨ps, ⟨g0, t0, cs0, f0, p0, q0, hg0, ht0, hv0, hd0, _, e0⟩, _, hrows⟩ := h
  obtain rfl := Option.some.inj (hg.symm.trans hg0)
  obtain rfl := Option.some.inj (ht.symm.trans ht0)
  obtain ⟨f1, u, v, hc, hn, h1⟩ := iface_of_trod hi hd0
  have h2 := World.var?_cell hg0 hv0 0
  have h3 : cs0[0]? = some (.iface u v) := by
    rw [← Array.getElem?_toList, hc]; rfl
  rw [h3] at h2
  unfold World.cell? at h2
  split at h2
  · rename_i c e f hw
    exact ⟨u, v, c, e, f, hw, by simpa using h2⟩
  · cases h2
end Go.Eng
