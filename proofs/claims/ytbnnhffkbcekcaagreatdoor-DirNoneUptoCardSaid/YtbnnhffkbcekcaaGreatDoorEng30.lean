/- The engine, part 30: a package-level table, off what a row lays. -/
import Derived.Test.YtbnnhffkbcekcaaGreatDoorEng24
import Derived.OpenShut
namespace Go.Eng
open Go
set_option linter.unusedVariables false
theorem table_of_laid {P : Program} {n : String} {ns : List Int} {k : IntKind} {r : List (String × DataW Unit)} {W : World} {g : Nat} {ti e : TypeId} {N : Nat}
    (h : laidMet P ((n, .agg (ns.map fun i => .lit (.int k i))) :: r) W) (hg : P.globalNamed n = some g) (ht : (P.globals[g]?).map (·.type) = some ti) (hi : P.underlying ti = some (.array N e)) (he : P.underlying e = some (.int k)) (hc1 : P.cellsOf e = 1) (hcN : P.cellsOf ti = N) :
    ∃ c x f, (pinW W).pobj g = some (.cells c x f) ∧ c.toList = ns.map (Value.int k) := by
  obtain ⟨ps, ⟨g0, t0, cs0, f0, p0, q0, hg0, ht0, hv0, hd0, _, e0⟩, _, hrows⟩ := h
  obtain rfl := Option.some.inj (hg.symm.trans hg0)
  obtain rfl := Option.some.inj (ht.symm.trans ht0)
  obtain ⟨xs, m, _, hx, hlen, hxl, hall⟩ := DataW.trod_array hi hd0
  rw [Prod.mk.injEq] at hx
  have hx1 : ns.map (fun i => (DataW.lit (Lit.int k i) : DataW Unit)) = xs.map (·.1) := by
    have := hx.1; injection this
  have hnl : ns.length = N := by
    have := congrArg List.length hx1
    simp only [List.length_map] at this
    omega
  have hcs : cs0.toList = ns.map (Value.int k) := by
    refine List.ext_getElem (by rw [hlen, hcN, List.length_map, hnl]) fun i h1 h2 => ?_
    have hiN : i < N := by rw [List.length_map] at h2; omega
    have hx2 : i < xs.length := by omega
    have := hall i hiN
    rw [hc1, Nat.mul_one, List.getElem?_eq_getElem hx2] at this
    obtain ⟨v, hv, hxi, _⟩ := DataW.trod_int he this
    have h3 : (xs.map (·.1))[i]'(by simpa using hx2) = (DataW.lit (Lit.int k ns[i])) := by
      have : (ns.map (fun i => (DataW.lit (Lit.int k i) : DataW Unit)))[i]'(by simp; omega) = (DataW.lit (Lit.int k ns[i])) := by simp
      simp only [← hx1]; exact this
    rw [List.getElem_map, hxi] at h3
    have hvn : v = ns[i] := by injection h3 with h3; injection h3
    rw [List.drop_eq_getElem_cons h1, List.take_succ_cons, List.take_zero] at hv
    rw [List.getElem_map, ← hvn]
    exact (List.cons.inj hv).1
  simp only [World.var?, hg, Option.bind_some] at hv0
  split at hv0
  · rename_i c t f hw
    cases hv0
    exact ⟨_, _, _, hw, hcs⟩
  · cases hv0
end Go.Eng
