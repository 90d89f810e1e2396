/- strings.Builder's methods, walked at this program, as contracts over builders. Conditions stand in each. -/
import Derived.Test.YtgemeilncdmapaaGreatDoorEF
import Derived.Test.YtgemeilncdmapaaGreatDoorRows
import Derived.Tactics2
import Derived.BigGuard
namespace Go.Proofs.YtgemeilncdmapaaGreatDoor.bld
open Go Go.Eng Go.RowKit Go.Proofs
set_option linter.unusedVariables false
set_option linter.unusedSimpArgs false
theorem byteC : Tryz.prog.cellsOf 5 = 1 := by kernel_rfl
set_option maxHeartbeats 1000000 in
set_option maxRecDepth 100000 in
set_option maxHeartbeats 1000000 in
set_option maxRecDepth 100000 in
set_option maxHeartbeats 2000000 in
set_option maxRecDepth 100000 in
set_option maxHeartbeats 2000000 in
set_option maxRecDepth 100000 in
theorem string {w : World} {b c : Nat} {l : List UInt8} (h : BldAt w b c 65 5 l) (hlen : l.length ≤ 140737488355328) :
    Calls Tryz.prog 43 #[.pointer (some ⟨b, 0, none⟩)] w fun y w' => y = .returned (.string ⟨l.toArray⟩) ∧ Upd (fun k => c = k + 1) w w' := by
  obtain ⟨p, v, hbk, hp, hv⟩ := bldAt_iff.1 h
  clear hp h
  have hlt : b < w.heap.size := by
    rcases Nat.lt_or_ge b w.heap.size with h' | h'
    · exact h'
    · simp [Array.getElem?_eq_none h'] at hbk
  have c1 : w.drew.cell? ⟨b, 1, none⟩ = some v := by
    have : w.drew.heap[b]? = some (.cells #[p, v] 65 (0, 0)) := hbk
    rw [Lib.cell_of_heap this]; rfl
  have hUS0 : ∀ (W : World) (q : Option Addr), (Builtin.unsafeString_ #[106, 3] 9 #[.pointer q, .int .i64 0]).run Tryz.prog W = .ok (.string .empty) W := fun W q => Lib.run_unsafeString_none W _ _ _ q
  rcases hv with ⟨hc0, rfl, rfl⟩ | ⟨g, cur, hc, rfl, hg, hle, hcur⟩
  · have hSD : (Builtin.unsafeSliceData_ #[34] 106 #[.slice none 0 0]).run Tryz.prog w.drew = .ok (.pointer none) w.drew := rfl
    go_enter Tryz.func43, Tryz.ntmps43
    go_wp2
    go_region
    all_goals (go_wp2; go_ret; exact ⟨rfl, Upd.drew (Upd.refl w)⟩)
  · have hg' : w.drew.heap[g]? = some (.cells cur 5 (0, 0)) := hg
    by_cases hl0 : l = []
    · subst hl0
      by_cases hc0 : cur.size = 0
      · rw [hc0] at c1 hbk
        have hSD : (Builtin.unsafeSliceData_ #[34] 106 #[.slice (some ⟨g, 0, none⟩) 0 0]).run Tryz.prog w.drew = .ok (.pointer (some ⟨w.drew.heap.size, 0, none⟩)) (w.drew.alloc (.view ⟨g, 0, none⟩ 5)) :=
          Lib.run_unsafeSliceData_zero w.drew _ _ 5 Tryz.underlying106 ⟨g, 0, none⟩ 0 (5, cur.size) (by simp [World.shape?, hg'])
        have c2 : (w.drew.alloc (.view ⟨g, 0, none⟩ 5)).cell? ⟨b, 1, none⟩ = some (.slice (some ⟨g, 0, none⟩) 0 0) := by
          have : (w.drew.alloc (.view ⟨g, 0, none⟩ 5)).heap[b]? = _ := (Lib.alloc_old w.drew _ b hlt).trans hbk
          rw [Lib.cell_of_heap this]; rfl
        have c3 : (w.alloc (.view ⟨g, 0, none⟩ 5)).drew.cell? ⟨b, 1, none⟩ = some (.slice (some ⟨g, 0, none⟩) 0 0) := c2
        have c0 : w.cell? ⟨b, 1, none⟩ = some (.slice (some ⟨g, 0, none⟩) 0 0) := c1
        go_enter Tryz.func43, Tryz.ntmps43
        go_wp2
        go_region
        all_goals (go_wp2; go_ret; exact ⟨rfl, (Upd.drew (Upd.refl w)).trans (Upd.alloc _ _)⟩)
      · have hSD : (Builtin.unsafeSliceData_ #[34] 106 #[.slice (some ⟨g, 0, none⟩) 0 cur.size]).run Tryz.prog w.drew = .ok (.pointer (some ⟨g, 0, none⟩)) w.drew :=
          Lib.run_unsafeSliceData_row _ _ _ _ _ _ hc0
        clear hc0
        go_enter Tryz.func43, Tryz.ntmps43
        go_wp2
        go_region
        all_goals (go_wp2; go_ret; exact ⟨rfl, Upd.drew (Upd.refl w)⟩)
    · have hl1 : l.length ≠ 0 := by simpa using hl0
      have hSD : (Builtin.unsafeSliceData_ #[34] 106 #[.slice (some ⟨g, 0, none⟩) l.length cur.size]).run Tryz.prog w.drew = .ok (.pointer (some ⟨g, 0, none⟩)) w.drew :=
        Lib.run_unsafeSliceData_row _ _ _ _ _ _ (by omega)
      have hUS : (Builtin.unsafeString_ #[106, 3] 9 #[.pointer (some ⟨g, 0, none⟩), .int .i64 l.length]).run Tryz.prog w.drew = .ok (.string ⟨l.toArray⟩) (w.drew.freeze ⟨g, 0, none⟩ l.length) := by
        refine Lib.run_unsafeString_row w.drew 106 3 9 5 Tryz.underlying106 byteC g cur.size (by simp [World.shape?, hg']) l hl0 hle (by omega) ?_
        intro j x hx
        rw [Addr.add_lit, Nat.zero_add]
        simp [World.cell?, hg', hcur j x hx]
      clear hUS0
      have hfin : Upd (fun k => c = k + 1) w (w.drew.freeze ⟨g, 0, none⟩ l.length) := (Upd.drew (Upd.refl w)).trans ((Upd.freeze w.drew g 0 l.length).imp fun k hk => by rw [hc, hk])
      go_enter Tryz.func43, Tryz.ntmps43
      go_wp2
      go_region
      all_goals (go_wp2; go_ret; exact ⟨rfl, hfin⟩)
set_option maxHeartbeats 2000000 in
set_option maxRecDepth 100000 in
noncomputable section
end
end Go.Proofs.YtgemeilncdmapaaGreatDoor.bld
