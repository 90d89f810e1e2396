/- strings.Builder's methods, walked at this program, as contracts over builders. Conditions stand in each. -/
import Derived.Test.YtgemeilncdmapaaGreatDoorEF
import Derived.Test.YtgemeilncdmapaaGreatDoorRows
import Derived.Tactics2
import Derived.BigGuard
namespace Go.Proofs.YtgemeilncdmapaaGreatDoor.bld
open Go Go.Eng Go.RowKit Go.Proofs
set_option linter.unusedVariables false
set_option linter.unusedSimpArgs false
theorem liesB : liesAt Tryz.prog Tryz.prog.depth 65 (2 / Tryz.prog.cellsOf 65) 0 65 1 = true := by kernel_rfl
theorem sizeB : (Tryz.prog.info? 65).map (·.size) = some 2 := by kernel_rfl
theorem byteI : (Tryz.prog.info? 5).map (fun i => (i.zero, i.size, i.bytes)) = some (some (.int .u8 0), 1, 1) := by kernel_rfl
theorem byteC : Tryz.prog.cellsOf 5 = 1 := by kernel_rfl
set_option maxHeartbeats 1000000 in
set_option maxRecDepth 100000 in
theorem check_used (b : Nat) (w : World) (h0 : w.cell? ⟨b, 0, none⟩ = some (.pointer (some ⟨b, 0, none⟩))) :
    Calls Tryz.prog 78 #[.pointer (some ⟨b, 0, none⟩)] w fun e w' => e = .returned (.tuple #[]) ∧ w' = w := by
  obtain ⟨j, hj, _⟩ := Option.map_eq_some_iff.1 sizeB
  go_enter Tryz.func78, Tryz.ntmps78
  go_wp2
  rw [Lib.run_neq_ptr_same w _ Tryz.underlying63 hj]
  go_wp2
  go_end0
  exact ⟨rfl, rfl⟩
set_option maxHeartbeats 1000000 in
set_option maxRecDepth 100000 in
theorem check_fresh (b : Nat) (w : World) (h0 : w.cell? ⟨b, 0, none⟩ = some (.pointer none)) (hsh : w.shape? b = some (65, 2)) (hfz : w.frozen? ⟨b, 0, none⟩ = false) :
    Calls Tryz.prog 78 #[.pointer (some ⟨b, 0, none⟩)] w fun e w' => e = .returned (.tuple #[]) ∧ w' = w.setCell ⟨b, 0, none⟩ (.pointer (some ⟨b, 0, none⟩)) := by
  obtain ⟨j, hj, hjs⟩ := Option.map_eq_some_iff.1 sizeB
  go_enter Tryz.func78, Tryz.ntmps78
  go_wp2
  rw [Lib.run_to_unsafe w ⟨b, 0, none⟩ Tryz.underlying63 Tryz.underlying128 hj (by rw [hjs]; decide) hsh (Nat.zero_lt_succ 1)]
  simp only [Result.andThen]
  rw [Oper.upon_value]
  go_wp2
  rw [run_callFunc_extern Tryz.func103 (by kernel_rfl) (by kernel_rfl) (by kernel_rfl) (e := Extern.AbiNoEscape.same) (by kernel_rfl)]
  rw [Lib.run_noEscape]
  simp only [Result.andThen]
  rw [Oper.upon_value]
  go_wp2
  rw [Lib.run_from_unsafe w ⟨b, 0, none⟩ Tryz.underlying128 Tryz.underlying63 hj hsh liesB]
  simp only [Result.andThen]
  rw [Oper.upon_value]
  go_wp2
  go_end0
  exact ⟨rfl, rfl⟩
theorem check {w : World} {b c : Nat} {e : TypeId} {l : List UInt8} (h : BldAt w b c 65 e l) (hne : c ≠ b + 1) :
    Calls Tryz.prog 78 #[.pointer (some ⟨b, 0, none⟩)] w fun y w' => y = .returned (.tuple #[]) ∧ ∃ v, w'.heap[b]? = some (.cells #[.pointer (some ⟨b, 0, none⟩), v] 65 (0, 0)) ∧ BufAt w' c e l v ∧ Upd (fun k => k = b) w w' := by
  obtain ⟨p, v, hb, hp, hv⟩ := bldAt_iff.1 h
  rcases hp with rfl | rfl
  · refine (check_fresh b w (by rw [Lib.cell_of_heap hb]; rfl) (by simp [World.shape?, hb]) (Lib.frozen_of_heap hb 0)).mono ?_
    rintro y w' ⟨rfl, rfl⟩
    have hU := Upd.setCell w b 0 (.pointer (some ⟨b, 0, none⟩))
    refine ⟨rfl, v, ?_, hv.upd hU fun g hg e => hne (by rw [hg, e]), hU⟩
    simp [World.setCell, Array.getElem?_modify, hb]
  · refine (check_used b w (by rw [Lib.cell_of_heap hb]; rfl)).mono ?_
    rintro y w' ⟨rfl, rfl⟩
    exact ⟨rfl, v, hb, hv, Upd.refl _⟩
set_option maxHeartbeats 2000000 in
set_option maxRecDepth 100000 in
theorem writeString {w : World} {b c : Nat} {l s : List UInt8} (h : BldAt w b c 65 5 l) (hne : c ≠ b + 1) (hlen : l.length + s.length ≤ 140737488355328) :
    Calls Tryz.prog 41 #[.pointer (some ⟨b, 0, none⟩), .string ⟨s.toArray⟩] w fun y w' => y = .returned (.tuple #[.int .i64 s.length, .nilIface]) ∧
      ∃ c', BldAt w' b c' 65 5 (l ++ s) ∧ Upd (fun k => k = b ∨ c = k + 1) w w' ∧ (c' = c ∨ w.heap.size < c') := by
  have hsz : (⟨s.toArray⟩ : ByteArray).size = s.length := by simp [ByteArray.size]
  go_enter Tryz.func41, Tryz.ntmps41
  go_wp2_with (go_at_call 78; refine (check h hne).mono ?_)
  rintro y w1 ⟨rfl, v, hbk, hbuf, hU1⟩
  have c0 : w1.cell? ⟨b, 0, none⟩ = some (.pointer (some ⟨b, 0, none⟩)) := by rw [Lib.cell_of_heap hbk]; rfl
  have c1 : w1.cell? ⟨b, 1, none⟩ = some v := by rw [Lib.cell_of_heap hbk]; rfl
  go_wp2_with (at_builtin; refine wpList_buf_append rfl _ _ 34 9 rfl rfl hbuf Tryz.underlying34 Tryz.underlying9 byteI s rfl hlen ?_)
  intro v' w2 c' hbuf' hU2 hc'
  have hlt : b < w1.heap.size := by
    rcases Nat.lt_or_ge b w1.heap.size with h' | h'
    · exact h'
    · simp [Array.getElem?_eq_none h'] at hbk
  have hb2 : w2.heap[b]? = some (.cells #[.pointer (some ⟨b, 0, none⟩), v] 65 (0, 0)) := by
    rw [hU2.old b hlt hne]
    exact hbk
  have d0 : w2.cell? ⟨b, 0, none⟩ = some (.pointer (some ⟨b, 0, none⟩)) := by rw [Lib.cell_of_heap hb2]; rfl
  have d1 : w2.cell? ⟨b, 1, none⟩ = some v := by rw [Lib.cell_of_heap hb2]; rfl
  have f1 : w2.frozen? ⟨b, 1, none⟩ = false := Lib.frozen_of_heap hb2 1
  have hc1 : c' = c ∨ w.heap.size < c' := by
    rcases hc' with h' | h'
    · exact .inl h'
    · exact .inr (Nat.lt_of_le_of_lt hU1.size h')
  have hcb : c' ≠ b + 1 := by
    rcases hc' with h' | h'
    · rw [h']; exact hne
    · omega
  obtain ⟨ao, n', cap, rfl⟩ : ∃ ao n' cap, v' = .slice ao n' cap := by
    rcases hbuf' with ⟨_, hv, _⟩ | ⟨g, cur, _, hv, _⟩
    · exact ⟨_, _, _, hv⟩
    · exact ⟨_, _, _, hv⟩
  go_wp2
  go_ret2
  refine ⟨by simp only [hsz]; rfl, c', ?_, ?_, hc1⟩
  · have hU3 := Upd.setCell w2 b 1 (.slice ao n' cap)
    refine bldAt_iff.2 ⟨_, _, ?_, .inr rfl, hbuf'.upd hU3 fun g hg e => hcb (by rw [hg, e])⟩
    simp [World.setCell, Array.getElem?_modify, hb2]
  · exact ((hU1.imp fun k hk => .inl hk).trans (hU2.imp fun k hk => .inr hk)).trans ((Upd.setCell w2 b 1 (.slice ao n' cap)).imp fun k hk => .inl hk)
set_option maxHeartbeats 2000000 in
set_option maxRecDepth 100000 in
theorem string {w : World} {b c : Nat} {l : List UInt8} (h : BldAt w b c 65 5 l) (hlen : l.length ≤ 140737488355328) :
    Calls Tryz.prog 43 #[.pointer (some ⟨b, 0, none⟩)] w fun y w' => y = .returned (.string ⟨l.toArray⟩) ∧ Upd (fun k => c = k + 1) w w' := by
  obtain ⟨p, v, hbk, hp, hv⟩ := bldAt_iff.1 h
  clear hp h
  have hlt : b < w.heap.size := by
    rcases Nat.lt_or_ge b w.heap.size with h' | h'
    · exact h'
    · simp [Array.getElem?_eq_none h'] at hbk
  have c1 : w.drew.cell? ⟨b, 1, none⟩ = some v := by
    have : w.drew.heap[b]? = some (.cells #[p, v] 65 (0, 0)) := hbk
    rw [Lib.cell_of_heap this]; rfl
  have hUS0 : ∀ (W : World) (q : Option Addr), (Builtin.unsafeString_ #[106, 3] 9 #[.pointer q, .int .i64 0]).run Tryz.prog W = .ok (.string .empty) W := fun W q => Lib.run_unsafeString_none W _ _ _ q
  rcases hv with ⟨hc0, rfl, rfl⟩ | ⟨g, cur, hc, rfl, hg, hle, hcur⟩
  · have hSD : (Builtin.unsafeSliceData_ #[34] 106 #[.slice none 0 0]).run Tryz.prog w.drew = .ok (.pointer none) w.drew := rfl
    go_enter Tryz.func43, Tryz.ntmps43
    go_wp2
    go_region
    all_goals (go_wp2; go_ret; exact ⟨rfl, Upd.drew (Upd.refl w)⟩)
  · have hg' : w.drew.heap[g]? = some (.cells cur 5 (0, 0)) := hg
    by_cases hl0 : l = []
    · subst hl0
      by_cases hc0 : cur.size = 0
      · rw [hc0] at c1 hbk
        have hSD : (Builtin.unsafeSliceData_ #[34] 106 #[.slice (some ⟨g, 0, none⟩) 0 0]).run Tryz.prog w.drew = .ok (.pointer (some ⟨w.drew.heap.size, 0, none⟩)) (w.drew.alloc (.view ⟨g, 0, none⟩ 5)) :=
          Lib.run_unsafeSliceData_zero w.drew _ _ 5 Tryz.underlying106 ⟨g, 0, none⟩ 0 (5, cur.size) (by simp [World.shape?, hg'])
        have c2 : (w.drew.alloc (.view ⟨g, 0, none⟩ 5)).cell? ⟨b, 1, none⟩ = some (.slice (some ⟨g, 0, none⟩) 0 0) := by
          have : (w.drew.alloc (.view ⟨g, 0, none⟩ 5)).heap[b]? = _ := (Lib.alloc_old w.drew _ b hlt).trans hbk
          rw [Lib.cell_of_heap this]; rfl
        have c3 : (w.alloc (.view ⟨g, 0, none⟩ 5)).drew.cell? ⟨b, 1, none⟩ = some (.slice (some ⟨g, 0, none⟩) 0 0) := c2
        have c0 : w.cell? ⟨b, 1, none⟩ = some (.slice (some ⟨g, 0, none⟩) 0 0) := c1
        go_enter Tryz.func43, Tryz.ntmps43
        go_wp2
        go_region
        all_goals (go_wp2; go_ret; exact ⟨rfl, (Upd.drew (Upd.refl w)).trans (Upd.alloc _ _)⟩)
      · have hSD : (Builtin.unsafeSliceData_ #[34] 106 #[.slice (some ⟨g, 0, none⟩) 0 cur.size]).run Tryz.prog w.drew = .ok (.pointer (some ⟨g, 0, none⟩)) w.drew :=
          Lib.run_unsafeSliceData_row _ _ _ _ _ _ hc0
        clear hc0
        go_enter Tryz.func43, Tryz.ntmps43
        go_wp2
        go_region
        all_goals (go_wp2; go_ret; exact ⟨rfl, Upd.drew (Upd.refl w)⟩)
    · have hl1 : l.length ≠ 0 := by simpa using hl0
      have hSD : (Builtin.unsafeSliceData_ #[34] 106 #[.slice (some ⟨g, 0, none⟩) l.length cur.size]).run Tryz.prog w.drew = .ok (.pointer (some ⟨g, 0, none⟩)) w.drew :=
        Lib.run_unsafeSliceData_row _ _ _ _ _ _ (by omega)
      have hUS : (Builtin.unsafeString_ #[106, 3] 9 #[.pointer (some ⟨g, 0, none⟩), .int .i64 l.length]).run Tryz.prog w.drew = .ok (.string ⟨l.toArray⟩) (w.drew.freeze ⟨g, 0, none⟩ l.length) := by
        refine Lib.run_unsafeString_row w.drew 106 3 9 5 Tryz.underlying106 byteC g cur.size (by simp [World.shape?, hg']) l hl0 hle (by omega) ?_
        intro j x hx
        rw [Addr.add_lit, Nat.zero_add]
        simp [World.cell?, hg', hcur j x hx]
      clear hUS0
      have hfin : Upd (fun k => c = k + 1) w (w.drew.freeze ⟨g, 0, none⟩ l.length) := (Upd.drew (Upd.refl w)).trans ((Upd.freeze w.drew g 0 l.length).imp fun k hk => by rw [hc, hk])
      go_enter Tryz.func43, Tryz.ntmps43
      go_wp2
      go_region
      all_goals (go_wp2; go_ret; exact ⟨rfl, hfin⟩)
theorem con_ws {α : Type} {d : Bool} {e : α → List AV × Heap} {p : α → Prop} {r : α → AV} {h : α → Heap} (hi : ∀ a b, e a = e b → a = b)
    (hh : ∀ a, ∃ l s, e a = ([.ref 0 0 0, .str s], [.raw (.bld 65 5 l)]) ∧ (p a → l.length + s.length ≤ 140737488355328) ∧ r a = .tup [.int .i64 s.length, .lit .nilIface] ∧ h a = [.raw (.bld 65 5 (l ++ s))]) : Con Tryz.prog 41 (heapE d e p r h) := by
  refine Con.liftH ⟨_, Tryz.func41, by kernel_rfl, by kernel_rfl⟩ ?_
  intro m L0 w xs vs hW hx hp
  obtain ⟨a, ha, hpa⟩ := hp
  obtain ⟨l, s, h1, h2, h3, h4⟩ := hh a
  have e1 : rselK e r .any (xs, L0) = r a := by rw [ha]; exact rselK_at hi r .any a
  have e2 : rselK e h [] (xs, L0) = h a := by rw [ha]; exact rselK_at hi h [] a
  show Calls Tryz.prog _ _ w (Post m L0 w (rselK e r .any (xs, L0)) (rselK e h [] (xs, L0)))
  rw [e1, e2, h3, h4]
  rw [h1] at ha
  cases ha
  simp only [CRel] at hx
  obtain ⟨u, us, rfl, hu, u2, us2, rfl, hu2, rfl⟩ := hx
  have := ref_raw hu
  subst this
  simp only [VRel] at hu2
  subst hu2
  have hat := hW.hid.at_ 0 _ _ _ rfl
  refine (writeString hat (fun hc => hW.hid.own 0 (m.blk 0) ⟨_, _, _, rfl, hc⟩ 0 (.inr ⟨_, rfl⟩) rfl) (h2 hpa)).mono ?_
  rintro y w' ⟨rfl, c', k1, k2, k3⟩
  obtain ⟨q1, q2⟩ := bld_next hW k1 k2 k3
  exact ⟨_, _, rfl, by simp [VRel, CRel], q1, q2⟩
theorem con_st {α : Type} {d : Bool} {e : α → List AV × Heap} {p : α → Prop} {r : α → AV} {h : α → Heap} (hi : ∀ a b, e a = e b → a = b)
    (hh : ∀ a, ∃ l, e a = ([.ref 0 0 0], [.raw (.bld 65 5 l)]) ∧ (p a → l.length ≤ 140737488355328) ∧ r a = .str l ∧ h a = [.raw .gone]) : Con Tryz.prog 43 (heapE d e p r h) := by
  refine Con.liftH ⟨_, Tryz.func43, by kernel_rfl, by kernel_rfl⟩ ?_
  intro m L0 w xs vs hW hx hp
  obtain ⟨a, ha, hpa⟩ := hp
  obtain ⟨l, h1, h2, h3, h4⟩ := hh a
  have e1 : rselK e r .any (xs, L0) = r a := by rw [ha]; exact rselK_at hi r .any a
  have e2 : rselK e h [] (xs, L0) = h a := by rw [ha]; exact rselK_at hi h [] a
  show Calls Tryz.prog _ _ w (Post m L0 w (rselK e r .any (xs, L0)) (rselK e h [] (xs, L0)))
  rw [e1, e2, h3, h4]
  rw [h1] at ha
  cases ha
  simp only [CRel] at hx
  obtain ⟨u, us, rfl, hu, rfl⟩ := hx
  have := ref_raw hu
  subst this
  have hat := hW.hid.at_ 0 _ _ _ rfl
  refine (string hat (h2 hpa)).mono ?_
  rintro y w' ⟨rfl, k2⟩
  obtain ⟨q1, q2⟩ := bld_gone hW k2
  exact ⟨_, _, rfl, by simp [VRel], q1, q2⟩
set_option maxHeartbeats 2000000 in
set_option maxRecDepth 100000 in
theorem blen {w : World} {b c : Nat} {l : List UInt8} (h : BldAt w b c 65 5 l) :
    Calls Tryz.prog 42 #[.pointer (some ⟨b, 0, none⟩)] w fun y w' => y = .returned (.int .i64 l.length) ∧ w' = w := by
  obtain ⟨p, v, hbk, hp, hv⟩ := bldAt_iff.1 h
  clear hp h
  have c1 : w.cell? ⟨b, 1, none⟩ = some v := by rw [Lib.cell_of_heap hbk]; rfl
  rcases hv with ⟨hc0, rfl, rfl⟩ | ⟨g, cur, hc, rfl, hg, hle, hcur⟩
  · go_enter Tryz.func42, Tryz.ntmps42
    go_wp2
    go_ret
    exact ⟨rfl, rfl⟩
  · go_enter Tryz.func42, Tryz.ntmps42
    go_wp2
    go_ret
    exact ⟨rfl, rfl⟩
theorem con_bl {α : Type} {d : Bool} {e : α → List AV × Heap} {p : α → Prop} {r : α → AV} {h : α → Heap} (hi : ∀ a b, e a = e b → a = b)
    (hh : ∀ a, ∃ l, e a = ([.ref 0 0 0], [.raw (.bld 65 5 l)]) ∧ r a = .int .i64 l.length ∧ h a = [.raw (.bld 65 5 l)]) : Con Tryz.prog 42 (heapE d e p r h) := by
  refine Con.liftH ⟨_, Tryz.func42, by kernel_rfl, by kernel_rfl⟩ ?_
  intro m L0 w xs vs hW hx hp
  obtain ⟨a, ha, hpa⟩ := hp
  obtain ⟨l, h1, h3, h4⟩ := hh a
  have e1 : rselK e r .any (xs, L0) = r a := by rw [ha]; exact rselK_at hi r .any a
  have e2 : rselK e h [] (xs, L0) = h a := by rw [ha]; exact rselK_at hi h [] a
  show Calls Tryz.prog _ _ w (Post m L0 w (rselK e r .any (xs, L0)) (rselK e h [] (xs, L0)))
  rw [e1, e2, h3, h4]
  rw [h1] at ha
  cases ha
  simp only [CRel] at hx
  obtain ⟨u, us, rfl, hu, rfl⟩ := hx
  have := ref_raw hu
  subst this
  have hat := hW.hid.at_ 0 _ _ _ rfl
  refine (blen hat).mono ?_
  rintro y w' ⟨rfl, rfl⟩
  exact ⟨_, _, rfl, by simp [VRel], hW, Ext.refl⟩
noncomputable section
def e41 : (List UInt8) × (List UInt8) → List AV × Heap := fun (l, s) => ([.ref 0 0 0, .str s], [.raw (.bld 65 5 l)])
def p41 : (List UInt8) × (List UInt8) → Prop := fun (l, s) => l.length + s.length ≤ 140737488355328
def r41 : (List UInt8) × (List UInt8) → AV := fun (l, s) => .tup [.int .i64 s.length, .lit .nilIface]
def g41 : (List UInt8) × (List UInt8) → Heap := fun (l, s) => [.raw (.bld 65 5 (l ++ s))]
theorem inj41 : ∀ a b, e41 a = e41 b → a = b := by
  rintro ⟨l, s⟩ ⟨l', s'⟩ h
  simp only [e41, my_iff, AObj.raw.injEq, Raw.bld.injEq, Prod.mk.injEq, List.cons.injEq, AObj.row.injEq, AV.int.injEq, AV.str.injEq, AV.bool.injEq, AV.sl.injEq, AV.agg.injEq, AV.ip.injEq, AV.fn.injEq, AV.ifc.injEq, AV.mpr.injEq, AV.msl.injEq, AV.ref.injEq, Int.natCast_inj, and_true, true_and] at h
  simp_all only
noncomputable def S41 : FSpec := heapE false e41 p41 r41 g41
theorem ps41 (l : (List UInt8)) (s : (List UInt8)) : pselK e41 p41 ([.ref 0 0 0, .str s], [.raw (.bld 65 5 l)]) = (l.length + s.length ≤ 140737488355328) := pselK_at inj41 p41 (l, s)
theorem rs41 (l : (List UInt8)) (s : (List UInt8)) : rselK e41 r41 .any ([.ref 0 0 0, .str s], [.raw (.bld 65 5 l)]) = (.tup [.int .i64 s.length, .lit .nilIface]) := rselK_at inj41 r41 .any (l, s)
theorem hs41 (l : (List UInt8)) (s : (List UInt8)) : rselK e41 g41 [] ([.ref 0 0 0, .str s], [.raw (.bld 65 5 l)]) = ([.raw (.bld 65 5 (l ++ s))]) := rselK_at inj41 g41 [] (l, s)
attribute [push_cast] S41 ps41 rs41 hs41
theorem con41 : Con Tryz.prog 41 S41 := con_ws inj41 fun ⟨l, s⟩ => ⟨l, s, rfl, id, rfl, rfl⟩
def e43 : (List UInt8) → List AV × Heap := fun l => ([.ref 0 0 0], [.raw (.bld 65 5 l)])
def p43 : (List UInt8) → Prop := fun l => l.length ≤ 140737488355328
def r43 : (List UInt8) → AV := fun l => .str l
def g43 : (List UInt8) → Heap := fun l => [.raw .gone]
theorem inj43 : ∀ a b, e43 a = e43 b → a = b := by
  rintro l l' h
  simp only [e43, my_iff, AObj.raw.injEq, Raw.bld.injEq, Prod.mk.injEq, List.cons.injEq, AObj.row.injEq, AV.int.injEq, AV.str.injEq, AV.bool.injEq, AV.sl.injEq, AV.agg.injEq, AV.ip.injEq, AV.fn.injEq, AV.ifc.injEq, AV.mpr.injEq, AV.msl.injEq, AV.ref.injEq, Int.natCast_inj, and_true, true_and] at h
  simp_all only
noncomputable def S43 : FSpec := heapE false e43 p43 r43 g43
theorem ps43 (l : (List UInt8)) : pselK e43 p43 ([.ref 0 0 0], [.raw (.bld 65 5 l)]) = (l.length ≤ 140737488355328) := pselK_at inj43 p43 l
theorem rs43 (l : (List UInt8)) : rselK e43 r43 .any ([.ref 0 0 0], [.raw (.bld 65 5 l)]) = (.str l) := rselK_at inj43 r43 .any l
theorem hs43 (l : (List UInt8)) : rselK e43 g43 [] ([.ref 0 0 0], [.raw (.bld 65 5 l)]) = ([.raw .gone]) := rselK_at inj43 g43 [] l
attribute [push_cast] S43 ps43 rs43 hs43
theorem con43 : Con Tryz.prog 43 S43 := con_st inj43 fun l => ⟨l, rfl, id, rfl, rfl⟩
def e42 : (List UInt8) → List AV × Heap := fun l => ([.ref 0 0 0], [.raw (.bld 65 5 l)])
def p42 : (List UInt8) → Prop := fun l => l.length ≤ 140737488355328
def r42 : (List UInt8) → AV := fun l => .int .i64 l.length
def g42 : (List UInt8) → Heap := fun l => [.raw (.bld 65 5 l)]
theorem inj42 : ∀ a b, e42 a = e42 b → a = b := by
  rintro l l' h
  simp only [e42, my_iff, AObj.raw.injEq, Raw.bld.injEq, Prod.mk.injEq, List.cons.injEq, AObj.row.injEq, AV.int.injEq, AV.str.injEq, AV.bool.injEq, AV.sl.injEq, AV.agg.injEq, AV.ip.injEq, AV.fn.injEq, AV.ifc.injEq, AV.mpr.injEq, AV.msl.injEq, AV.ref.injEq, Int.natCast_inj, and_true, true_and] at h
  simp_all only
noncomputable def S42 : FSpec := heapE false e42 p42 r42 g42
theorem ps42 (l : (List UInt8)) : pselK e42 p42 ([.ref 0 0 0], [.raw (.bld 65 5 l)]) = (l.length ≤ 140737488355328) := pselK_at inj42 p42 l
theorem rs42 (l : (List UInt8)) : rselK e42 r42 .any ([.ref 0 0 0], [.raw (.bld 65 5 l)]) = (.int .i64 l.length) := rselK_at inj42 r42 .any l
theorem hs42 (l : (List UInt8)) : rselK e42 g42 [] ([.ref 0 0 0], [.raw (.bld 65 5 l)]) = ([.raw (.bld 65 5 l)]) := rselK_at inj42 g42 [] l
attribute [push_cast] S42 ps42 rs42 hs42
theorem con42 : Con Tryz.prog 42 S42 := con_bl inj42 fun l => ⟨l, rfl, rfl, rfl⟩
end
end Go.Proofs.YtgemeilncdmapaaGreatDoor.bld
