/- The engine, part 8: every operation of the evaluator is sound. -/
import Derived.Test.YtbnnhffkbcekcaaGreatDoorEng7M
namespace Go.Eng
open Go
set_option linter.unusedVariables false
set_option linter.unusedSimpArgs false
section
variable {P : Program} {m : Mem} {L : Heap} {w : World}

theorem makeSlice_sound (hW : WRel m L w) (t : TypeId) {X Y : AV} {u v : Value} (hx : VRel m L X u) (hy : VRel m L Y v) : Sound P m L w (makeSliceR P true L t X Y) (vSem (Instr.makeSlice t u v)) := by
  unfold makeSliceR
  split
  · rename_i e k1 l k2 k hu
    intro hp
    obtain ⟨-, hek, h0, hlk, hroom⟩ := hp
    simp only [VRel] at hx hy; subst hx hy
    obtain ⟨hz, hzl, hs, hb⟩ := elemOk_parts hek
    obtain ⟨z, i, hi, hzi, hza, hzr⟩ := zero_parts (w := w) hz
    have hsz := run_sizeOf' (P := P) (w := w) (t := e) (by rw [hi]; rfl)
    obtain ⟨i', hie, hcs, hby⟩ := run_info' (P := P) (t := e) (by rw [hi]; rfl)
    rw [hi] at hie; obtain rfl := Option.some.inj hie
    have hb' : (0 : Int) < P.bytesOf e := by omega
    have hkr : k ≤ 281474976710656 := by
      have h1 : k * 1 ≤ k * (P.bytesOf e : Int) := Int.mul_le_mul_of_nonneg_left (by omega) (by omega)
      omega
    have hwl : IntKind.i64.wrap l = l := IntWalk.i64_in l (by omega)
    have hwk : IntKind.i64.wrap k = k := IntWalk.i64_in k (by omega)
    have hzc : CRel m L (zeroA P e).cells z.cells.toList := by rw [hza]; exact ofV_cells z
    have hzcl := hzc.length
    have hzs : z.cells.size = P.cellsOf e := by simp at hzcl; omega
    obtain ⟨zs, hzs'⟩ : ∃ zs : List Value, zs = ((Array.range (k.toNat * P.cellsOf e)).map (z.cells[· % z.cells.size]!)).toList := ⟨_, rfl⟩
    have hzlen : zs.length = k.toNat * P.cellsOf e := by rw [hzs']; simp
    have hrel := zeros_rel hzc l.toNat (by omega)
    rw [hzl] at hrel
    have htake : ((Array.range (l.toNat * P.cellsOf e)).map (z.cells[· % z.cells.size]!)).toList = zs.take (l.toNat * P.cellsOf e) := by
      rw [hzs']
      simp only [Array.toList_map, Array.toList_range, ← List.map_take]
      congr 1
      rw [List.take_range]
      congr 1
      have : l.toNat * P.cellsOf e ≤ k.toNat * P.cellsOf e := Nat.mul_le_mul_right _ (by omega)
      omega
    rw [htake] at hrel
    have hP : Pushed w (w.alloc (.cells zs.toArray e)) (.cells (zs.take (l.toNat * P.cellsOf e) ++ zs.drop (l.toNat * P.cellsOf e)).toArray e (0, 0)) := by
      rw [List.take_append_drop]; exact ⟨rfl, rfl, rfl, rfl⟩
    have hpr := push_row (sz := P.cellsOf e) (c := k.toNat) hW hP hrel (by rw [← List.length_append, List.take_append_drop, hzlen]) (.inl rfl)
    refine ⟨.value (.slice (some ⟨w.heap.size, 0, none⟩) l.toNat k.toNat), _, _, ?_, .inl ⟨_, rfl, ?_⟩, hpr, ext_push _ _ hP.keep⟩
    · have hti : (typeInfo e).run P w = .ok i w := by simp [typeInfo, hi]
      have c1 : ¬ (281474976710656 : Int) < i.bytes * k := by rw [← hby, Int.mul_comm]; omega
      have c2 : ¬ (281474976710656 : Int) < i.bytes * l := by
        have : (i.bytes : Int) * l ≤ i.bytes * k := Int.mul_le_mul_of_nonneg_left hlk (by omega)
        omega
      have e1 : ((Array.range (k.toNat * P.cellsOf e)).map (z.cells[· % z.cells.size]!)) = zs.toArray := by rw [hzs']
      by_cases hk0 : k.toNat * P.cellsOf e = 0
      · have : zs = [] := List.eq_nil_of_length_eq_zero (by rw [hzlen, hk0])
        simp [vSem, Instr.makeSlice, run_underlying' hu, asInt, asIntOf, hti, hwl, hwk, c1, c2, show ¬ k < 0 by omega, show ¬ l < 0 by omega, show ¬ k < l by omega, hsz, hk0, newRow, this]
        congr 2
        exact Array.eq_empty_of_size_eq_zero (by simp)
      · simp [vSem, Instr.makeSlice, run_underlying' hu, asInt, asIntOf, hti, hwl, hwk, c1, c2, show ¬ k < 0 by omega, show ¬ l < 0 by omega, show ¬ k < l by omega, hsz, hk0, newRow, hzr, e1]
    · exact new_msl _ _ _ _ _ (by rw [reps_length, hzl]; exact Nat.le_refl _) (by omega)
  · exact fun h => h.elim

theorem nilCheck_sound (hW : WRel m L w) {X : AV} {u : Value} (hx : VRel m L X u) (o : Oper) (x : Operand) (ρ : Operand → Value) (ho : o.op = .nilCheck x) (hu : ρ x = u) : Sound P m L w (nilCheckR true L X) (execOp ρ o) := by
  unfold nilCheckR
  split
  · rename_i id ver off
    intro hp
    have := ref_ptr hx (hp rfl)
    subst this
    refine ⟨.value _, w, m, ?_, .inl ⟨_, rfl, hx⟩, hW, Ext.refl⟩
    simp [execOp, ho, hu]
  · rename_i cs
    intro _
    have hx' := hx
    simp only [VRel] at hx'
    obtain ⟨us, g, o', rfl, _⟩ := hx'
    refine ⟨.value _, w, m, ?_, .inl ⟨_, rfl, hx⟩, hW, Ext.refl⟩
    simp [execOp, ho, hu]
  · rename_i f a b
    intro _
    have hx' := hx
    simp only [VRel] at hx'
    obtain ⟨us, vs, rfl, _⟩ := hx'
    refine ⟨.value _, w, m, ?_, .inl ⟨_, rfl, hx⟩, hW, Ext.refl⟩
    simp [execOp, ho, hu]
  · exact fun h => h.elim

theorem needAll_rel {fr : List AV} {a : Act} (h : CRel m L fr a.tmps.toList) : ∀ (xs : List Operand), needAll true (xs.map (opd fr)) → CRel m L (xs.map fun x => (opd fr x).bare) (xs.map a.eval)
  | [], _ => by simp [CRel]
  | x :: xs, hn => by
    simp only [List.map_cons]
    refine CRel.cons (bare_rel (opd_rel h x) (hn _ (by simp) rfl)) (needAll_rel h xs fun y hy => hn y (by simp only [List.map_cons]; exact List.mem_cons_of_mem _ hy))

theorem parts_rel {fr : List AV} {a : Act} (h : CRel m L fr a.tmps.toList) (parts : Array (Nat × Operand)) (hn : needAll true (parts.toList.map fun p => opd fr p.2)) :
    (partsA fr parts).map (·.1) = (parts.map fun (i, x) => (i, a.eval x)).toList.map (·.1) ∧
    ∀ (j : Nat) (q : Nat × AV) (r : Nat × Value), (partsA fr parts)[j]? = some q → (parts.map fun (i, x) => (i, a.eval x)).toList[j]? = some r → VRel m L q.2 r.2 := by
  refine ⟨by simp [partsA, List.map_map, Function.comp_def], fun j q r hq hr => ?_⟩
  simp only [partsA, List.getElem?_map, Option.map_eq_some_iff, Array.toList_map] at hq hr
  obtain ⟨p, hp, rfl⟩ := hq
  obtain ⟨p', hp', rfl⟩ := hr
  rw [hp] at hp'
  obtain rfl := Option.some.inj hp'
  exact bare_rel (opd_rel h p.2) (hn _ (List.mem_map.2 ⟨p, List.mem_of_getElem? hp, rfl⟩) rfl)

theorem orel {fr : List AV} {a : Act} (h : CRel m L fr a.tmps.toList) (x : Option Operand) (hn : needO true fr x) : ORel m L (optB fr x) (x.map a.eval) := by
  cases x with
  | none => simp [optB, ORel]
  | some x => simp only [optB, Option.map_some, ORel]; exact bare_rel (opd_rel h x) (hn rfl)

set_option maxHeartbeats 1000000 in
theorem min_sound {P : Program} {m : Mem} {L : Heap} {w : World} (hW : WRel m L w) (ts : List TypeId) (ty : TypeId) {X Y : AV} {u v : Value} (hx : VRel m L X u) (hy : VRel m L Y v) : Sound P m L w (minR L true X Y) (vSem (Builtin.min_ ⟨ts⟩ ty #[u, v])) := by
  unfold minR
  split
  · rename_i k a k' b
    intro _
    simp only [VRel] at hx hy
    subst hx; subst hy
    refine ⟨.value (.int k (min a b)), w, m, ?_, .inl ⟨_, rfl, by simp [VRel]⟩, hW, Ext.refl⟩
    simp [vSem, Builtin.min_, Builtin.min2]
    omega
  · exact Sound.bad
theorem max_sound {P : Program} {m : Mem} {L : Heap} {w : World} (hW : WRel m L w) (ts : List TypeId) (ty : TypeId) {X Y : AV} {u v : Value} (hx : VRel m L X u) (hy : VRel m L Y v) : Sound P m L w (minR L false X Y) (vSem (Builtin.max_ ⟨ts⟩ ty #[u, v])) := by
  unfold minR
  split
  · rename_i k a k' b
    intro _
    simp only [VRel] at hx hy
    subst hx; subst hy
    refine ⟨.value (.int k (max a b)), w, m, ?_, .inl ⟨_, rfl, by simp [VRel]⟩, hW, Ext.refl⟩
    simp [vSem, Builtin.max_, Builtin.max2]
    omega
  · exact Sound.bad

theorem ev_sound (hW : WRel m L w) {fr : List AV} {a : Act} (h : CRel m L fr a.tmps.toList) (o : Oper) : Sound P m L w (ev P true fr L o.op) (execOp a.eval o) := by
  have R : ∀ x, (opd fr x).cond = true → VRel m L (opd fr x).bare (a.eval x) := fun x hc => bare_rel (opd_rel h x) hc
  obtain ⟨dst, op, ty, pos, after, guard⟩ := o
  cases op <;> try exact fun h => h.elim
  case move x => exact fun hp => ⟨.value (a.eval x), w, m, rfl, .inl ⟨_, rfl, R x (hp rfl)⟩, hW, Ext.refl⟩
  case assign x => exact fun hp => ⟨.value (a.eval x), w, m, rfl, .inl ⟨_, rfl, R x (hp rfl)⟩, hW, Ext.refl⟩
  case pick q x y =>
    simp only [ev, pickR]
    split
    · rename_i t ht
      intro hp
      obtain ⟨h1, h2, h3⟩ := hp
      have hq := R q (h1 rfl)
      rw [ht] at hq
      simp only [VRel] at hq
      refine ⟨.value (if t then a.eval x else a.eval y), w, m, ?_, .inl ⟨_, rfl, ?_⟩, hW, Ext.refl⟩
      · simp [execOp, hq, asBool]
      · refine pickV_rel (fun ht => ?_) (fun ht => ?_)
        · subst ht; exact R x (h2 rfl)
        · subst ht; exact R y (h3 rfl)
    · exact Sound.bad
  case binOp op t x y yt => exact Sound.also fun ⟨h1, h2⟩ => bin_sound hW op t x y (R x (h1 rfl)) (R y (h2 rfl))
  case unOp op t x => exact Sound.also fun h1 => un_sound hW op (R x (h1 rfl))
  case convert s d x => exact Sound.also fun h1 => conv_sound hW s d (R x (h1 rfl))
  case index t x i => exact Sound.also fun ⟨h1, h2⟩ => index_sound hW t (R x (h1 rfl)) (R i (h2 rfl))
  case indexAddr t x i => exact Sound.also fun ⟨h1, h2⟩ => indexAddr_sound hW t (R x (h1 rfl)) (R i (h2 rfl))
  case load t x => exact Sound.also fun h1 => load_sound hW t (R x (h1 rfl))
  case store t x y => exact Sound.also fun ⟨h1, h2⟩ => store_sound hW t (R x (h1 rfl)) (R y (h2 rfl))
  case alloc t => exact alloc_sound hW t
  case box t x => exact Sound.also fun h1 => box_sound hW t (R x (h1 rfl))
  case build t parts => exact Sound.also fun h1 => build_sound hW t (parts_rel h parts h1).1 (parts_rel h parts h1).2
  case buildSlice t len parts => exact Sound.also fun h1 => buildSlice_sound hW t len (parts_rel h parts h1).1 (parts_rel h parts h1).2
  case field t x f => exact Sound.also fun h1 => field_sound hW t f (R x (h1 rfl))
  case fieldAddr t x f => exact Sound.also fun h1 => fieldAddr_sound hW t f (R x (h1 rfl))
  case extract x i => exact Sound.also fun h1 => extract_sound hW i (R x (h1 rfl))
  case slice t x lo hi mx => exact Sound.also fun ⟨h1, h2, h3, h4⟩ => slice_sound hW t (R x (h1 rfl)) (orel h lo h2) (orel h hi h3) (orel h mx h4)
  case sliceToArrayPointer t x => exact Sound.also fun h1 => arrPtr_sound hW t (R x (h1 rfl))
  case range t x => exact Sound.also fun h1 => range_sound hW t (R x (h1 rfl))
  case next x b => exact Sound.also fun h1 => next_sound hW ty b (R x (h1 rfl))
  case nilCheck x => exact Sound.also fun h1 => nilCheck_sound hW (R x (h1 rfl)) _ x a.eval rfl rfl
  case makeMap t r => exact Sound.also fun h1 => makeMap_sound hW t (orel h r h1)
  case lookup t x k ok => exact Sound.also fun ⟨h1, h2⟩ => look_sound hW t ok (R x (h1 rfl)) (R k (h2 rfl))
  case insert t x k v =>
    refine Sound.also fun ⟨h1, h2, h3⟩ => ?_
    intro hp
    obtain ⟨w', m', q1, q2, q3, q4⟩ := mapPut_sound hW t (R x (h1 rfl)) (R k (h2 rfl)) (R v (h3 rfl)) hp
    exact ⟨.skip, w', m', by simp [execOp, q1], .inr ⟨rfl, q2⟩, q3, q4⟩
  case mapUpdate t x k v =>
    refine Sound.also fun ⟨h1, h2, h3⟩ => ?_
    intro hp
    obtain ⟨w', m', q1, q2, q3, q4⟩ := mapPut_sound hW t (R x (h1 rfl)) (R k (h2 rfl)) (R v (h3 rfl)) hp
    exact ⟨.skip, w', m', by simp [execOp, q1], .inr ⟨rfl, q2⟩, q3, q4⟩
  case makeInterface t x =>
    refine Sound.pure hW fun hp => ?_
    obtain ⟨h1, h2⟩ := hp
    refine ⟨.iface t (a.eval x), ?_, by simp only [VRel]; exact ⟨_, rfl, R x (h1 rfl)⟩⟩
    unfold ifaceTy at h2
    split at h2
    · cases h2
    · rename_i d hd hu
      cases d <;> simp_all [Instr.makeInterface, run_underlying' hu]
    · cases h2
  case makeFunc f first captured =>
    refine Sound.pure hW fun hp => ?_
    obtain ⟨h1, h2⟩ := hp
    have e : ∀ xs : Array Operand, xs.map a.eval = (xs.toList.map a.eval).toArray := fun xs => by apply Array.ext'; simp
    refine ⟨.func f (first.map a.eval) (captured.map a.eval), by simp [Instr.makeFunc], ?_⟩
    simp only [VRel]
    exact ⟨first.toList.map a.eval, captured.toList.map a.eval, by rw [e, e], needAll_rel h _ h1, needAll_rel h _ h2⟩
  case makeSlice t l k => exact Sound.also fun ⟨h1, h2⟩ => makeSlice_sound hW t (R l (h1 rfl)) (R k (h2 rfl))
  case call c =>
    obtain ⟨callee, args, ts⟩ := c
    cases callee <;> try exact fun h => h.elim
    case builtin b =>
      obtain ⟨args⟩ := args
      obtain ⟨ts⟩ := ts
      simp only [ev, builtinR]
      split
      · rename_i x t
        refine Sound.also fun h1 => ?_
        have := len_sound (P := P) hW t ty (R x (h1 rfl))
        have e : execOp a.eval { dst, op := .call { callee := .builtin .len, args := #[x], argTypes := #[t] }, type := ty, pos, after, guard } = vSem (Builtin.len_ #[t] ty #[a.eval x]) := by
          simp [execOp, resolve, invoke, builtin, vSem]
        rw [e]; exact this
      · rename_i x y
        refine Sound.also fun ⟨h1, h2⟩ => ?_
        have := min_sound (P := P) hW ts ty (R x (h1 rfl)) (R y (h2 rfl))
        have e : execOp a.eval { dst, op := .call { callee := .builtin .min, args := #[x, y], argTypes := ⟨ts⟩ }, type := ty, pos, after, guard } = vSem (Builtin.min_ ⟨ts⟩ ty #[a.eval x, a.eval y]) := by
          simp [execOp, resolve, invoke, builtin, vSem]
        rw [e]; exact this
      · rename_i x y
        refine Sound.also fun ⟨h1, h2⟩ => ?_
        have := max_sound (P := P) hW ts ty (R x (h1 rfl)) (R y (h2 rfl))
        have e : execOp a.eval { dst, op := .call { callee := .builtin .max, args := #[x, y], argTypes := ⟨ts⟩ }, type := ty, pos, after, guard } = vSem (Builtin.max_ ⟨ts⟩ ty #[a.eval x, a.eval y]) := by
          simp [execOp, resolve, invoke, builtin, vSem]
        rw [e]; exact this
      · rename_i s x t tx
        refine Sound.also fun ⟨h1, h2⟩ => ?_
        have := app_sound (P := P) hW t tx ty (R s (h1 rfl)) (R x (h2 rfl)) (append_sound (P := P) hW t tx ty (R s (h1 rfl)) (R x (h2 rfl)))
        have e : execOp a.eval { dst, op := .call { callee := .builtin .append, args := #[s, x], argTypes := #[t, tx] }, type := ty, pos, after, guard } = vSem (Builtin.append_ #[t, tx] ty #[a.eval s, a.eval x]) := by
          simp [execOp, resolve, invoke, builtin, vSem]
        rw [e]; exact this
      · rename_i s x t tx
        refine Sound.also fun ⟨h1, h2⟩ => ?_
        have := copy_sound (P := P) hW t tx ty (R s (h1 rfl)) (R x (h2 rfl))
        have e : execOp a.eval { dst, op := .call { callee := .builtin .copy, args := #[s, x], argTypes := #[t, tx] }, type := ty, pos, after, guard } = vSem (Builtin.copy_ #[t, tx] ty #[a.eval s, a.eval x]) := by
          simp [execOp, resolve, invoke, builtin, vSem]
        rw [e]; exact this
      · rename_i x k t ts'
        refine Sound.also fun ⟨h1, h2⟩ => ?_
        have := mapDel_sound (P := P) hW t ty 0 ts' (R x (h1 rfl)) (R k (h2 rfl))
        have e : execOp a.eval { dst, op := .call { callee := .builtin .delete, args := #[x, k], argTypes := ⟨t :: ts'⟩ }, type := ty, pos, after, guard } = vSem (Builtin.delete_ ⟨t :: ts'⟩ ty #[a.eval x, a.eval k]) := by
          simp [execOp, resolve, invoke, builtin, vSem]
        rw [e]; exact this
      · exact Sound.bad

end
end Go.Eng
