/- The engine, part 31: a text of an array's bytes. -/
import Derived.Test.YtbnnhffkbcekcaaGreatDoorEng27
import Derived.Laws.IdiomStrings
namespace Go.Eng
open Go
set_option linter.unusedVariables false
set_option linter.unusedSimpArgs false
theorem eval_put {a : Act} {d : Nat} {u : Value} (h : d < a.tmps.size) : (a.put (some d) u).eval (.tmp d) = u := by
  simp [Act.put, Act.eval, h]
/-- an array's first bytes, sliced and turned to a text -/
theorem Holds.arrStr {X : Cx} {rid : Nat} {ops : Array Oper} {k : List It} {fr : List AV} {L : Heap} (n : Nat) {o1 o2 : Oper} {l2 : List Oper} (hd : ops.toList.drop n = o1 :: o2 :: l2) (g1 : o1.guard = none) (g2 : o2.guard = none)
    {d : Nat} (hd1 : o1.dst = some d) {t e e' src dst : TypeId} {x : Operand} {hi : Option Operand} {N : Nat} (h1 : o1.op = .slice t x none hi none) (h2 : o2.op = .convert src dst (.tmp d))
    (ht : X.P.underlying t = some (.array N e')) (hie : (X.P.info? e').isSome = true) (hs : X.P.underlying src = some (.slice e)) (he : X.P.underlying e = some (.int .u8)) (hds : X.P.underlying dst = some .string)
    (h : evOps X.P X.Γ ops.toList (ops.toList.take n) fr L fun fr1 L1 => ∃ i v j, ∃ l : List UInt8, opd fr1 x = .ref i v 0 ∧ ((hi = none ∧ j = N) ∨ ∃ y, hi = some y ∧ opd fr1 y = .int .i64 ((j : Nat) : Int)) ∧ fresh L1 i v ∧ l.length = j ∧ j ≤ N ∧ d < fr1.length ∧
      (rowOf L1 i).take j = l.map byteAV ∧ evOps X.P X.Γ ops.toList l2 (putA (putA fr1 (some d) .any) o2.dst (.str l)) L1 (Holds X k)) :
    Holds X (.code (.region rid ops false) :: k) fr L := by
  have hsp : ops.toList = ops.toList.take n ++ o1 :: o2 :: l2 := by rw [← hd, List.take_append_drop]
  generalize ops.toList.take n = l1 at hsp h
  intro m a w hR
  refine wp_region_list ?_
  rw [hsp]
  refine evOps_prefix X.ok ops (fun fr1 L1 m1 a1 w1 hk hR1 => ?_) l1 fr L m a w h hR
  obtain ⟨i, v, j, l, hx, hj, hf, hl, hN, hdl, hrow, hrest⟩ := hk
  have hu : a1.eval x = .pointer (some ⟨m1.blk i, 0, none⟩) := ref_ptr (by rw [← hx]; exact opd_rel hR1.frel x) hf
  obtain ⟨cs, sz, hL, hcs, _⟩ := fresh_row hf
  obtain ⟨us, hus, hcell, _⟩ := row_cells hR1.wrel hL
  have hal : X.P.arrayLen t = N := by simp [Program.arrayLen, ht]
  have r1 : (execOp a1.eval o1).run X.P w1 = .ok (.value (.slice (some ⟨m1.blk i, 0, none⟩) j N)) w1 := by
    have hel : X.P.elem t = e' := by simp [Program.elem, ht]
    have ht2 : X.P.underlying t = some (.array (X.P.arrayLen t) (X.P.elem t)) := by rw [hal, hel]; exact ht
    have hsz := run_sizeOf' (P := X.P) (w := w1) (t := X.P.elem t) (by rw [hel]; exact hie)
    have hs0 : slicedAt (⟨m1.blk i, 0, none⟩ : Addr) 0 j N (X.P.cellsOf (X.P.elem t)) = .slice (some ⟨m1.blk i, 0, none⟩) j N := by
      unfold slicedAt
      split <;> simp [Addr.add]
    rcases hj with ⟨rfl, rfl⟩ | ⟨y, rfl, hy⟩
    · have := run_sliceAt_array_all w1 t ⟨m1.blk i, 0, none⟩ ht2
      simp only [hsz, Result.andThen, hal, hs0] at this
      simp [execOp, h1, hu, this]
    · have hyv : a1.eval y = .int .i64 ((j : Nat) : Int) := by
        have := opd_rel hR1.frel y
        rw [hy] at this
        simpa only [VRel] using this
      have := run_sliceAt_array_h w1 t ⟨m1.blk i, 0, none⟩ ht2 .i64 ((j : Nat) : Int) (by omega) (by rw [hal]; omega)
      simp only [hsz, Result.andThen, hal, Int.toNat_natCast, hs0] at this
      simp [execOp, h1, hu, hyv, this]
  have hcj : ∀ q (hq : q < l.length), w1.cell? ((⟨m1.blk i, 0, none⟩ : Addr).add q) = some (.int .u8 (l[q].toNat : Int)) := by
    intro q hq
    have hq' : (l.map byteAV)[q]? = some (byteAV l[q]) := by simp [hq]
    rw [← hrow, hcs, List.getElem?_take] at hq'
    split at hq'
    · obtain ⟨u', hu', hv'⟩ := hus.get q _ hq'
      simp only [byteAV, VRel] at hv'
      rw [← hv', ← hcell q u' hu']
      by_cases hq0 : q = 0 <;> simp [Addr.add, hq0]
    · cases hq'
  have r2 : (execOp (a1.put (some d) (.slice (some ⟨m1.blk i, 0, none⟩) j N)).eval o2).run X.P w1 = .ok (.value (.string ⟨l.toArray⟩)) w1 := by
    have hsz : d < a1.tmps.size := by rw [← Array.length_toList, hR1.frel.length]; exact hdl
    have := run_convert_bytes_back (P := X.P) w1 src dst e ⟨m1.blk i, 0, none⟩ N l hs he hds hcj
    rw [hl] at this
    simp [execOp, h2, eval_put hsz, this]
  unfold wpList
  rw [if_pos (by simp [Region.wanted, g1])]
  left
  unfold Oper.wp
  rw [r1]
  simp only [Oper.upon]
  unfold wpList
  rw [if_pos (by simp [Region.wanted, g2])]
  left
  unfold Oper.wp
  rw [hd1, r2]
  simp only [Oper.upon]
  refine evOps_sound X.ok ops (Q := W X.P X.B X.Q k) (fun fr2 L2 m2 a2 w2 hk hR2 => hk m2 a2 w2 hR2) l2 _ _ m1 _ w1 hrest ⟨hR1.wrel, put_rel (put_rel hR1.frel (some d) (x := .any) (by simp [VRel])) o2.dst (x := .str l) (by simp [VRel]), hR1.ext, ?_⟩
  cases o2.dst <;> exact hR1.defers
/-- what is left of a region holds -/
def RestIn (X : Cx) (ops : Array Oper) (l : List Oper) (k : List It) (fr : List AV) (L : Heap) : Prop :=
  ∀ m a w, RS X.B fr L m a w → wpList X.P ops (W X.P X.B X.Q k) l a w
theorem Holds.reg {X : Cx} {id : Nat} {ops : Array Oper} {k : List It} {fr : List AV} {L : Heap} (h : RestIn X ops ops.toList k fr L) : Holds X (.code (.region id ops false) :: k) fr L :=
  fun m a w hR => wp_region_list (h m a w hR)
theorem RestIn.nil {X : Cx} {ops : Array Oper} {k : List It} {fr : List AV} {L : Heap} (h : Holds X k fr L) : RestIn X ops [] k fr L := fun m a w hR => h m a w hR
theorem RestIn.ev {X : Cx} {ops : Array Oper} {k : List It} {fr : List AV} {L : Heap} {l : List Oper} (n : Nat) (h : evOps X.P X.Γ ops.toList (l.take n) fr L fun fr1 L1 => RestIn X ops (l.drop n) k fr1 L1) : RestIn X ops l k fr L := by
  intro m a w hR
  have := evOps_prefix X.ok ops (l' := l.drop n) (Q := W X.P X.B X.Q k) (fun fr1 L1 m1 a1 w1 hk hR1 => hk m1 a1 w1 hR1) (l.take n) fr L m a w h hR
  rwa [List.take_append_drop] at this
theorem RestIn.op {X : Cx} {ops : Array Oper} {k : List It} {fr : List AV} {L : Heap} {o : Oper} {l : List Oper} (hg : o.guard = none) {Out : AV → Heap → Prop} (h1 : OpOut X fr L o Out)
    (h2 : ∀ v L', Out v L' → RestIn X ops l k (putA fr o.dst v) L') : RestIn X ops (o :: l) k fr L := by
  intro m a w hR
  obtain ⟨v, L', u, w', m', hrun, hv, hW, hE, hO⟩ := h1 m a w hR
  unfold wpList
  have hw : Region.wanted o (yielded ops a.tmps) = true := by simp [Region.wanted, hg]
  rw [if_pos hw]
  left
  unfold Oper.wp
  rw [hrun]
  simp only [Oper.upon]
  refine h2 v L' hO m' _ w' ⟨hW, put_rel (CRel.mono hE.mono _ _ hR.frel) o.dst hv, hR.ext.trans hE, ?_⟩
  cases o.dst <;> exact hR.defers
/-- a call in a region, looked at in the model itself -/
theorem RestIn.call {X : Cx} {ops : Array Oper} {k : List It} {fr : List AV} {L : Heap} {o : Oper} {l : List Oper} (hg : o.guard = none)
    {g : FuncId} {args : Array Operand} {ts : Array TypeId} {fn : Func} (ho : o.op = .call { callee := .value (.func g), args := args, argTypes := ts }) (hfn : X.P.funcs[g]? = some fn) (hb : fn.body.isNone = false) (hn : (fn.name == "runtime.NumGoroutine") = false)
    {Out : AV → Heap → Prop} (h1 : ∀ m a w, RS X.B fr L m a w → Calls X.P g (args.map a.eval) w fun e w' => ∃ v u m' L', e = .returned u ∧ VRel m' L' v u ∧ WRel m' L' w' ∧ Ext m L w m' L' w' ∧ Out v L')
    (h2 : ∀ v L', Out v L' → RestIn X ops l k (putA fr o.dst v) L') : RestIn X ops (o :: l) k fr L := by
  intro m a w hR
  have hcalls := h1 m a w hR
  have hname' : fn.name ≠ "runtime.NumGoroutine" := by simpa using hn
  have hbody' : fn.body ≠ none := by intro h; simp [h] at hb
  have hrun : (execOp a.eval o).run X.P w = .ok (.enter g (args.map a.eval)) w := by
    simp [execOp, ho, resolve, Act.eval, Deferred.ofValue, invoke, callFunc, hfn, hbody', hname']
  unfold wpList
  have hw : Region.wanted o (yielded ops a.tmps) = true := by simp [Region.wanted, hg]
  rw [if_pos hw]
  left
  unfold Oper.wp
  rw [hrun]
  simp only [Oper.upon]
  refine hcalls.mono ?_
  rintro e w' ⟨v, u, m', L', rfl, hv, hW, hE, hO⟩
  refine h2 v L' hO m' _ w' ⟨hW, put_rel (CRel.mono hE.mono _ _ hR.frel) o.dst hv, hR.ext.trans hE, ?_⟩
  cases o.dst <;> exact hR.defers
section
variable {X : Cx} {k : List It} {fr : List AV} {L : Heap}
/-- a new variable, as just this object at just this block -/
theorem out_alloc {o : Oper} {t : TypeId} (ho : o.op = .alloc t) {z : Value} (hiz : (X.P.info? t).bind (·.zero) = some z) (hlt : lkT tyB t = none) :
    OpOut X fr L o fun v L' => ∃ b, v = .ref L.length 0 0 ∧ L' = L ++ [.raw (.obj (some b) (.cells z.cells t (0, 0)))] := by
  intro m a w hR
  have hzr : (zeroValue t).run X.P w = .ok z w := by
    cases hi : X.P.info? t with
    | none => rw [hi] at hiz; cases hiz
    | some i => rw [hi] at hiz; have hz : i.zero = some z := hiz; simp [zeroValue, typeInfo, hi, hz]
  have hP := Pushed.alloc w (.cells z.cells t)
  refine ⟨.ref L.length 0 0, L ++ [.raw (.obj (some w.heap.size) (.cells z.cells t (0, 0)))], .pointer (some ⟨w.heap.size, 0, none⟩), _, m.put L.length w.heap.size 0, ?_, ?_,
    push_raw (r := .obj (some w.heap.size) (.cells z.cells t (0, 0))) hR.wrel hP ⟨fun x hx => by cases hx; rfl, rfl⟩, ext_push _ _ hP.keep, w.heap.size, rfl, rfl⟩
  · simp [execOp, ho, Instr.alloc, hzr, newVar, newRow]
  · simp only [VRel]
    exact .inr ⟨.obj (some w.heap.size) (.cells z.cells t (0, 0)), by simp, by simp [Mem.put]⟩
/-- its first cells, as a slice -/
theorem out_slice {o : Oper} {t e' : TypeId} {x y : Operand} {N j : Nat} (ho : o.op = .slice t x none (some y) none) (ht : X.P.underlying t = some (.array N e')) (hie : (X.P.info? e').isSome = true) {id b : Nat} {ob : Obj} (hx : opd fr x = .ref id 0 0)
    (hy : opd fr y = .int .i64 ((j : Nat) : Int)) (hj : j ≤ N) (hL : L[id]? = some (.raw (.obj (some b) ob))) : OpOut X fr L o fun v L' => v = .lit (.slice (some ⟨b, 0, none⟩) j N) ∧ L' = L := by
  intro m a w hR
  have hu := raw_ptr hL (by rw [← hx]; exact opd_rel hR.frel x)
  obtain ⟨_, _, hbb, _⟩ := hR.wrel.iters id _ hL
  have hbe := hbb b rfl
  rw [hbe] at hu
  have hal : X.P.arrayLen t = N := by simp [Program.arrayLen, ht]
  have hel : X.P.elem t = e' := by simp [Program.elem, ht]
  have ht2 : X.P.underlying t = some (.array (X.P.arrayLen t) (X.P.elem t)) := by rw [hal, hel]; exact ht
  have hsz := run_sizeOf' (P := X.P) (w := w) (t := X.P.elem t) (by rw [hel]; exact hie)
  have hs0 : slicedAt (⟨b, 0, none⟩ : Addr) 0 j N (X.P.cellsOf (X.P.elem t)) = .slice (some ⟨b, 0, none⟩) j N := by
    unfold slicedAt
    split <;> simp [Addr.add]
  have hyv : a.eval y = .int .i64 ((j : Nat) : Int) := by
    have := opd_rel hR.frel y
    rw [hy] at this
    simpa only [VRel] using this
  have := run_sliceAt_array_h w t ⟨b, 0, none⟩ ht2 .i64 ((j : Nat) : Int) (by omega) (by rw [hal]; omega)
  simp only [hsz, Result.andThen, hal, Int.toNat_natCast, hs0] at this
  exact ⟨_, L, .slice (some ⟨b, 0, none⟩) j N, w, m, by simp [execOp, ho, hu, hyv, this], by simp [VRel], hR.wrel, Ext.refl, rfl, rfl⟩
/-- bytes of it, as a text -/
theorem out_conv {o : Oper} {src dst e : TypeId} {y : Operand} {N j : Nat} (ho : o.op = .convert src dst y) (hs : X.P.underlying src = some (.slice e)) (he : X.P.underlying e = some (.int .u8)) (hds : X.P.underlying dst = some .string)
    {id b : Nat} {cs : Array Value} {te : TypeId} {lh : Nat × Nat} (hy : opd fr y = .lit (.slice (some ⟨b, 0, none⟩) j N)) (hL : L[id]? = some (.raw (.obj (some b) (.cells cs te lh)))) {l : List UInt8} (hl : l.length = j)
    (hc : ∀ q (hq : q < l.length), cs[q]? = some (.int .u8 (l[q].toNat : Int))) : OpOut X fr L o fun v L' => v = .str l ∧ L' = L := by
  intro m a w hR
  obtain ⟨_, hb, hbb, rfl⟩ := hR.wrel.iters id _ hL
  have hbe := hbb b rfl
  rw [hbe] at hb
  have hyv : a.eval y = .slice (some ⟨b, 0, none⟩) j N := by
    have := opd_rel hR.frel y
    rw [hy] at this
    simpa only [VRel] using this
  have := run_convert_bytes_back (P := X.P) w src dst e ⟨b, 0, none⟩ N l hs he hds fun q hq => by
    have e1 : (⟨b, 0, none⟩ : Addr).add q = ⟨b, q, none⟩ := by by_cases hq0 : q = 0 <;> simp [Addr.add, hq0]
    obtain ⟨lo, hi⟩ := lh
    rw [e1]
    simp [World.cell?, hb, hc q hq]
  rw [hl] at this
  exact ⟨_, L, .string ⟨l.toArray⟩, w, m, by simp [execOp, ho, hyv, this], by simp [VRel], hR.wrel, Ext.refl, rfl, rfl⟩
end
end Go.Eng
