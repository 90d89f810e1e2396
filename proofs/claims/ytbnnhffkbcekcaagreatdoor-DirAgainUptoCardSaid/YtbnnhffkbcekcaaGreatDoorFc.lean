/- Parts of the walk through directories. Conditions stand in each. -/
import Derived.Test.YtbnnhffkbcekcaaGreatDoorFb
import Derived.TacticsIn
import Derived.OrdersIn
import Derived.RangeFuncFrom
import Derived.RangeFuncLeaves
set_option linter.unusedVariables false
set_option linter.unusedSimpArgs false
section
namespace Go.Eng
open Go
mutual
def ren (ρ : Nat → Nat) : AV → AV
 | .agg cs => .agg (renL ρ cs)
 | .tup cs => .tup (renL ρ cs)
 | .sl cs n => .sl (renL ρ cs) n
 | .msl id v o n => .msl (ρ id) v o n
 | .ref id v o => .ref (ρ id) v o
 | .ip cs => .ip (renL ρ cs)
 | .fn f a b => .fn f (renL ρ a) (renL ρ b)
 | .ifc t x => .ifc t (ren ρ x)
 | .when c x => .when c (ren ρ x)
 | .alt c x y => .alt c (ren ρ x) (ren ρ y)
 | .any => .any
 | .int k n => .int k n
 | .bool b => .bool b
 | .str l => .str l
 | .lit v => .lit v
 | .ub p q => .ub p q
 | .csl id v o n => .csl (ρ id) v o n
 | .mp id => .mp (ρ id)
 | .mpr kd f => .mpr kd f
def renL (ρ : Nat → Nat) : List AV → List AV
 | [] => []
 | x :: xs => ren ρ x :: renL ρ xs
end
mutual
def scp (n : Nat) : AV → Bool
 | .agg cs => Z1D n cs
 | .tup cs => Z1D n cs
 | .sl cs _ => Z1D n cs
 | .msl id _ _ _ => decide (id < n)
 | .ref id _ _ => decide (id < n)
 | .ip cs => Z1D n cs
 | .fn _ a b => Z1D n a && Z1D n b
 | .ifc _ x => scp n x
 | .when _ x => scp n x
 | .alt _ x y => scp n x && scp n y
 | .any => true
 | .int _ _ => true
 | .bool _ => true
 | .str _ => true
 | .lit _ => true
 | .ub _ _ => true
 | .csl id _ _ _ => decide (id < n)
 | .mp id => decide (id < n)
 | .mpr _ _ => true
def Z1D (n : Nat) : List AV → Bool
 | [] => true
 | x :: xs => scp n x && Z1D n xs
end
def Z1m (ρ : Nat → Nat) : Z0T → Z0T
 | .row cs sz v => .row (renL ρ cs) sz v
 | .raw r => .raw r
 | .dead => .dead
def Z3J (n : Nat) : Z0T → Bool
 | .row cs _ _ => Z1D n cs
 | _ => true
theorem Z2k (ρ : Nat → Nat) : ∀ xs : List AV, renL ρ xs = xs.map (ren ρ)
 | [] => rfl
 | x :: xs => by simp only [renL, List.map_cons, Z2k ρ xs]
structure Z2N (m : Mem) (L : Z02) (ρ : Nat → Nat) (m' : Mem) (L' : Z02) : Prop where
 pobj : m'.pobj = m.pobj
 blk : ∀ id, id < L'.length → m'.blk id = m.blk (ρ id)
 cap : ∀ id, id < L'.length → m'.cap id = m.cap (ρ id)
 obj : ∀ id o, L'[id]? = some o → L[ρ id]? = some (Z1m ρ o)
 inj : ∀ i j, i < L'.length → j < L'.length → ρ i = ρ j → i = j
theorem Z2N.pin {m : Mem} {L : Z02} {ρ : Nat → Nat} {m' : Mem} {L' : Z02} (H : Z2N m L ρ m' L') : m'.pin = m.pin := by
 funext g o; simp only [Mem.pin, H.pobj]
mutual
theorem Z05.ren {m : Mem} {L : Z02} {ρ : Nat → Nat} {m' : Mem} {L' : Z02} (H : Z2N m L ρ m' L') : ∀ (x : AV) (u : Value), Z05 m L (ren ρ x) u → scp L'.length x = true → Z05 m' L' x u
 | .any, _, _, _ => by simp [Z05]
 | .int .., _, h, _ => by simpa [Z05, Eng.ren] using h
 | .bool _, _, h, _ => by simpa [Z05, Eng.ren] using h
 | .str _, _, h, _ => by simpa [Z05, Eng.ren] using h
 | .lit _, _, h, _ => by simpa [Z05, Eng.ren] using h
 | .agg cs, u, h, hs => by
  simp only [Z05, Eng.ren, scp] at *
  obtain ⟨us, rfl, hc⟩ := h
  exact ⟨us, rfl, Z0a.ren H cs us hc hs⟩
 | .tup cs, u, h, hs => by
  simp only [Z05, Eng.ren, scp] at *
  obtain ⟨us, rfl, hc⟩ := h
  exact ⟨us, rfl, Z0a.ren H cs us hc hs⟩
 | .sl cs len, u, h, hs => by
  simp only [Z05, Eng.ren, scp] at *
  obtain ⟨a, cap, rfl, hl, us, hc, hp⟩ := h
  refine ⟨a, cap, rfl, hl, us, Z0a.ren H cs us hc hs, ?_⟩
  rw [H.pin]; exact hp
 | .msl id ver off len, u, h, hs => by
  simp only [Z05, Eng.ren, scp, decide_eq_true_eq] at *
  obtain ⟨cs, sz, v, hL, hv, hsh, h⟩ := h
  obtain ⟨o, ho⟩ : ∃ o, L'[id]? = some o := ⟨L'[id], by simp [hs]⟩
  have h1 := H.obj id o ho
  rw [hL] at h1
  cases o with
  | row cs' sz' v' =>
   simp only [Z1m, Option.some.injEq, Z0T.row.injEq] at h1
   obtain ⟨rfl, rfl, rfl⟩ := h1
   refine ⟨cs', sz, v, ho, hv, hsh, fun e => ?_⟩
   obtain ⟨h2, h3, h4⟩ := h e
   rw [Z2k, List.length_map] at h2
   rw [H.cap id hs, H.blk id hs]
   exact ⟨h2, h3, h4⟩
  | raw r => simp [Z1m] at h1
  | dead => simp [Z1m] at h1
 | .ref id ver off, u, h, hs => by
  simp only [Z05, Eng.ren, scp, decide_eq_true_eq] at *
  obtain ⟨o, ho⟩ : ∃ o, L'[id]? = some o := ⟨L'[id], by simp [hs]⟩
  have h1 := H.obj id o ho
  rcases h with ⟨cs, sz, v, hL, hv, hsh, h⟩ | ⟨r, hL, h⟩
  ·rw [hL] at h1
   cases o with
   | row cs' sz' v' =>
    simp only [Z1m, Option.some.injEq, Z0T.row.injEq] at h1
    obtain ⟨rfl, rfl, rfl⟩ := h1
    exact .inl ⟨cs', sz, v, ho, hv, hsh, fun e => by rw [H.blk id hs]; exact h e⟩
   | raw r => simp [Z1m] at h1
   | dead => simp [Z1m] at h1
  ·rw [hL] at h1
   cases o with
   | row cs' sz' v' => simp [Z1m] at h1
   | raw r' => exact .inr ⟨r', ho, by rw [H.blk id hs]; exact h⟩
   | dead => simp [Z1m] at h1
 | .ip cs, u, h, hs => by
  simp only [Z05, Eng.ren, scp] at *
  obtain ⟨us, g, o, rfl, hc, hp⟩ := h
  refine ⟨us, g, o, rfl, Z0a.ren H cs us hc hs, ?_⟩
  rw [H.pin]; exact hp
 | .fn f first captured, u, h, hs => by
  simp only [Z05, Eng.ren, scp, Bool.and_eq_true] at *
  obtain ⟨us, vs, rfl, h1, h2⟩ := h
  exact ⟨us, vs, rfl, Z0a.ren H first us h1 hs.1, Z0a.ren H captured vs h2 hs.2⟩
 | .ifc t x, u, h, hs => by
  simp only [Z05, Eng.ren, scp] at *
  obtain ⟨v, rfl, h⟩ := h
  exact ⟨v, rfl, Z05.ren H x v h hs⟩
 | .when c x, u, h, hs => by
  simp only [Z05, Eng.ren, scp] at *
  exact ⟨fun hc => Z05.ren H x u (h.1 hc) hs, h.2⟩
 | .alt c x y, u, h, hs => by
  simp only [Z05, Eng.ren, scp, Bool.and_eq_true] at *
  exact ⟨fun hc => Z05.ren H x u (h.1 hc) hs.1, fun hc => Z05.ren H y u (h.2 hc) hs.2⟩
 | .ub .., _, h, _ => by simpa only [Z05, Eng.ren] using h
 | .csl id ver off len, u, h, hs => by
  simp only [Z05, Eng.ren, scp, decide_eq_true_eq] at *
  obtain ⟨cs, sz, v, hL, hv, hsh, h⟩ := h
  obtain ⟨o, ho⟩ : ∃ o, L'[id]? = some o := ⟨L'[id], by simp [hs]⟩
  have h1 := H.obj id o ho
  rw [hL] at h1
  cases o with
  | row cs' sz' v' =>
   simp only [Z1m, Option.some.injEq, Z0T.row.injEq] at h1
   obtain ⟨rfl, rfl, rfl⟩ := h1
   refine ⟨cs', sz, v, ho, hv, hsh, fun e => ?_⟩
   obtain ⟨h2, h3, h4⟩ := h e
   rw [Z2k, List.length_map] at h2
   rw [H.cap id hs, H.blk id hs]
   exact ⟨h2, h3, h4⟩
  | raw r => simp [Z1m] at h1
  | dead => simp [Z1m] at h1
 | .mp id, u, h, hs => by
  simp only [Z05, Eng.ren, scp, decide_eq_true_eq] at *
  obtain ⟨r, hL, h⟩ := h
  obtain ⟨o, ho⟩ : ∃ o, L'[id]? = some o := ⟨L'[id], by simp [hs]⟩
  have h1 := H.obj id o ho
  rw [hL] at h1
  cases o with
  | row cs' sz' v' => simp [Z1m] at h1
  | raw r' => exact ⟨r', ho, by rw [H.blk id hs]; exact h⟩
  | dead => simp [Z1m] at h1
 | .mpr kd f, u, h, _ => by
  simp only [Z05, Eng.ren] at *
  rw [H.pobj]; exact h
theorem Z0a.ren {m : Mem} {L : Z02} {ρ : Nat → Nat} {m' : Mem} {L' : Z02} (H : Z2N m L ρ m' L') : ∀ (cs : List AV) (us : List Value), Z0a m L (renL ρ cs) us → Z1D L'.length cs = true → Z0a m' L' cs us
 | [], _, h, _ => by simpa [Z0a, renL] using h
 | c :: cs, us, h, hs => by
  simp only [Z0a, renL, Z1D, Bool.and_eq_true] at *
  obtain ⟨u, us', rfl, h1, h2⟩ := h
  exact ⟨u, us', rfl, Z05.ren H c u h1 hs.1, Z0a.ren H cs us' h2 hs.2⟩
end
theorem Z2N.own {m : Mem} {L : Z02} {ρ : Nat → Nat} {m' : Mem} {L' : Z02} (H : Z2N m L ρ m' L') {id : Nat} (h : Own m' L' id) : Own m L (ρ id) ∧ id < L'.length := by
 rcases h with ⟨cs, sz, ver, hL, hc⟩ | ⟨r, hL⟩
 ·have hlt := (List.getElem?_eq_some_iff.1 hL).1
  exact ⟨.inl ⟨_, _, _, H.obj _ _ hL, by rw [← H.cap id hlt]; exact hc⟩, hlt⟩
 ·have hlt := (List.getElem?_eq_some_iff.1 hL).1
  exact ⟨.inr ⟨_, H.obj _ _ hL⟩, hlt⟩
theorem Z2N.hid {m : Mem} {L : Z02} {ρ : Nat → Nat} {m' : Mem} {L' : Z02} (H : Z2N m L ρ m' L') {id g : Nat} (h : Hid m' L' id g) : Hid m L (ρ id) g ∧ id < L'.length := by
 obtain ⟨T, e, l, hL, hc⟩ := h
 have hlt := (List.getElem?_eq_some_iff.1 hL).1
 exact ⟨⟨T, e, l, H.obj _ _ hL, by rw [← H.cap id hlt]; exact hc⟩, hlt⟩
theorem Z3G.ren {m : Mem} {L : Z02} {w : World} {ρ : Nat → Nat} {m' : Mem} {L' : Z02} (H : Z2N m L ρ m' L') (h : Z3G m L w) : Z3G m' L' w := by
 refine ⟨fun id T e l hL => ?_, fun id g k => by rw [H.pobj]; exact h.free _ g (H.hid k).1, fun id g k j hj => ?_, fun i j g k1 k2 => H.inj i j (H.hid k1).2 (H.hid k2).2 (h.inj _ _ g (H.hid k1).1 (H.hid k2).1)⟩
 ·have hlt := (List.getElem?_eq_some_iff.1 hL).1
  rw [H.blk id hlt, H.cap id hlt]; exact h.at_ _ _ _ _ (H.obj _ _ hL)
 ·obtain ⟨h1, h2⟩ := H.own hj
  rw [H.blk j h2]; exact h.own _ g (H.hid k).1 _ h1
theorem Z0E.ren {m : Mem} {L : Z02} {w : World} {ρ : Nat → Nat} {m' : Mem} {L' : Z02} (H : Z2N m L ρ m' L') (hs : L'.all (Z3J L'.length) = true) (hW : Z0E m L w) : Z0E m' L' w := by
 have hs' : ∀ o ∈ L', Z3J L'.length o = true := by simpa [List.all_eq_true] using hs
 refine ⟨by rw [H.pobj]; exact hW.glob, fun g o hp => hW.pobjs g o (by rw [← H.pobj]; exact hp), fun id cs sz ver hL hc => ?_, fun id cs sz ver hL hc => ?_, fun id r hL => ?_, fun i j hi hj he => ?_, fun id hl => ?_, hW.hid.ren H⟩
 ·have hlt := (List.getElem?_eq_some_iff.1 hL).1
  rw [H.cap id hlt] at hc ⊢
  obtain ⟨us, rest, elem, lo, hi, h1, h2, h3, h4⟩ := hW.rows _ _ _ _ (H.obj _ _ hL) hc
  have := hs' _ (List.mem_of_getElem? hL)
  simp only [Z3J] at this
  exact ⟨us, rest, elem, lo, hi, by rw [H.blk id hlt]; exact h1, Z0a.ren H cs us h2 this, h3, h4⟩
 ·have hlt := (List.getElem?_eq_some_iff.1 hL).1
  rw [H.cap id hlt] at hc
  have := hW.nils _ _ _ _ (H.obj _ _ hL) hc
  rw [Z2k] at this
  simpa using this
 ·have hlt := (List.getElem?_eq_some_iff.1 hL).1
  rw [H.blk id hlt]; exact hW.iters _ _ (H.obj _ _ hL)
 ·obtain ⟨h1, h2⟩ := H.own hi
  obtain ⟨h3, h4⟩ := H.own hj
  rw [H.blk i h2, H.blk j h4] at he
  exact H.inj i j h2 h4 (hW.inj _ _ h1 h3 he)
 ·obtain ⟨h1, h2⟩ := H.own hl
  rw [H.pobj, H.blk id h2]; exact hW.freeo _ h1
def leF : List AV → List AV → Prop
 | [], [] => True
 | _ :: xs, .any :: ys => leF xs ys
 | x :: xs, y :: ys => x = y ∧ leF xs ys
 | _, _ => False
theorem Z6t {m : Mem} {L : Z02} : ∀ {xs ys : List AV} {us : List Value}, leF xs ys → Z0a m L xs us → Z0a m L ys us
 | [], [], us, _, h => h
 | x :: xs, y :: ys, us, hl, h => by
  simp only [Z0a] at h ⊢
  obtain ⟨u, us', rfl, h1, h2⟩ := h
  by_cases hy : y = .any
  ·subst hy
   simp only [leF] at hl
   exact ⟨u, us', rfl, by simp [Z05], Z6t hl h2⟩
  ·have : x = y ∧ leF xs ys := by
    unfold leF at hl
    split at hl <;> simp_all
   exact ⟨u, us', rfl, by rw [← this.1]; exact h1, Z6t this.2 h2⟩
 | [], y :: ys, us, hl, h => by simp [leF] at hl
 | x :: xs, [], us, hl, h => by simp [leF] at hl
def Zcc (n0 : Nat) (ids : List Nat) (fr : List AV) (L : Z02) (fr' : List AV) (L' : Z02) : Prop :=
 leF fr (renL (fun i => ids.getD i i) fr') ∧ (ids.map fun i => L[i]?) = (L'.map fun o => some (Z1m (fun i => ids.getD i i) o)) ∧ ids.Nodup ∧
  ids.take n0 = List.range n0 ∧ Z1D L'.length fr' = true ∧ L'.all (Z3J L'.length) = true
theorem Zcc.len {n0 : Nat} {ids : List Nat} {fr : List AV} {L : Z02} {fr' : List AV} {L' : Z02} (h : Zcc n0 ids fr L fr' L') : ids.length = L'.length := by
 have := congrArg List.length h.2.1
 simpa using this
theorem Zcc.renamed {n0 : Nat} {ids : List Nat} {fr : List AV} {L : Z02} {fr' : List AV} {L' : Z02} (h : Zcc n0 ids fr L fr' L') (m : Mem) :
  Z2N m L (fun i => ids.getD i i) { m with blk := fun i => m.blk (ids.getD i i), cap := fun i => m.cap (ids.getD i i) } L' := by
 have hlen := h.len
 obtain ⟨h1, h2, h3, h4, h5, h6⟩ := h
 refine ⟨rfl, fun _ _ => rfl, fun _ _ => rfl, fun id o ho => ?_, fun i j hi hj he => ?_⟩
 ·have hlt := (List.getElem?_eq_some_iff.1 ho).1
  have := congrArg (·[id]?) h2
  simp only [List.getElem?_map, ho, Option.map_some] at this
  have hid : ids[id]? = some (ids.getD id id) := by simp [List.getD, hlen, hlt]
  rw [hid] at this
  simpa using this
 ·have hi' : i < ids.length := by omega
  have hj' : j < ids.length := by omega
  simp only [List.getD, List.getElem?_eq_getElem hi', List.getElem?_eq_getElem hj', Option.getD_some] at he
  have hp := List.pairwise_iff_getElem.1 h3
  rcases Nat.lt_trichotomy i j with h | h | h
  ·exact absurd he (hp i j hi' hj' h)
  ·exact h
  ·exact absurd he.symm (hp j i hj' hi' h)
theorem Zcc.ext {n0 : Nat} {ids : List Nat} {fr : List AV} {L : Z02} {fr' : List AV} {L' : Z02} (h : Zcc n0 ids fr L fr' L') {m0 : Mem} {L0 : Z02} {w0 : World} {m : Mem} {w : World} (hn : n0 = L0.length) (hle : n0 ≤ L'.length)
  (hE : Ext m0 L0 w0 m L w) : Ext m0 L0 w0 { m with blk := fun i => m.blk (ids.getD i i), cap := fun i => m.cap (ids.getD i i) } L' w := by
 have H := h.renamed m
 have hlen := h.len
 have hid : ∀ i, i < n0 → ids.getD i i = i := by
  intro i hi
  have := congrArg (·[i]?) h.2.2.2.1
  simp [hi] at this
  simp [List.getD, this]
 refine ⟨hE.frame, hE.size, hE.newobj, fun id hl => ?_, by omega, ⟨hE.mono.pobj, fun id cs sz ver hL => ?_, fun id r hL => ?_⟩, hE.same, fun id g k => ?_⟩
 ·obtain ⟨h1, h2⟩ := H.own hl
  rcases hE.blks _ h1 with ⟨h3, h4⟩ | h3
  ·left
   have hlt : ids.getD id id < n0 := by
    rcases h3 with ⟨_, _, _, h, _⟩ | ⟨_, h⟩ <;> (have := (List.getElem?_eq_some_iff.1 h).1; omega)
   have : id = ids.getD id id := H.inj _ _ h2 (by omega) (by rw [hid _ hlt])
   rw [← this] at h3
   exact ⟨h3, by show m.blk (ids.getD id id) = _; rw [← this] at h4 ⊢; exact h4⟩
  ·exact .inr h3
 ·obtain ⟨cs', ver', hL', hv, hk⟩ := hE.mono.row _ _ _ _ hL
  have hlt := (List.getElem?_eq_some_iff.1 hL).1
  obtain ⟨o, ho⟩ : ∃ o, L'[id]? = some o := ⟨L'[id]'(by omega), by simp⟩
  have := H.obj id o ho
  simp only [hid id (by omega)] at this
  rw [hL'] at this
  cases o with
  | row cs2 sz2 v2 =>
   simp only [Z1m, Option.some.injEq, Z0T.row.injEq] at this
   obtain ⟨rfl, rfl, rfl⟩ := this
   refine ⟨cs2, ver', ho, hv, fun e => ?_⟩
   obtain ⟨k1, k2, k3⟩ := hk e
   rw [Z2k, List.length_map] at k1
   simp only [hid id (by omega)]
   exact ⟨k1, k2, k3⟩
  | raw r => simp [Z1m] at this
  | dead => simp [Z1m] at this
 ·obtain ⟨r', hL', hk⟩ := hE.mono.iter _ _ hL
  have hlt := (List.getElem?_eq_some_iff.1 hL).1
  obtain ⟨o, ho⟩ : ∃ o, L'[id]? = some o := ⟨L'[id]'(by omega), by simp⟩
  have := H.obj id o ho
  simp only [hid id (by omega)] at this
  rw [hL'] at this
  cases o with
  | row cs2 sz2 v2 => simp [Z1m] at this
  | raw r => exact ⟨r, ho, by simp only [hid id (by omega)]; exact hk⟩
  | dead => simp [Z1m] at this
 ·obtain ⟨h1, h2⟩ := H.hid k
  rcases hE.hnew _ _ h1 with h3 | h3
  ·left
   have hlt : ids.getD id id < n0 := by
    obtain ⟨_, _, _, h, _⟩ := h3
    have := (List.getElem?_eq_some_iff.1 h).1; omega
   have : id = ids.getD id id := H.inj _ _ h2 (by omega) (by rw [hid _ hlt])
   rw [← this] at h3
   exact h3
  ·exact .inr h3
structure Z8p where
 m : Mem
 L : Z02
 w : World
 D : List Deferred := []
structure RS (B : Z8p) (fr : List AV) (L : Z02) (m : Mem) (a : Act) (w : World) : Prop where
 wrel : Z0E m L w
 frel : Z0a m L fr a.tmps.toList
 ext : Ext B.m B.L B.w m L w
 defers : a.defers = B.D
theorem RS.weak {B : Z8p} {fr : List AV} {L : Z02} {m : Mem} {a : Act} {w : World} (h : RS B fr L m a w) {ids : List Nat} {fr' : List AV} {L' : Z02} (hw : Zcc B.L.length ids fr L fr' L') (hle : B.L.length ≤ L'.length) :
  ∃ m', RS B fr' L' m' a w := by
 have H := hw.renamed m
 refine ⟨_, ⟨Z0E.ren H hw.2.2.2.2.2 h.wrel, Z0a.ren H _ _ (Z6t hw.1 h.frel) hw.2.2.2.2.1, hw.ext rfl hle h.ext, h.defers⟩⟩
mutual
theorem Z73 : ∀ x : AV, ren (fun i => i) x = x
 | .agg cs => by simp only [ren, Z32 cs]
 | .tup cs => by simp only [ren, Z32 cs]
 | .sl cs n => by simp only [ren, Z32 cs]
 | .ip cs => by simp only [ren, Z32 cs]
 | .fn f a b => by simp only [ren, Z32 a, Z32 b]
 | .ifc t x => by simp only [ren, Z73 x]
 | .when c x => by simp only [ren, Z73 x]
 | .alt c x y => by simp only [ren, Z73 x, Z73 y]
 | .any => rfl
 | .int .. => rfl
 | .bool _ => rfl
 | .str _ => rfl
 | .lit _ => rfl
 | .msl .. => rfl
 | .ref .. => rfl
 | .ub .. => rfl
 | .csl .. => rfl
 | .mp .. => rfl
 | .mpr .. => rfl
theorem Z32 : ∀ xs : List AV, renL (fun i => i) xs = xs
 | [] => rfl
 | x :: xs => by simp only [renL, Z73 x, Z32 xs]
end
theorem Z7u {m : Mem} {L : Z02} {x : AV} {u : Value} (h : Z05 m L x u) (hs : scp 0 x = true) : Z05 m [] x u :=
 Z05.ren (ρ := fun i => i) ⟨rfl, fun _ h => by simp at h, fun _ h => by simp at h, fun _ _ h => by simp at h, fun _ _ h => by simp at h⟩ x u (by rw [Z73]; exact h) hs
theorem Z4E {m : Mem} {L : Z02} {xs : List AV} {us : List Value} (h : Z0a m L xs us) (hs : Z1D 0 xs = true) : Z0a m [] xs us :=
 Z0a.ren (ρ := fun i => i) ⟨rfl, fun _ h => by simp at h, fun _ h => by simp at h, fun _ _ h => by simp at h, fun _ _ h => by simp at h⟩ xs us (by rw [Z32]; exact h) hs
mutual
def Z4I (L : Z02) (id : Nat) : AV → AV
 | .msl i ver off n => cond (i == id) (cond (ver == Z1s L id) (.sl (((Z0L L id).drop (off * Z1K L id)).take (n * Z1K L id)) n) .any) (.msl i ver off n)
 | .ref i ver off => cond (i == id) (cond (ver == Z1s L id) (cond (isRow L id) (.ip ((Z0L L id).drop off)) .any) .any) (.ref i ver off)
 | .agg cs => .agg (Z4J L id cs)
 | .tup cs => .tup (Z4J L id cs)
 | .sl cs n => cond (Z1D 0 cs) (.sl cs n) .any
 | .ip cs => cond (Z1D 0 cs) (.ip cs) .any
 | .fn f a b => cond (Z1D 0 a && Z1D 0 b) (.fn f a b) .any
 | .ifc t x => .ifc t (Z4I L id x)
 | .when c x => cond (scp 0 x) (.when c x) .any
 | .alt c x y => cond (scp 0 x && scp 0 y) (.alt c x y) .any
 | .any => .any
 | .int k n => .int k n
 | .bool b => .bool b
 | .str l => .str l
 | .lit v => .lit v
 | .ub p q => .ub p q
 | .csl i ver off n => cond (i == id) (cond (ver == Z1s L id) (.sl (((Z0L L id).drop (off * Z1K L id)).take (n * Z1K L id)) n) .any) (.csl i ver off n)
 | .mp i => cond (i == id) (match L[id]? with | some (.raw (.map kd f)) => .mpr kd f | _ => .any) (.mp i)
 | .mpr kd f => .mpr kd f
def Z4J (L : Z02) (id : Nat) : List AV → List AV
 | [] => []
 | x :: xs => Z4I L id x :: Z4J L id xs
end
def Znv (L : Z02) (id : Nat) : Z0T → Z0T
 | .row cs sz v => .row (Z4J L id cs) sz v
 | .raw r => .raw r
 | .dead => .dead
def Z5e (L : Z02) (id : Nat) : Z02 := (L.set id .dead).map (Znv L id)
def Za6 (L : Z02) (id : Nat) : Prop := isRow L id = true ∧ Z1D 0 (Z0L L id) = true
def Z9Y (L : Z02) (id : Nat) : Bool := match L[id]? with | some (.raw (.map ..)) => true | _ => false
def Z2K (L : Z02) (id : Nat) : Prop := Za6 L id ∨ Z9Y L id = true
theorem Z3C (L : Z02) (id : Nat) : ∀ cs : List AV, (Z4J L id cs).length = cs.length
 | [] => rfl
 | x :: xs => by simp only [Z4J, List.length_cons, Z3C L id xs]
open Classical in
noncomputable def Z89 (m : Mem) (L : Z02) (w : World) (id : Nat) : Mem := { m with pobj := fun g => if g = m.blk id ∧ Own m L id then w.heap[g]? else m.pobj g }
section
variable {m : Mem} {L : Z02} {w : World} {id : Nat}
theorem Z3B {j : Nat} (hj : j ≠ id) : (Z5e L id)[j]? = (L[j]?).map (Znv L id) := by
 simp only [Z5e, List.getElem?_map, List.getElem?_set_ne (Ne.symm hj)]
theorem ZoY (hok : Z2K L id) : id < L.length := by
 rcases Nat.lt_or_ge id L.length with h | h
 ·exact h
 ·rcases hok with hok | hok
  ·have := hok.1; simp [isRow, List.getElem?_eq_none h] at this
  ·simp [Z9Y, List.getElem?_eq_none h] at hok
theorem Z88 (hW : Z0E m L w) {g : Nat} {o : Obj} (hp : m.pobj g = some o) : (Z89 m L w id).pobj g = some o := by
 simp only [Z89]
 split
 ·rename_i h
  have := hW.freeo id h.2
  rw [← h.1, hp] at this; cases this
 ·exact hp
theorem Z8Z (hW : Z0E m L w) : Z4F m [] (Z89 m L w id) (Z5e L id) :=
 ⟨fun g o h => Z88 hW h, fun _ _ _ _ h => by simp at h, fun _ _ h => by simp at h⟩
theorem Z3n (hW : Z0E m L w) {x : AV} {u : Value} (h : Z05 m L x u) (hs : scp 0 x = true) : Z05 (Z89 m L w id) (Z5e L id) x u :=
 Z05.mono (Z8Z hW) _ _ (Z7u h hs)
theorem Za5 (hW : Z0E m L w) {xs : List AV} {us : List Value} (h : Z0a m L xs us) (hs : Z1D 0 xs = true) : Z0a (Z89 m L w id) (Z5e L id) xs us :=
 Z0a.mono (Z8Z hW) _ _ (Z4E h hs)
theorem Z6E (hW : Z0E m L w) (hok : Za6 L id) : ∃ us, Z0a (Z89 m L w id) (Z5e L id) (Z0L L id) us ∧ ∀ j v, us[j]? = some v → (Z89 m L w id).pin (m.blk id) j = some v := by
 obtain ⟨cs, sz, hL, h1, h2⟩ := Z0H (L := L) (id := id) (ver := Z1s L id) ⟨hok.1, rfl⟩
 obtain ⟨us, hc, hcell, _⟩ := Z1F hW hL
 have hs := hok.2
 rw [h1] at hs ⊢
 refine ⟨us, Za5 hW hc hs, fun j v hj => ?_⟩
 have hcap : m.cap id ≠ 0 := by
  intro h0
  have := hW.nils _ _ _ _ hL h0
  subst this
  simp only [Z0a] at hc
  subst hc
  simp at hj
 refine Mem.pin_heap ?_ (hcell _ _ hj)
 simp only [Z89]
 rw [if_pos ⟨rfl, .inl ⟨_, _, _, hL, hcap⟩⟩]
mutual
theorem Z05.frz (hW : Z0E m L w) (hok : Z2K L id) : ∀ (x : AV) (u : Value), Z05 m L x u → Z05 (Z89 m L w id) (Z5e L id) (Z4I L id x) u
 | .any, _, _ => by simp [Z4I, Z05]
 | .int .., _, h => by simpa [Z4I, Z05] using h
 | .bool _, _, h => by simpa [Z4I, Z05] using h
 | .str _, _, h => by simpa [Z4I, Z05] using h
 | .lit _, _, h => by simpa [Z4I, Z05] using h
 | .agg cs, u, h => by
  simp only [Z05, Z4I] at *
  obtain ⟨us, rfl, hc⟩ := h
  exact ⟨us, rfl, Z0a.frz hW hok cs us hc⟩
 | .tup cs, u, h => by
  simp only [Z05, Z4I] at *
  obtain ⟨us, rfl, hc⟩ := h
  exact ⟨us, rfl, Z0a.frz hW hok cs us hc⟩
 | .sl cs n, u, h => by
  simp only [Z4I]
  cases hs : Z1D 0 cs
  ·simp [Z05]
  ·exact Z3n hW h hs
 | .ip cs, u, h => by
  simp only [Z4I]
  cases hs : Z1D 0 cs
  ·simp [Z05]
  ·exact Z3n hW h hs
 | .fn f a b, u, h => by
  simp only [Z4I]
  cases hs : Z1D 0 a && Z1D 0 b
  ·simp [Z05]
  ·exact Z3n hW h (by simpa [scp] using hs)
 | .when c x, u, h => by
  simp only [Z4I]
  cases hs : scp 0 x
  ·simp [Z05]
  ·exact Z3n hW h (by simpa [scp] using hs)
 | .alt c x y, u, h => by
  simp only [Z4I]
  cases hs : scp 0 x && scp 0 y
  ·simp [Z05]
  ·exact Z3n hW h (by simpa [scp] using hs)
 | .ifc t x, u, h => by
  simp only [Z05, Z4I] at *
  obtain ⟨v, rfl, h⟩ := h
  exact ⟨v, rfl, Z05.frz hW hok x v h⟩
 | .msl i ver off n, u, h => by
  simp only [Z4I]
  by_cases hi : i = id
  ·subst hi
   simp only [beq_self_eq_true, cond_true]
   by_cases hv : ver = Z1s L i
   ·simp only [hv, beq_self_eq_true, cond_true]
    have hrow : Za6 L i := by
     rcases hok with hok | hok
     ·exact hok
     ·simp only [Z05] at h
      obtain ⟨_, _, _, hL, _⟩ := h
      simp [Z9Y, hL] at hok
    have hf : Z15 L i (Z1s L i) := ⟨hrow.1, rfl⟩
    rw [hv] at h
    obtain ⟨k1, k2, a, rfl, ha⟩ := Z0N h hf
    obtain ⟨us, hc, hp⟩ := Z6E hW hrow
    simp only [Z05]
    refine ⟨a, _, rfl, by omega, _, (hc.drop (off * Z1K L i)).take (n * Z1K L i), ?_⟩
    rcases ha with ha | ha
    ·have : n = 0 := by omega
     subst this
     simp
    ·refine .inr ⟨_, _, ha, fun j v hj => hp _ _ ?_⟩
     rw [List.getElem?_take, List.getElem?_drop] at hj
     split at hj
     ·exact hj
     ·cases hj
   ·have : (ver == Z1s L i) = false := by simp [hv]
    simp [this, Z05]
  ·have : (i == id) = false := by simp [hi]
   simp only [this, cond_false, Z05] at h ⊢
   obtain ⟨cs, sz, v, hL, hle, hsh, h⟩ := h
   refine ⟨Z4J L id cs, sz, v, by rw [Z3B hi, hL]; rfl, hle, hsh, ?_⟩
   rw [Z3C]
   exact h
 | .ref i ver off, u, h => by
  simp only [Z4I]
  by_cases hi : i = id
  ·subst hi
   simp only [beq_self_eq_true, cond_true]
   by_cases hv : ver = Z1s L i
   ·simp only [hv, beq_self_eq_true, cond_true]
    by_cases hrow : Za6 L i
    case neg =>
     have : cond (isRow L i) (AV.ip ((Z0L L i).drop off)) .any = .any := by
      rcases hok with hok | hok
      ·exact absurd hok hrow
      ·unfold Z9Y at hok
       split at hok
       ·rename_i hL; simp [isRow, hL]
       ·cases hok
     rw [this]; simp [Z05]
    rw [hrow.1]
    have hf : Z15 L i (Z1s L i) := ⟨hrow.1, rfl⟩
    rw [hv] at h
    have hu := Z3u h hf
    obtain ⟨us, hc, hp⟩ := Z6E hW hrow
    simp only [cond_true, Z05]
    exact ⟨_, _, _, hu, hc.drop off, fun j v hj => hp _ _ (by rw [List.getElem?_drop] at hj; exact hj)⟩
   ·have : (ver == Z1s L i) = false := by simp [hv]
    simp [this, Z05]
  ·have : (i == id) = false := by simp [hi]
   simp only [this, cond_false, Z05] at h ⊢
   rcases h with ⟨cs, sz, v, hL, hle, hsh, h⟩ | ⟨r, hL, h⟩
   ·exact .inl ⟨Z4J L id cs, sz, v, by rw [Z3B hi, hL]; rfl, hle, hsh, h⟩
   ·exact .inr ⟨r, by rw [Z3B hi, hL]; rfl, h⟩
 | .ub .., _, h => by simpa only [Z4I, Z05] using h
 | .csl i ver off n, u, h => by
  simp only [Z4I]
  by_cases hi : i = id
  ·subst hi
   simp only [beq_self_eq_true, cond_true]
   by_cases hv : ver = Z1s L i
   ·simp only [hv, beq_self_eq_true, cond_true]
    have hrow : Za6 L i := by
     rcases hok with hok | hok
     ·exact hok
     ·simp only [Z05] at h
      obtain ⟨_, _, _, hL, _⟩ := h
      simp [Z9Y, hL] at hok
    have hf : Z15 L i (Z1s L i) := ⟨hrow.1, rfl⟩
    rw [hv] at h
    obtain ⟨k1, k2, a, rfl, ha⟩ := Z41 h hf
    obtain ⟨us, hc, hp⟩ := Z6E hW hrow
    simp only [Z05]
    refine ⟨a, _, rfl, by omega, _, (hc.drop (off * Z1K L i)).take (n * Z1K L i), ?_⟩
    rcases ha with ha | ha
    ·have : n = 0 := by omega
     subst this
     simp
    ·refine .inr ⟨_, _, ha, fun j v hj => hp _ _ ?_⟩
     rw [List.getElem?_take, List.getElem?_drop] at hj
     split at hj
     ·exact hj
     ·cases hj
   ·have : (ver == Z1s L i) = false := by simp [hv]
    simp [this, Z05]
  ·have : (i == id) = false := by simp [hi]
   simp only [this, cond_false, Z05] at h ⊢
   obtain ⟨cs, sz, v, hL, hle, hsh, h⟩ := h
   refine ⟨Z4J L id cs, sz, v, by rw [Z3B hi, hL]; rfl, hle, hsh, ?_⟩
   rw [Z3C]
   exact h
 | .mp i, u, h => by
  simp only [Z4I]
  by_cases hi : i = id
  ·subst hi
   simp only [beq_self_eq_true, cond_true]
   split
   ·rename_i kd f hL
    simp only [Z05] at h ⊢
    obtain ⟨r, hL', hu⟩ := h
    obtain ⟨o, hb, hr⟩ := hW.iters _ _ hL
    simp only [Z4u] at hr
    obtain ⟨es, clock, rfl, hM⟩ := hr
    refine ⟨m.blk i, es, clock, hu, ?_, hM⟩
    simp only [Z89]
    rw [if_pos ⟨rfl, .inr ⟨_, hL⟩⟩]
    exact hb
   ·simp [Z05]
  ·have : (i == id) = false := by simp [hi]
   simp only [this, cond_false, Z05] at h ⊢
   obtain ⟨r, hL, h⟩ := h
   exact ⟨r, by rw [Z3B hi, hL]; rfl, h⟩
 | .mpr kd f, u, h => by
  simp only [Z4I, Z05] at *
  obtain ⟨g, es, clock, hu, hp, hM⟩ := h
  exact ⟨g, es, clock, hu, Z88 hW hp, hM⟩
theorem Z0a.frz (hW : Z0E m L w) (hok : Z2K L id) : ∀ (cs : List AV) (us : List Value), Z0a m L cs us → Z0a (Z89 m L w id) (Z5e L id) (Z4J L id cs) us
 | [], _, h => by simpa [Z0a, Z4J] using h
 | c :: cs, us, h => by
  simp only [Z0a, Z4J] at *
  obtain ⟨u, us', rfl, h1, h2⟩ := h
  exact ⟨u, us', rfl, Z05.frz hW hok c u h1, Z0a.frz hW hok cs us' h2⟩
end
theorem frz_dead (hok : Z2K L id) : (Z5e L id)[id]? = some .dead := by
 have := ZoY hok
 simp [Z5e, this, Znv]
theorem Za4 {j : Nat} {cs' : List AV} {sz ver : Nat} (hr : Z2K L id) (h : (Z5e L id)[j]? = some (.row cs' sz ver)) : j ≠ id ∧ ∃ cs, L[j]? = some (.row cs sz ver) ∧ cs' = Z4J L id cs := by
 have hj : j ≠ id := by intro e; rw [e, frz_dead hr] at h; cases h
 rw [Z3B hj, Option.map_eq_some_iff] at h
 obtain ⟨o, h1, h2⟩ := h
 cases o <;> simp only [Znv, reduceCtorEq, Z0T.row.injEq] at h2
 obtain ⟨rfl, rfl, rfl⟩ := h2
 exact ⟨hj, _, h1, rfl⟩
theorem Z5Z {j : Nat} {r : Raw} (hr : Z2K L id) (h : (Z5e L id)[j]? = some (.raw r)) : j ≠ id ∧ L[j]? = some (.raw r) := by
 have hj : j ≠ id := by intro e; rw [e, frz_dead hr] at h; cases h
 rw [Z3B hj, Option.map_eq_some_iff] at h
 obtain ⟨o, h1, h2⟩ := h
 cases o <;> simp only [Znv, reduceCtorEq, Z0T.raw.injEq] at h2
 subst h2
 exact ⟨hj, h1⟩
theorem Z6D {j : Nat} (hr : Z2K L id) (h : Own (Z89 m L w id) (Z5e L id) j) : j ≠ id ∧ Own m L j := by
 rcases h with ⟨cs, sz, ver, hL, hc⟩ | ⟨r, hL⟩
 ·obtain ⟨h1, cs', h2, _⟩ := Za4 hr hL
  exact ⟨h1, .inl ⟨_, _, _, h2, hc⟩⟩
 ·obtain ⟨h1, h2⟩ := Z5Z hr hL
  exact ⟨h1, .inr ⟨_, h2⟩⟩
theorem Z0E.frz (hW : Z0E m L w) (hok : Z2K L id) : Z0E (Z89 m L w id) (Z5e L id) w := by
 refine ⟨hW.glob.mono fun g o h => by simp only [Z89]; split; exact hW.pobjs _ _ h; exact h, fun g o hp => ?_, fun j cs sz ver hL hc => ?_, fun j cs sz ver hL hc => ?_, fun j r hL => ?_, fun i j hi hj he => ?_, fun j ho => ?_, ?_⟩
 ·simp only [Z89] at hp
  split at hp
  ·exact hp
  ·exact hW.pobjs _ _ hp
 ·obtain ⟨hj, cs', hL', rfl⟩ := Za4 hok hL
  obtain ⟨us, rest, elem, lo, hi, k1, k2, k3, k4⟩ := hW.rows _ _ _ _ hL' hc
  exact ⟨us, rest, elem, lo, hi, k1, Z0a.frz hW hok _ _ k2, k3, k4⟩
 ·obtain ⟨hj, cs', hL', rfl⟩ := Za4 hok hL
  rw [hW.nils _ _ _ _ hL' hc]; rfl
 ·exact hW.iters _ _ (Z5Z hok hL).2
 ·exact hW.inj i j (Z6D hok hi).2 (Z6D hok hj).2 he
 ·obtain ⟨hj, ho'⟩ := Z6D hok ho
  simp only [Z89]
  rw [if_neg]
  ·exact hW.freeo j ho'
  ·rintro ⟨h1, h2⟩
   exact hj (hW.inj j id ho' h2 h1)
 ·refine hW.hid.keep (fun i T e l h => ⟨(Z5Z hok h).2, rfl, rfl⟩) (fun _ _ _ _ _ _ => rfl) (fun _ _ _ => rfl) (fun i g k => ?_) (fun i g k j hj => hW.hid.own i g k j (Z6D hok hj).2)
  simp only [Z89]
  rw [if_neg]
  ·exact hW.hid.free i g k
  ·rintro ⟨h1, h2⟩; exact hW.hid.own i g k id h2 h1.symm
theorem Ext.frz {m0 : Mem} {L0 : Z02} {w0 : World} (hE : Ext m0 L0 w0 m L w) (hW : Z0E m L w) (hok : Z2K L id) (hle : L0.length ≤ id) : Ext m0 L0 w0 (Z89 m L w id) (Z5e L id) w := by
 have hb : Own m L id → w0.heap.size ≤ m.blk id := by
  intro ho
  rcases hE.blks id ho with ⟨h1, _⟩ | h1
  ·rcases h1 with ⟨_, _, _, h, _⟩ | ⟨_, h⟩ <;> (have := (List.getElem?_eq_some_iff.1 h).1; omega)
  ·exact h1
 refine ⟨hE.frame, hE.size, fun g hg => ?_, fun j ho => hE.blks j (Z6D hok ho).2, by simp only [Z5e, List.length_map, List.length_set]; exact hE.len, ⟨fun g o hp => Z88 hW (hE.mono.pobj _ _ hp), fun j cs sz ver hL => ?_, fun j r hL => ?_⟩, hE.same, fun i g ⟨T, e, l, k1, k2⟩ => hE.hnew i g ⟨T, e, l, (Z5Z hok k1).2, k2⟩⟩
 ·simp only [Z89]
  rw [if_neg]
  ·exact hE.newobj g hg
  ·rintro ⟨h1, h2⟩; have := hb h2; omega
 ·obtain ⟨cs', v', h1, h2, h3⟩ := hE.mono.row _ _ _ _ hL
  have hj : j ≠ id := by have := (List.getElem?_eq_some_iff.1 hL).1; omega
  refine ⟨Z4J L id cs', v', by rw [Z3B hj, h1]; rfl, h2, fun e => ?_⟩
  rw [Z3C]; exact h3 e
 ·obtain ⟨r', h1, h2⟩ := hE.mono.iter _ _ hL
  have hj : j ≠ id := by have := (List.getElem?_eq_some_iff.1 hL).1; omega
  exact ⟨r', by rw [Z3B hj, h1]; rfl, h2⟩
end
def Z5d (m : Mem) (n : Nat) : Mem := { m with cap := fun i => if i = n then 0 else m.cap i }
section
variable {m : Mem} {L : Z02} {w : World} {sz : Nat}
theorem Z5m {j : Nat} {o : Z0T} (h : (L ++ [Z0T.row [] sz 0])[j]? = some o) : (j < L.length ∧ L[j]? = some o) ∨ (j = L.length ∧ o = .row [] sz 0) := by
 by_cases hlt : j < L.length
 ·rw [List.getElem?_append_left hlt] at h; exact .inl ⟨hlt, h⟩
 ·rw [List.getElem?_append_right (by omega)] at h
  have : j - L.length = 0 := by
   have := (List.getElem?_eq_some_iff.1 h).1
   simp at this; omega
  rw [this] at h
  simp at h
  exact .inr ⟨by omega, h.symm⟩
theorem Z4g : Z4F m L (Z5d m L.length) (L ++ [Z0T.row [] sz 0]) := by
 refine ⟨fun _ _ h => h, fun id cs s v h => ?_, fun id r h => ?_⟩ <;> have hlt := (List.getElem?_eq_some_iff.1 h).1
 ·exact ⟨cs, v, by rw [List.getElem?_append_left hlt]; exact h, Nat.le_refl _, fun _ => ⟨rfl, rfl, by simp only [Z5d]; rw [if_neg (by omega)]⟩⟩
 ·exact ⟨r, by rw [List.getElem?_append_left hlt]; exact h, rfl⟩
theorem Z6l {j : Nat} (h : Own (Z5d m L.length) (L ++ [Z0T.row [] sz 0]) j) : j < L.length ∧ Own m L j := by
 rcases h with ⟨cs, s, v, hL, hc⟩ | ⟨r, hL⟩
 ·rcases Z5m hL with ⟨h1, h2⟩ | ⟨h1, _⟩
  ·simp only [Z5d] at hc
   rw [if_neg (by omega)] at hc
   exact ⟨h1, .inl ⟨_, _, _, h2, hc⟩⟩
  ·subst h1; simp [Z5d] at hc
 ·rcases Z5m hL with ⟨h1, h2⟩ | ⟨_, h2⟩
  ·exact ⟨h1, .inr ⟨_, h2⟩⟩
  ·cases h2
theorem Z9N {j : Nat} {T e : TypeId} {l : List UInt8} (h : (L ++ [Z0T.row [] sz 0])[j]? = some (.raw (.bld T e l))) : L[j]? = some (.raw (.bld T e l)) ∧ (Z5d m L.length).blk j = m.blk j ∧ (Z5d m L.length).cap j = m.cap j := by
 rcases Z5m h with ⟨h1, h2⟩ | ⟨_, h2⟩
 ·exact ⟨h2, rfl, by simp only [Z5d]; rw [if_neg (by omega)]⟩
 ·cases h2
theorem Z0E.nil (hW : Z0E m L w) : Z0E (Z5d m L.length) (L ++ [Z0T.row [] sz 0]) w := by
 refine ⟨hW.glob, hW.pobjs, fun j cs s v hL hc => ?_, fun j cs s v hL hc => ?_, fun j r hL => ?_, fun i j hi hj he => hW.inj i j (Z6l hi).2 (Z6l hj).2 he, fun j ho => hW.freeo j (Z6l ho).2, hW.hid.keep (fun i T e l h => Z9N h) (fun _ _ _ _ _ _ => rfl) (fun _ _ _ => rfl) (fun i g k => hW.hid.free i g k) (fun i g k j hj => hW.hid.own i g k j (Z6l hj).2)⟩
 ·rcases Z5m hL with ⟨h1, h2⟩ | ⟨h1, _⟩
  ·simp only [Z5d] at hc ⊢
   rw [if_neg (by omega)] at hc ⊢
   obtain ⟨us, rest, elem, lo, hi, k1, k2, k3, k4⟩ := hW.rows _ _ _ _ h2 hc
   exact ⟨us, rest, elem, lo, hi, k1, Z0a.mono Z4g _ _ k2, k3, k4⟩
  ·subst h1; simp [Z5d] at hc
 ·rcases Z5m hL with ⟨h1, h2⟩ | ⟨_, h2⟩
  ·simp only [Z5d] at hc
   rw [if_neg (by omega)] at hc
   exact hW.nils _ _ _ _ h2 hc
  ·cases h2; rfl
 ·rcases Z5m hL with ⟨h1, h2⟩ | ⟨_, h2⟩
  ·exact hW.iters _ _ h2
  ·cases h2
theorem Ext.nil {m0 : Mem} {L0 : Z02} {w0 : World} (hE : Ext m0 L0 w0 m L w) : Ext m0 L0 w0 (Z5d m L.length) (L ++ [Z0T.row [] sz 0]) w :=
 ⟨hE.frame, hE.size, hE.newobj, fun j ho => hE.blks j (Z6l ho).2, by simp; have := hE.len; omega, hE.mono.trans Z4g, hE.same, fun i g ⟨T, e, l, k1, k2⟩ => hE.hnew i g ⟨T, e, l, (Z9N (m := m) k1).1, by rw [← (Z9N (m := m) k1).2.2]; exact k2⟩⟩
theorem ZdL {fr : List AV} {us : List Value} (h : Z0a m L fr us) (i : Nat) (hi : fr.getD i .any = .lit (.slice none 0 0)) : Z0a (Z5d m L.length) (L ++ [Z0T.row [] sz 0]) (fr.set i (.msl L.length 0 0 0)) us := by
 have h1 := h.getD i
 rw [hi] at h1
 simp only [Z05] at h1
 have hv : Z05 (Z5d m L.length) (L ++ [Z0T.row [] sz 0]) (.msl L.length 0 0 0) (us.getD i undef) := by
  rw [h1]
  simp only [Z05]
  exact ⟨[], sz, 0, by simp, Nat.le_refl _, ⟨none, 0, 0, rfl⟩, fun _ => ⟨by simp, by simp, none, by simp [Z5d], .inl (by simp [Z5d])⟩⟩
 have h2 := (Z0a.mono (Z4g (sz := sz)) _ _ h).set i hv
 have : us.set i (us.getD i undef) = us := by
  apply List.ext_getElem?
  intro j
  rw [List.getElem?_set]
  split
  ·rename_i hij
   subst hij
   split
   ·rename_i hlt; simp [List.getD, hlt]
   ·rename_i hlt; rw [List.getElem?_eq_none (by omega)]
  ·rfl
 rwa [this] at h2
end
mutual
def Z4H (L : Z02) (id v' : Nat) : AV → AV
 | .msl i ver off n => cond (i == id) (cond (ver == Z1s L id) (.msl i v' off n) .any) (.msl i ver off n)
 | .csl i ver off n => cond (i == id) (cond (ver == Z1s L id) (.csl i v' off n) .any) (.csl i ver off n)
 | .ref i ver off => cond (i == id) (cond (ver == Z1s L id) (.ref i v' off) .any) (.ref i ver off)
 | .agg cs => .agg (Z5c L id v' cs)
 | .tup cs => .tup (Z5c L id v' cs)
 | .sl cs n => cond (Z1D 0 cs) (.sl cs n) .any
 | .ip cs => cond (Z1D 0 cs) (.ip cs) .any
 | .fn f a b => .fn f (Z5c L id v' a) (Z5c L id v' b)
 | .ifc t x => .ifc t (Z4H L id v' x)
 | .when c x => cond (scp 0 x) (.when c x) .any
 | .alt c x y => cond (scp 0 x && scp 0 y) (.alt c x y) .any
 | .any => .any
 | .int k n => .int k n
 | .bool b => .bool b
 | .str l => .str l
 | .lit v => .lit v
 | .ub p q => .ub p q
 | .mp i => .mp i
 | .mpr kd f => .mpr kd f
def Z5c (L : Z02) (id v' : Nat) : List AV → List AV
 | [] => []
 | x :: xs => Z4H L id v' x :: Z5c L id v' xs
end
def ZlM (L : Z02) (id v' : Nat) : Z0T → Z0T
 | .row cs sz v => .row (Z5c L id v' cs) sz v
 | .raw r => .raw r
 | .dead => .dead
def Z6Y (L : Z02) (id v' : Nat) : Z02 := (match L[id]? with | some (.row cs sz _) => L.set id (.row cs sz v') | _ => L).map (ZlM L id v')
theorem Z3o (L : Z02) (id v' : Nat) : ∀ cs : List AV, (Z5c L id v' cs).length = cs.length
 | [] => rfl
 | x :: xs => by simp only [Z5c, List.length_cons, Z3o L id v' xs]
section
variable {m : Mem} {L : Z02} {w : World} {id v' : Nat}
theorem Z64 {j : Nat} (hj : j ≠ id) : (Z6Y L id v')[j]? = (L[j]?).map (ZlM L id v') := by
 simp only [Z6Y]
 split
 ·rw [List.getElem?_map, List.getElem?_set_ne (Ne.symm hj)]
 ·rw [List.getElem?_map]
theorem Zaj {cs : List AV} {sz v : Nat} (h : L[id]? = some (.row cs sz v)) : (Z6Y L id v')[id]? = some (.row (Z5c L id v' cs) sz v') := by
 have hlt := (List.getElem?_eq_some_iff.1 h).1
 simp only [Z6Y, h, List.getElem?_map, List.getElem?_set_self hlt, Option.map_some, ZlM]
theorem Z9m {j : Nat} {r : Raw} (h : L[j]? = some (.raw r)) : (Z6Y L id v')[j]? = some (.raw r) := by
 by_cases hj : j = id
 ·subst hj
  simp only [Z6Y, h, List.getElem?_map, Option.map_some, ZlM]
 ·rw [Z64 hj, h]; rfl
theorem Z9l (hr : isRow L id = true) {j : Nat} {cs : List AV} {sz v : Nat} (h : (Z6Y L id v')[j]? = some (.row cs sz v)) : ∃ cs0 v0, L[j]? = some (.row cs0 sz v0) ∧ cs = Z5c L id v' cs0 := by
 by_cases hj : j = id
 ·subst hj
  obtain ⟨cs0, sz0, hL, _⟩ := Z0H (L := L) (id := j) (ver := Z1s L j) ⟨hr, rfl⟩
  rw [Zaj hL] at h
  simp only [Option.some.injEq, Z0T.row.injEq] at h
  obtain ⟨rfl, rfl, rfl⟩ := h
  exact ⟨cs0, _, hL, rfl⟩
 ·rw [Z64 hj, Option.map_eq_some_iff] at h
  obtain ⟨o, h1, h2⟩ := h
  cases o <;> simp only [ZlM, reduceCtorEq, Z0T.row.injEq] at h2
  obtain ⟨rfl, rfl, rfl⟩ := h2
  exact ⟨_, _, h1, rfl⟩
theorem Z5R (hr : isRow L id = true) {j : Nat} {r : Raw} (h : (Z6Y L id v')[j]? = some (.raw r)) : L[j]? = some (.raw r) := by
 by_cases hj : j = id
 ·subst hj
  obtain ⟨cs0, sz0, hL, _⟩ := Z0H (L := L) (id := j) (ver := Z1s L j) ⟨hr, rfl⟩
  rw [Zaj hL] at h; cases h
 ·rw [Z64 hj, Option.map_eq_some_iff] at h
  obtain ⟨o, h1, h2⟩ := h
  cases o <;> simp only [ZlM, reduceCtorEq, Z0T.raw.injEq] at h2
  subst h2; exact h1
theorem Z63 (hr : isRow L id = true) {j : Nat} (h : Own m (Z6Y L id v') j) : Own m L j := by
 rcases h with ⟨cs, sz, ver, hL, hc⟩ | ⟨r, hL⟩
 ·obtain ⟨cs0, v0, h1, _⟩ := Z9l hr hL
  exact .inl ⟨_, _, _, h1, hc⟩
 ·exact .inr ⟨_, Z5R hr hL⟩
theorem Z49 {x : AV} {u : Value} (h : Z05 m L x u) (hs : scp 0 x = true) : Z05 m (Z6Y L id v') x u :=
 Z05.mono (m := m) (L := []) ⟨fun _ _ h => h, fun _ _ _ _ h => by simp at h, fun _ _ h => by simp at h⟩ _ _ (Z7u h hs)
theorem Z7A {i ver : Nat} {Q : Nat → Nat → Prop} {S : Prop} (hr : isRow L id = true)
  (h : ∃ cs sz v, L[i]? = some (.row cs sz v) ∧ ver ≤ v ∧ S ∧ (v = ver → Q sz cs.length)) :
  (i = id → ver = Z1s L id → ∃ cs sz v, (Z6Y L id v')[i]? = some (.row cs sz v) ∧ v' ≤ v ∧ S ∧ (v = v' → Q sz cs.length)) ∧
  (i ≠ id → ∃ cs sz v, (Z6Y L id v')[i]? = some (.row cs sz v) ∧ ver ≤ v ∧ S ∧ (v = ver → Q sz cs.length)) := by
 obtain ⟨cs, sz, v, hL, hle, hs, hq⟩ := h
 refine ⟨fun hi hv => ?_, fun hi => ?_⟩
 ·subst hi
  have : v = ver := by rw [hv]; simp [Z1s, hL]
  exact ⟨Z5c L i v' cs, sz, v', Zaj hL, Nat.le_refl _, hs, fun _ => by rw [Z3o]; exact hq this⟩
 ·exact ⟨Z5c L id v' cs, sz, v, by rw [Z64 hi, hL]; rfl, hle, hs, by rw [Z3o]; exact hq⟩
mutual
theorem Z05.ver (hr : isRow L id = true) : ∀ (x : AV) (u : Value), Z05 m L x u → Z05 m (Z6Y L id v') (Z4H L id v' x) u
 | .any, _, _ => by simp [Z4H, Z05]
 | .int .., _, h => by simpa [Z4H, Z05] using h
 | .bool _, _, h => by simpa [Z4H, Z05] using h
 | .str _, _, h => by simpa [Z4H, Z05] using h
 | .lit _, _, h => by simpa [Z4H, Z05] using h
 | .ub .., _, h => by simpa only [Z4H, Z05] using h
 | .agg cs, u, h => by
  simp only [Z05, Z4H] at *
  obtain ⟨us, rfl, hc⟩ := h
  exact ⟨us, rfl, Z0a.ver hr cs us hc⟩
 | .tup cs, u, h => by
  simp only [Z05, Z4H] at *
  obtain ⟨us, rfl, hc⟩ := h
  exact ⟨us, rfl, Z0a.ver hr cs us hc⟩
 | .sl cs n, u, h => by
  simp only [Z4H]
  cases hs : Z1D 0 cs
  ·simp [Z05]
  ·exact Z49 h hs
 | .ip cs, u, h => by
  simp only [Z4H]
  cases hs : Z1D 0 cs
  ·simp [Z05]
  ·exact Z49 h hs
 | .fn f a b, u, h => by
  simp only [Z05, Z4H] at *
  obtain ⟨us, vs, rfl, h1, h2⟩ := h
  exact ⟨us, vs, rfl, Z0a.ver hr a us h1, Z0a.ver hr b vs h2⟩
 | .when c x, u, h => by
  simp only [Z4H]
  cases hs : scp 0 x
  ·simp [Z05]
  ·exact Z49 h (by simpa [scp] using hs)
 | .alt c x y, u, h => by
  simp only [Z4H]
  cases hs : scp 0 x && scp 0 y
  ·simp [Z05]
  ·exact Z49 h (by simpa [scp] using hs)
 | .ifc t x, u, h => by
  simp only [Z05, Z4H] at *
  obtain ⟨v, rfl, h⟩ := h
  exact ⟨v, rfl, Z05.ver hr x v h⟩
 | .msl i ver off n, u, h => by
  simp only [Z4H]
  simp only [Z05] at h
  have k := Z7A (v' := v') (Q := fun sz l => (off + n) * sz ≤ l ∧ off + n ≤ m.cap i ∧ ∃ a, u = .slice a n (m.cap i - off) ∧ (off = m.cap i ∨ a = some ⟨m.blk i, off * sz, none⟩)) hr h
  by_cases hi : i = id
  ·by_cases hv : ver = Z1s L id
   ·have := k.1 hi hv
    simpa only [hi, hv, beq_self_eq_true, cond_true, Z05] using this
   ·have e : (ver == Z1s L id) = false := by simp [hv]
    simp [hi, e, Z05]
  ·have e : (i == id) = false := by simp [hi]
   simpa only [e, cond_false, Z05] using k.2 hi
 | .csl i ver off n, u, h => by
  simp only [Z4H]
  simp only [Z05] at h
  have k := Z7A (v' := v') (Q := fun sz l => (off + n) * sz ≤ l ∧ off + n ≤ m.cap i ∧ ∃ a, u = .slice a n n ∧ (n = 0 ∨ a = some ⟨m.blk i, off * sz, none⟩)) hr h
  by_cases hi : i = id
  ·by_cases hv : ver = Z1s L id
   ·have := k.1 hi hv
    simpa only [hi, hv, beq_self_eq_true, cond_true, Z05] using this
   ·have e : (ver == Z1s L id) = false := by simp [hv]
    simp [hi, e, Z05]
  ·have e : (i == id) = false := by simp [hi]
   simpa only [e, cond_false, Z05] using k.2 hi
 | .ref i ver off, u, h => by
  simp only [Z4H]
  simp only [Z05] at h
  rcases h with h | ⟨r, hL, h⟩
  ·have k := Z7A (v' := v') (Q := fun _ _ => u = .pointer (some ⟨m.blk i, off, none⟩)) hr h
   by_cases hi : i = id
   ·by_cases hv : ver = Z1s L id
    ·have := k.1 hi hv
     simp only [hi, hv, beq_self_eq_true, cond_true, Z05]
     left; simpa only [hi] using this
    ·have e : (ver == Z1s L id) = false := by simp [hv]
     simp [hi, e, Z05]
   ·have e : (i == id) = false := by simp [hi]
    simp only [e, cond_false, Z05]
    exact .inl (k.2 hi)
  ·have hi : i ≠ id := by
    intro e; subst e
    simp [isRow, hL] at hr
   have e : (i == id) = false := by simp [hi]
   simp only [e, cond_false, Z05]
   exact .inr ⟨r, Z9m hL, h⟩
 | .mp i, u, h => by
  simp only [Z4H, Z05] at *
  obtain ⟨r, hL, h⟩ := h
  exact ⟨r, Z9m hL, h⟩
 | .mpr kd f, u, h => by simpa only [Z4H, Z05] using h
theorem Z0a.ver (hr : isRow L id = true) : ∀ (cs : List AV) (us : List Value), Z0a m L cs us → Z0a m (Z6Y L id v') (Z5c L id v' cs) us
 | [], _, h => by simpa [Z0a, Z5c] using h
 | c :: cs, us, h => by
  simp only [Z0a, Z5c] at *
  obtain ⟨u, us', rfl, h1, h2⟩ := h
  exact ⟨u, us', rfl, Z05.ver hr c u h1, Z0a.ver hr cs us' h2⟩
end
theorem Z0E.ver (hW : Z0E m L w) (hr : isRow L id = true) : Z0E m (Z6Y L id v') w := by
 refine ⟨hW.glob, hW.pobjs, fun j cs sz ver hL hc => ?_, fun j cs sz ver hL hc => ?_, fun j r hL => hW.iters _ _ (Z5R hr hL), fun i j hi hj he => hW.inj i j (Z63 hr hi) (Z63 hr hj) he, fun j ho => hW.freeo j (Z63 hr ho), hW.hid.keep (fun i T e l h => ⟨Z5R hr h, rfl, rfl⟩) (fun _ _ _ _ _ _ => rfl) (fun _ _ _ => rfl) (fun i g k => hW.hid.free i g k) (fun i g k j hj => hW.hid.own i g k j (Z63 hr hj))⟩
 ·obtain ⟨cs0, v0, h1, rfl⟩ := Z9l hr hL
  obtain ⟨us, rest, elem, lo, hi, k1, k2, k3, k4⟩ := hW.rows _ _ _ _ h1 hc
  exact ⟨us, rest, elem, lo, hi, k1, Z0a.ver hr _ _ k2, k3, k4⟩
 ·obtain ⟨cs0, v0, h1, rfl⟩ := Z9l hr hL
  rw [hW.nils _ _ _ _ h1 hc]; rfl
theorem Z9o : (Z6Y L id v').length = L.length := by
 simp only [Z6Y]; split <;> simp
theorem Ext.ver {m0 : Mem} {L0 : Z02} {w0 : World} (hE : Ext m0 L0 w0 m L w) (hr : isRow L id = true) (hv : Z1s L0 id < v' ∨ L0.length ≤ id) : Ext m0 L0 w0 m (Z6Y L id v') w := by
 refine ⟨hE.frame, hE.size, hE.newobj, fun j ho => hE.blks j (Z63 hr ho), by rw [Z9o]; exact hE.len, ⟨hE.mono.pobj, fun j cs sz ver hL => ?_, fun j r hL => ?_⟩, hE.same, fun i g ⟨T, e, l, k1, k2⟩ => hE.hnew i g ⟨T, e, l, Z5R hr k1, k2⟩⟩
 ·obtain ⟨cs', v1, h1, h2, h3⟩ := hE.mono.row _ _ _ _ hL
  by_cases hj : j = id
  ·subst hj
   have hlt := (List.getElem?_eq_some_iff.1 hL).1
   have e : Z1s L0 j = ver := by simp [Z1s, hL]
   refine ⟨Z5c L j v' cs', v', Zaj h1, by omega, fun e2 => by omega⟩
  ·exact ⟨Z5c L id v' cs', v1, by rw [Z64 hj, h1]; rfl, h2, fun e => by rw [Z3o]; exact h3 e⟩
 ·obtain ⟨r', h1, h2⟩ := hE.mono.iter _ _ hL
  exact ⟨r', Z9m h1, h2⟩
end
theorem Zj2 {α : Type} {us : List α} {i : Nat} {u : α} (h : us[i]? = some u) : us.set i u = us := by
 apply List.ext_getElem?
 intro j
 rw [List.getElem?_set]
 split
 ·rename_i hij; subst hij
  rw [if_pos (List.getElem?_eq_some_iff.1 h).1, h]
 ·rfl
theorem ZjJ {m : Mem} {L : Z02} {sz : Nat} {fr : List AV} {us : List Value} (h : Z0a m L fr us) (i j : Nat) (cs : List AV) (hi : fr.getD i .any = .tup cs) (hj : cs.getD j .any = .lit (.slice none 0 0)) :
  Z0a (Z5d m L.length) (L ++ [Z0T.row [] sz 0]) (fr.set i (.tup (cs.set j (.msl L.length 0 0 0)))) us := by
 have h' := Z0a.mono (Z4g (sz := sz)) _ _ h
 have h1 := h'.getD i
 rw [hi] at h1
 simp only [Z05] at h1
 obtain ⟨vs, hu, hc⟩ := h1
 have hc1 := ZdL (m := m) (L := L) (sz := sz) (fr := cs) (us := vs) (by
  have h0 := h.getD i
  rw [hi] at h0
  simp only [Z05] at h0
  obtain ⟨vs', hu', hc'⟩ := h0
  rw [hu] at hu'
  have : vs = vs' := by simpa using hu'
  rw [this]; exact hc') j hj
 have hlt : i < us.length := by
  rcases Nat.lt_or_ge i us.length with h2 | h2
  ·exact h2
  ·have : fr.getD i .any = .any := by simp [List.getD, List.getElem?_eq_none (by rw [← h.length]; exact h2)]
   rw [this] at hi; cases hi
 have hget : us[i]? = some (.tuple vs.toArray) := by
  have : us.getD i undef = us[i] := by simp [List.getD, hlt]
  rw [this] at hu
  simp [hlt, hu]
 have := h'.set i (c := .tup (cs.set j (.msl L.length 0 0 0))) (u := .tuple vs.toArray) (by simp only [Z05]; exact ⟨vs, rfl, hc1⟩)
 rwa [Zj2 hget] at this
section
variable {m : Mem} {L : Z02} {w : World}
theorem Z2x {id : Nat} {cs cs' : List AV} {sz v : Nat} (hL : L[id]? = some (.row cs sz v)) {j : Nat} {o : Z0T} (h : (L.set id (.row cs' sz v))[j]? = some o) : (j = id ∧ o = .row cs' sz v) ∨ (j ≠ id ∧ L[j]? = some o) := by
 have hlt := (List.getElem?_eq_some_iff.1 hL).1
 by_cases hj : j = id
 ·subst hj; rw [List.getElem?_set_self hlt] at h; exact .inl ⟨rfl, (Option.some.inj h).symm⟩
 ·rw [List.getElem?_set_ne (Ne.symm hj)] at h; exact .inr ⟨hj, h⟩
theorem Z23 {id : Nat} {cs cs' : List AV} {sz v : Nat} (hL : L[id]? = some (.row cs sz v)) (hl : cs'.length = cs.length) : Z4F m L m (L.set id (.row cs' sz v)) := by
 have hlt := (List.getElem?_eq_some_iff.1 hL).1
 refine ⟨fun _ _ h => h, fun i cs1 s v1 h => ?_, fun i r h => ?_⟩
 ·by_cases hi : i = id
  ·subst hi
   rw [hL] at h
   simp only [Option.some.injEq, Z0T.row.injEq] at h
   obtain ⟨rfl, rfl, rfl⟩ := h
   exact ⟨cs', v, by rw [List.getElem?_set_self hlt], Nat.le_refl _, fun _ => ⟨hl, rfl, rfl⟩⟩
  ·exact ⟨cs1, v1, by rw [List.getElem?_set_ne (Ne.symm hi)]; exact h, Nat.le_refl _, fun _ => ⟨rfl, rfl, rfl⟩⟩
 ·have hi : i ≠ id := by rintro rfl; rw [hL] at h; cases h
  exact ⟨r, by rw [List.getElem?_set_ne (Ne.symm hi)]; exact h, rfl⟩
theorem Z3g {id : Nat} {cs cs' : List AV} {sz v : Nat} (hL : L[id]? = some (.row cs sz v)) {j : Nat} (h : Own m (L.set id (.row cs' sz v)) j) : Own m L j := by
 rcases h with ⟨c1, s1, v1, h1, hc⟩ | ⟨r, h1⟩
 ·rcases Z2x hL h1 with ⟨rfl, h2⟩ | ⟨_, h2⟩
  ·exact .inl ⟨_, _, _, hL, hc⟩
  ·exact .inl ⟨_, _, _, h2, hc⟩
 ·rcases Z2x hL h1 with ⟨rfl, h2⟩ | ⟨_, h2⟩
  ·cases h2
  ·exact .inr ⟨_, h2⟩
theorem Z74 {id : Nat} {cs cs' : List AV} {sz v : Nat} (hL : L[id]? = some (.row cs sz v)) {j : Nat} {T e : TypeId} {l : List UInt8} (h : (L.set id (.row cs' sz v))[j]? = some (.raw (.bld T e l))) : L[j]? = some (.raw (.bld T e l)) := by
 rcases Z2x hL h with ⟨_, h2⟩ | ⟨_, h2⟩
 ·cases h2
 ·exact h2
theorem Z0E.recell (hW : Z0E m L w) {id : Nat} {cs cs' : List AV} {sz v : Nat} (hL : L[id]? = some (.row cs sz v)) (hl : cs'.length = cs.length) (hc : ∀ us, Z0a m L cs us → Z0a m L cs' us) : Z0E m (L.set id (.row cs' sz v)) w := by
 have M := Z23 (m := m) hL hl
 refine ⟨hW.glob, hW.pobjs, fun j c s v1 h hcap => ?_, fun j c s v1 h hcap => ?_, fun j r h => ?_, fun i j hi hj he => hW.inj i j (Z3g hL hi) (Z3g hL hj) he, fun j ho => hW.freeo j (Z3g hL ho), hW.hid.keep (fun i T e l h => ⟨Z74 hL h, rfl, rfl⟩) (fun _ _ _ _ _ _ => rfl) (fun _ _ _ => rfl) (fun i g k => hW.hid.free i g k) (fun i g k j hj => hW.hid.own i g k j (Z3g hL hj))⟩
 ·rcases Z2x hL h with ⟨rfl, h2⟩ | ⟨_, h2⟩
  ·simp only [Z0T.row.injEq] at h2
   obtain ⟨rfl, rfl, rfl⟩ := h2
   obtain ⟨us, rest, elem, lo, hi, k1, k2, k3, k4⟩ := hW.rows _ _ _ _ hL hcap
   exact ⟨us, rest, elem, lo, hi, k1, Z0a.mono M _ _ (hc _ k2), k3, k4⟩
  ·obtain ⟨us, rest, elem, lo, hi, k1, k2, k3, k4⟩ := hW.rows _ _ _ _ h2 hcap
   exact ⟨us, rest, elem, lo, hi, k1, Z0a.mono M _ _ k2, k3, k4⟩
 ·rcases Z2x hL h with ⟨rfl, h2⟩ | ⟨_, h2⟩
  ·simp only [Z0T.row.injEq] at h2
   obtain ⟨rfl, rfl, rfl⟩ := h2
   have := hW.nils _ _ _ _ hL hcap
   rw [this] at hl
   exact List.eq_nil_of_length_eq_zero hl
  ·exact hW.nils _ _ _ _ h2 hcap
 ·rcases Z2x hL h with ⟨rfl, h2⟩ | ⟨_, h2⟩
  ·cases h2
  ·exact hW.iters _ _ h2
theorem Ext.recell {m0 : Mem} {L0 : Z02} {w0 : World} (hE : Ext m0 L0 w0 m L w) {id : Nat} {cs cs' : List AV} {sz v : Nat} (hL : L[id]? = some (.row cs sz v)) (hl : cs'.length = cs.length) : Ext m0 L0 w0 m (L.set id (.row cs' sz v)) w :=
 ⟨hE.frame, hE.size, hE.newobj, fun j ho => hE.blks j (Z3g hL ho), by rw [List.length_set]; exact hE.len, hE.mono.trans (Z23 hL hl), hE.same, fun i g ⟨T, e, l, k1, k2⟩ => hE.hnew i g ⟨T, e, l, Z74 hL k1, k2⟩⟩
end
theorem ZjK {m : Mem} {L : Z02} {w : World} (hW : Z0E m L w) {id : Nat} (j sz' : Nat) {cs : List AV} {sz v : Nat} (hL : L[id]? = some (.row cs sz v)) (hj : cs.getD j .any = .lit (.slice none 0 0)) :
  L.set id (.row (cs.set j (.msl L.length 0 0 0)) sz v) ++ [Z0T.row [] sz' 0] = (L ++ [Z0T.row [] sz' 0]).set id (.row (cs.set j (.msl L.length 0 0 0)) sz v) ∧ (L ++ [Z0T.row [] sz' 0])[id]? = some (.row cs sz v) ∧
   ∀ us, Z0a (Z5d m L.length) (L ++ [Z0T.row [] sz' 0]) cs us → Z0a (Z5d m L.length) (L ++ [Z0T.row [] sz' 0]) (cs.set j (.msl L.length 0 0 0)) us := by
 have hlt := (List.getElem?_eq_some_iff.1 hL).1
 have hL1 : (L ++ [Z0T.row [] sz' 0])[id]? = some (.row cs sz v) := by rw [List.getElem?_append_left hlt]; exact hL
 refine ⟨by rw [List.set_append_left _ _ hlt], hL1, ?_⟩
 have hjl : j < cs.length := by
  rcases Nat.lt_or_ge j cs.length with h' | h'
  ·exact h'
  ·simp [List.getD, List.getElem?_eq_none h'] at hj
 have hv : Z05 (Z5d m L.length) (L ++ [Z0T.row [] sz' 0]) (.msl L.length 0 0 0) (.slice none 0 0) := by
  simp only [Z05]
  exact ⟨[], sz', 0, by simp, Nat.le_refl _, ⟨none, 0, 0, rfl⟩, fun _ => ⟨by simp, by simp, none, by simp [Z5d], .inl (by simp [Z5d])⟩⟩
 intro us hcs
 refine Z0a.mk (by simp [hcs.length]) fun i c u hi hu => ?_
 rw [List.getElem?_set] at hi
 by_cases hij : j = i
 ·subst hij
  simp [hjl] at hi
  subst hi
  have := hcs.getD j
  rw [hj] at this
  simp only [Z05] at this
  simp [List.getD, hu] at this
  rw [this]; exact hv
 ·simp [hij] at hi
  obtain ⟨u1, hu1, hr1⟩ := hcs.get i c hi
  rw [hu] at hu1; obtain rfl := Option.some.inj hu1; exact hr1
inductive Z0o (L0 : Z02) : List AV → Z02 → List AV × Z02 → Prop
 | refl (S : List AV × Z02) : Z0o L0 S.1 S.2 S
 | weak {fr : List AV} {L : Z02} {fr' : List AV} {L' : Z02} {S : List AV × Z02} (ids : List Nat) (h : Zcc L0.length ids fr L fr' L') (hle : L0.length ≤ L'.length) (h' : Z0o L0 fr' L' S) : Z0o L0 fr L S
 | nil {fr : List AV} {L : Z02} {S : List AV × Z02} (i sz : Nat) (hi : fr.getD i .any = .lit (.slice none 0 0)) (h : Z0o L0 (fr.set i (.msl L.length 0 0 0)) (L ++ [.row [] sz 0]) S) : Z0o L0 fr L S
 | nilT {fr : List AV} {L : Z02} {S : List AV × Z02} (i j sz : Nat) (cs : List AV) (hi : fr.getD i .any = .tup cs) (hj : cs.getD j .any = .lit (.slice none 0 0)) (h : Z0o L0 (fr.set i (.tup (cs.set j (.msl L.length 0 0 0)))) (L ++ [.row [] sz 0]) S) : Z0o L0 fr L S
 | frz {fr : List AV} {L : Z02} {S : List AV × Z02} (id : Nat) (hn : L0.length ≤ id) (hok : Z2K L id) (h : Z0o L0 (Z4J L id fr) (Z5e L id) S) : Z0o L0 fr L S
 | sem {fr fr' : List AV} {L : Z02} {S : List AV × Z02} (hs : ∀ m us, Z0a m L fr us → Z0a m L fr' us) (h : Z0o L0 fr' L S) : Z0o L0 fr L S
 | recell {fr : List AV} {L : Z02} {S : List AV × Z02} (id : Nat) (cs' : List AV) {cs : List AV} {sz v : Nat} (hL : L[id]? = some (.row cs sz v)) (hl : cs'.length = cs.length) (hc : ∀ m us, Z0a m L cs us → Z0a m L cs' us) (h : Z0o L0 fr (L.set id (.row cs' sz v)) S) : Z0o L0 fr L S
 | nilH {fr : List AV} {L : Z02} {S : List AV × Z02} (id j sz' : Nat) {cs : List AV} {sz v : Nat} (hL : L[id]? = some (.row cs sz v)) (hj : cs.getD j .any = .lit (.slice none 0 0)) (h : Z0o L0 fr (L.set id (.row (cs.set j (.msl L.length 0 0 0)) sz v) ++ [.row [] sz' 0]) S) : Z0o L0 fr L S
 | ver {fr : List AV} {L : Z02} {S : List AV × Z02} (id v' : Nat) (hr : isRow L id = true) (hv : Z1s L0 id < v' ∨ L0.length ≤ id) (h : Z0o L0 (Z5c L id v' fr) (Z6Y L id v') S) : Z0o L0 fr L S
theorem Z0o.base {L0 : Z02} {fr : List AV} {L : Z02} {S : List AV × Z02} (ids : List Nat) (h : Zcc L0.length ids fr L S.1 S.2) (hle : L0.length ≤ S.2.length) : Z0o L0 fr L S := .weak ids h hle (.refl S)
theorem Z0o.trans {L0 : Z02} {fr : List AV} {L : Z02} {S S' : List AV × Z02} (h : Z0o L0 fr L S) : Z0o L0 S.1 S.2 S' → Z0o L0 fr L S' := by
 induction h with
 | refl S => exact id
 | weak ids h hle h' ih => exact fun k => .weak ids h hle (ih k)
 | nil i sz hi h ih => exact fun k => .nil i sz hi (ih k)
 | nilT i j sz cs hi hj h ih => exact fun k => .nilT i j sz cs hi hj (ih k)
 | frz id hn hok h ih => exact fun k => .frz id hn hok (ih k)
 | sem hs h ih => exact fun k => .sem hs (ih k)
 | recell id cs' hL hl hc h ih => exact fun k => .recell id cs' hL hl hc (ih k)
 | nilH id j sz' hL hj h ih => exact fun k => .nilH id j sz' hL hj (ih k)
 | ver id v' hr hv h ih => exact fun k => .ver id v' hr hv (ih k)
theorem Z0o.sound {m0 : Mem} {L0 : Z02} {w0 : World} {fr : List AV} {L : Z02} {S : List AV × Z02} (h : Z0o L0 fr L S) : ∀ {m : Mem} {w : World} {us : List Value}, Z0E m L w → Z0a m L fr us → Ext m0 L0 w0 m L w →
  ∃ m', Z0E m' S.2 w ∧ Z0a m' S.2 S.1 us ∧ Ext m0 L0 w0 m' S.2 w := by
 induction h with
 | refl S =>
  intro m w us hW hc hE
  exact ⟨m, hW, hc, hE⟩
 | weak ids h hle h' ih =>
  intro m w us hW hc hE
  have H := h.renamed m
  exact ih (Z0E.ren H h.2.2.2.2.2 hW) (Z0a.ren H _ _ (Z6t h.1 hc) h.2.2.2.2.1) (h.ext rfl hle hE)
 | nil i sz hi h ih =>
  intro m w us hW hc hE
  exact ih hW.nil (ZdL hc i hi) hE.nil
 | nilT i j sz cs hi hj h ih =>
  intro m w us hW hc hE
  exact ih hW.nil (ZjJ hc i j cs hi hj) hE.nil
 | frz id hn hok h ih =>
  intro m w us hW hc hE
  exact ih (hW.frz hok) (Z0a.frz hW hok _ _ hc) (hE.frz hW hok hn)
 | sem hs h ih =>
  intro m w us hW hc hE
  exact ih hW (hs m us hc) hE
 | recell id cs' hL hl hc h ih =>
  intro m w us hW hcr hE
  exact ih (hW.recell hL hl (hc m)) (Z0a.mono (Z23 hL hl) _ _ hcr) (hE.recell hL hl)
 | nilH id j sz' hL hj h ih =>
  intro m w us hW hc hE
  obtain ⟨e, hL1, hcell⟩ := ZjK hW j sz' hL hj
  rw [e] at ih
  exact ih (hW.nil.recell hL1 (by simp) hcell) (Z0a.mono (Z23 hL1 (by simp)) _ _ (Z0a.mono (Z4g (m := m) (sz := sz')) _ _ hc)) (hE.nil.recell hL1 (by simp))
 | ver id v' hr hv h ih =>
  intro m w us hW hc hE
  exact ih (hW.ver hr) (Z0a.ver hr _ _ hc) (hE.ver hr hv)
theorem RS.intoF {B : Z8p} {fr : List AV} {L : Z02} {m : Mem} {a : Act} {w : World} (h : RS B fr L m a w) {S : List AV × Z02} (hi : Z0o B.L fr L S) : ∃ m', RS B S.1 S.2 m' a w := by
 obtain ⟨m', h1, h2, h3⟩ := hi.sound h.wrel h.frel h.ext
 exact ⟨m', h1, h2, h3, h.defers⟩
structure Z0p where
 pre : List AV → Z02 → Prop
 res : List AV → Z02 → AV
 post : List AV → Z02 → Z02
 quiet : Bool
structure Con (P : Program) (f : FuncId) (sp : Z0p) : Prop where
 quiet : sp.quiet = true → ∀ xs L, sp.post xs L = L
 runs : ((∃ fn, P.funcs[f]? = some fn ∧ fn.body.isNone = false ∧ (fn.name == "runtime.NumGoroutine") = false) ∧
   ∀ (m : Mem) (L : Z02) (w : World) (xs : List AV) (vs : List Value), Z0E m L w → Z0a m L xs vs → sp.pre xs L →
    Calls P f vs.toArray w fun e w' => ∃ v m', e = .returned v ∧ Z05 m' (sp.post xs L) (sp.res xs L) v ∧ Z0E m' (sp.post xs L) w' ∧ Ext m L w m' (sp.post xs L) w') ∨
  ∀ (m : Mem) (L : Z02) (w : World) (xs : List AV) (vs : List Value), Z0E m L w → Z0a m L xs vs → sp.pre xs L →
   ∃ v, (callFunc f vs.toArray).run P w = .ok (.value v) w ∧ Z05 m L (sp.res xs L) v ∧ sp.post xs L = L
abbrev Env := FuncId → Option Z0p
def Z01 (P : Program) (Γ : Env) : Prop := ∀ f sp, Γ f = some sp → Con P f sp
def Z0h (all : List Oper) (fr : List AV) : Option (Nat × Bool) → Bool
 | none => true
 | some (j, want) => match (all[j]?).bind (·.dst) with
  | some d => match fr.getD d .any with
   | .bool b => b == want
   | .when c (.bool b) => c && (b == want)
   | _ => false
  | none => false
def Z1E (all : List Oper) (fr : List AV) : Option (Nat × Bool) → Prop
 | none => True
 | some (j, _) => match (all[j]?).bind (·.dst) with
  | some d => match fr.getD d .any with
   | .bool _ => True
   | .when _ (.bool _) => True
   | _ => False
  | none => False
def Zix (Γ : Env) (c : Bool) (fr : List AV) (L : Z02) (f : Operand) (args : List Operand) : Rz :=
 match (opd fr f).bare with
 | .fn (.func g) first captured => match Γ g with
  | some sp => ⟨need c (opd fr f) ∧ Z2I c (args.map (opd fr)) ∧ (c = true → sp.pre (first ++ args.map (fun x => (opd fr x).bare) ++ captured) L),
    sp.res (first ++ args.map (fun x => (opd fr x).bare) ++ captured) L, cond c (sp.post (first ++ args.map (fun x => (opd fr x).bare) ++ captured) L) L⟩
  | none => bad L
 | _ => bad L
noncomputable def Z18 (P : Program) (Γ : Env) (c : Bool) (fr : List AV) (L : Z02) : Op → Rz
 | .call { callee := .value f, args := args, argTypes := _ } => Zix Γ c fr L f args.toList
 | op => ev P c fr L op
noncomputable def stepA (P : Program) (Γ : Env) (all : List Oper) (c : Bool) (fr : List AV) (L : Z02) (o : Oper) : Rz :=
 match Zml all o, o.op with
 | true, .buildSlice t len parts => (Z3t P c L t len (Z2V fr parts)).also (Z2I c (parts.toList.map fun p => opd fr p.2))
 | _, op => Z18 P Γ c fr L op
theorem Z1L (P : Program) (Γ : Env) (all : List Oper) (o : Oper) : (∀ c fr L, stepA P Γ all c fr L o = Z18 P Γ c fr L o.op) ∨
  ∃ t len parts, o.op = .buildSlice t len parts ∧ ∀ c fr L, stepA P Γ all c fr L o = (Z3t P c L t len (Z2V fr parts)).also (Z2I c (parts.toList.map fun p => opd fr p.2)) := by
 obtain ⟨dst, op, ty, pos, after, guard⟩ := o
 cases hl : Zml all ⟨dst, op, ty, pos, after, guard⟩ with
 | false => left; intro c fr L; simp only [stepA, hl]
 | true =>
  cases op <;> first
   | (left; intro c fr L; simp only [stepA, hl]; done)
   | (right; exact ⟨_, _, _, rfl, fun c fr L => by simp only [stepA, hl]⟩)
def mkV : Option (Nat × Bool) → Bool → AV → AV
 | none, _, v => v
 | some _, c, v => .when c v
def Z1Q (fr : List AV) : Option Tmp → AV → List AV
 | none, _ => fr
 | some d, v => fr.set d v
def Zc0 (P : Program) (Γ : Env) (all : List Oper) : List Oper → List AV → Z02 → (List AV → Z02 → Prop) → Prop
 | [], fr, L, K => K fr L
 | o :: r, fr, L, K =>
  Z1E all fr o.guard ∧ (stepA P Γ all (Z0h all fr o.guard) fr L o).pre ∧
   Zc0 P Γ all r (Z1Q fr o.dst (mkV o.guard (Z0h all fr o.guard) (stepA P Γ all (Z0h all fr o.guard) fr L o).v)) (stepA P Γ all (Z0h all fr o.guard) fr L o).L K
section
variable {P : Program} {Γ : Env} {m : Mem} {L : Z02} {w : World}
theorem Z3Y {fr : List AV} {a : Act} (h : Z0a m L fr a.tmps.toList) (ops : Array Oper) (o : Oper) (hg : Z1E ops.toList fr o.guard) :
  Region.wanted o (yielded ops a.tmps) = Z0h ops.toList fr o.guard := by
 unfold Region.wanted Z0h
 cases hgd : o.guard with
 | none => rfl
 | some q =>
  obtain ⟨j, want⟩ := q
  rw [hgd] at hg
  simp only [Z1E] at hg
  have e : (ops.toList[j]?).bind (·.dst) = (ops[j]?).bind (·.dst) := by simp
  simp only [yielded]
  rw [e] at hg ⊢
  cases hd : (ops[j]?).bind (·.dst) with
  | none => rw [hd] at hg; exact hg.elim
  | some d =>
   rw [hd] at hg
   simp only at hg ⊢
   have hr := h.getD d
   have hlen := h.length
   have hdlt : d < fr.length := by
    rcases Nat.lt_or_ge d fr.length with h' | h'
    ·exact h'
    ·simp [List.getD, List.getElem?_eq_none h'] at hg
   have hget : a.tmps[d]? = some (a.tmps.toList.getD d undef) := by
    have h2 : d < a.tmps.size := by rw [← Array.length_toList, hlen]; exact hdlt
    simp [List.getD, h2]
   simp only [Option.bind_some, hget]
   split at hg
   ·rename_i b hb
    rw [hb] at hr
    simp only [Z05] at hr
    rw [hr]
    simp
   ·rename_i c b hb
    rw [hb] at hr
    simp only [Z05] at hr
    cases c with
    | true =>
     rw [hr.1 rfl]
     simp
    | false =>
     rw [hr.2 rfl]
     simp [undef]
   ·exact hg.elim
theorem Z9q (hΓ : Z01 P Γ) (fr : List AV) (op : Op) (hp : (Z18 P Γ false fr L op).pre) : (Z18 P Γ false fr L op).L = L := by
 have hb : ∀ L : Z02, (bad L).L = L := fun _ => rfl
 cases op <;> try (first | rfl | exact hp.elim)
 case pick q x y => simp only [Z18, ev, Zdz]; split <;> rfl
 case binOp op t x y yt =>
  simp only [Z18, ev, Rz.also, Znz]
  split
  ·cases op <;> rfl
  ·cases op <;> rfl
  ·split <;> rfl
  ·split
   ·simp only [Z95]; repeat' split
    all_goals rfl
   ·simp only [Z95]; repeat' split
    all_goals rfl
   ·rfl
  ·split
   ·simp only [ZkS]; split <;> rfl
   ·simp only [ZkS]; split <;> rfl
   ·rfl
  ·rfl
 case unOp op t x => simp only [Z18, ev, Rz.also, unR]; split <;> rfl
 case convert s d x =>
  simp only [Z18, ev, Rz.also, Zit] at *
  split
  ·split <;> rfl
  ·rename_i l heq
   rw [heq] at hp
   simp only at hp
   split <;> rename_i hd <;> simp only [hd] at hp ⊢ <;> simp at hp
  all_goals first | rfl | (split <;> rfl)
 case index t x i =>
  simp only [Z18, ev, Rz.also, Z7j]
  split
  ·rfl
  ·split <;> rfl
  ·rfl
 case indexAddr t x i => simp only [Z18, ev, Rz.also, Z2z]; split <;> first | rfl | (split <;> rfl)
 case load t x => simp only [Z18, ev, Rz.also, Z8Q]; split <;> rfl
 case store t x y => simp only [Z18, ev, Rz.also, Zat] at *; split at hp <;> simp_all
 case alloc t => simp only [Z18, ev, Z6N] at hp; split at hp <;> simp at hp
 case box t x => simp [Z18, ev, Rz.also, ZpU] at hp
 case build t parts =>
  simp only [Z18, ev, Rz.also, Z98]
  split
  ·split <;> rfl
  ·split <;> rfl
  ·rfl
 case buildSlice t len parts =>
  simp only [Z18, ev, Rz.also, Z2M] at *
  split at hp
  ·split at hp <;> simp_all
  ·simp_all
 case field t x f =>
  simp only [Z18, ev, Rz.also, Z7p]
  split
  ·split <;> rfl
  ·rfl
 case fieldAddr t x f =>
  simp only [Z18, ev, Rz.also, Z2A]
  split
  ·split
   ·split <;> rfl
   ·rfl
  ·rfl
 case extract x i => simp only [Z18, ev, Rz.also, Z4l]; split <;> rfl
 case slice t x lo hi mx =>
  simp only [Z18, ev, Rz.also, Z6Z]
  split
  ·split <;> rfl
  ·split <;> rfl
  ·repeat' split
   all_goals rfl
  ·split <;> rfl
  ·rfl
 case sliceToArrayPointer t x => simp only [Z18, ev, Rz.also, Z5t]; split <;> rfl
 case makeMap t r =>
  simp only [Z18, ev, Rz.also, Z4X] at *
  repeat' split at hp
  all_goals simp_all
 case insert t x k v =>
  simp only [Z18, ev, Rz.also, Z36] at *
  repeat' split at hp
  all_goals simp_all
 case mapUpdate t x k v =>
  simp only [Z18, ev, Rz.also, Z36] at *
  repeat' split at hp
  all_goals simp_all
 case lookup t x k ok =>
  simp only [Z18, ev, Rz.also, ZbS]
  repeat' split
  all_goals rfl
 case range t x => simp only [Z18, ev, Rz.also, Z8A] at *; split at hp <;> simp_all
 case next x b =>
  simp only [Z18, ev, Rz.also, ZdM] at *
  split at hp
  ·split at hp <;> simp_all
  ·simp_all
 case nilCheck x => simp only [Z18, ev, Rz.also, Z3j]; split <;> rfl
 case makeSlice t l k => simp only [Z18, ev, Rz.also, Z3k] at *; split at hp <;> simp_all
 case call c =>
  obtain ⟨callee, args, ts⟩ := c
  cases callee with
  | value f =>
   simp only [Z18, Zix] at *
   split at hp
   ·rename_i g a b hf
    split at hp
    ·rename_i sp hsp
     simp only [hf, hsp]
     rfl
    ·exact hp.elim
   ·exact hp.elim
  | invoke r n => exact hp.elim
  | builtin b =>
   simp only [Z18, ev, Z4n] at *
   split at hp
   ·simp only [Rz.also, Znu]; repeat' split
    all_goals rfl
   ·simp only [Rz.also, ZiJ]; split <;> rfl
   ·simp only [Rz.also, ZiJ]; split <;> rfl
   ·simp only [Rz.also, ZpF] at *
    split at hp
    ·simp only [Z8q] at *
     split at hp <;> simp_all
    ·simp only [Z5u] at *
     split at hp
     ·split at hp <;> simp_all
     ·simp_all
   ·simp only [Rz.also, Zir] at *
    split at hp <;> simp_all
   ·simp only [Rz.also, Z6m] at *
    split at hp
    ·split at hp <;> simp_all
    ·simp_all
   ·exact hp.elim
theorem Z2l {fr : List AV} {a : Act} (h : Z0a m L fr a.tmps.toList) (dst : Option Tmp) {x : AV} {v : Value} (hr : Z05 m L x v) : Z0a m L (Z1Q fr dst x) (a.put dst v).tmps.toList := by
 cases dst with
 | none => exact h
 | some d =>
  simp only [Z1Q, Act.put, Array.toList_setIfInBounds]
  exact h.set d hr
theorem Z9r (hΓ : Z01 P Γ) (all : List Oper) (fr : List AV) (o : Oper) (hp : (stepA P Γ all false fr L o).pre) : (stepA P Γ all false fr L o).L = L := by
 rcases Z1L P Γ all o with hst | ⟨t, len, parts, hop, hst⟩
 ·rw [hst] at hp ⊢; exact Z9q hΓ fr o.op hp
 ·rw [hst]
  simp only [Rz.also, Z3t]
  split
  ·split <;> rfl
  ·rfl
def Z1p (R : Option Nat) : Fence := { Fence.wide with round := R }
theorem Zaa {R : Option Nat} {n : Nat} {f : FuncId} {args : Array Value} {w : World} {E : Ending → World → Prop} (h : Calls P f args w E) : CallsIn (Z1p R) n P f args w E := (callsIn_wide (n := n)).2 h
theorem Z9s (all : List Oper) (c : Bool) (fr : List AV) (o : Oper) {q : Call} (ho : o.op = .defer q) (hp : (stepA P Γ all c fr L o).pre) : False := by
 rcases Z1L P Γ all o with hst | ⟨t, len, parts, hop, hst⟩
 ·rw [hst, ho] at hp; exact hp
 ·rw [hop] at ho; cases ho
theorem Z4b {R : Option Nat} (hΓ : Z01 P Γ) (hW : Z0E m L w) {fr : List AV} {a : Act} (h : Z0a m L fr a.tmps.toList) (ops : Array Oper) (o : Oper) {next : Act → World → Prop} {Q : Exit → Act → World → Prop}
  (hg : Z1E ops.toList fr o.guard) (hp : (stepA P Γ ops.toList (Z0h ops.toList fr o.guard) fr L o).pre)
  (hK : ∀ a' w' m', Z0E m' (stepA P Γ ops.toList (Z0h ops.toList fr o.guard) fr L o).L w' →
   Z0a m' (stepA P Γ ops.toList (Z0h ops.toList fr o.guard) fr L o).L (Z1Q fr o.dst (mkV o.guard (Z0h ops.toList fr o.guard) (stepA P Γ ops.toList (Z0h ops.toList fr o.guard) fr L o).v)) a'.tmps.toList →
   Ext m L w m' (stepA P Γ ops.toList (Z0h ops.toList fr o.guard) fr L o).L w' → a'.defers = a.defers → next a' w') :
  if Region.wanted o (yielded ops a.tmps) then o.wpIn (Z1p R) 0 P a w next Q else (∀ f, o.about P w a.eval = some f → (Z1p R).fn f) ∧ next (a.put o.dst undef) w := by
 rw [Z3Y h ops o hg]
 cases hc : Z0h ops.toList fr o.guard with
 | false =>
  rw [hc] at hp hK
  have hL := Z9r hΓ ops.toList fr o hp
  rw [hL] at hK
  simp only [Bool.false_eq_true, if_false]
  refine ⟨fun _ _ => trivial, hK _ w m hW ?_ Ext.refl (by cases o.dst <;> rfl)⟩
  refine Z2l h o.dst ?_
  cases hgd : o.guard with
  | none => rw [hgd] at hc; simp [Z0h] at hc
  | some q => simp [mkV, Z05]
 | true =>
  rw [hc] at hp hK
  simp only [if_true]
  refine ⟨fun _ _ => trivial, ?_⟩
  rw [Oper.semAt_eq _ _ _ (fun q hq => Z9s _ _ _ _ hq hp)]
  have hmk : ∀ m' L' x v, Z05 m' L' x v → Z05 m' L' (mkV o.guard true x) v := by
   intro m' L' x v hv
   cases o.guard with
   | none => exact hv
   | some q => simp only [mkV, Z05]; exact ⟨fun _ => hv, fun h => by cases h⟩
  rcases Z1L P Γ ops.toList o with hst | ⟨t, len, parts, hop, hst⟩
  case inr =>
   simp only [hst] at hp hK
   have hS : Z0l P m L w ((Z3t P true L t len (Z2V fr parts)).also (Z2I true (parts.toList.map fun p => opd fr p.2))) (execOp a.eval o) := by
    obtain ⟨dst, op, ty, pos, after, guard⟩ := o
    simp only at hop
    subst hop
    exact Z0l.also fun h1 => Z7N hW t len (Z3i h parts h1).1 (Z3i h parts h1).2
   obtain ⟨n, w', m', hrun, hres, hW', hE⟩ := hS hp
   have hmono := Z0a.mono hE.mono _ _ h
   rw [hrun]
   rcases hres with ⟨u, rfl, hv⟩ | ⟨rfl, hv⟩
   ·simp only [Oper.uponIn]
    exact hK _ w' m' hW' (Z2l hmono o.dst (hmk _ _ _ _ hv)) hE (by cases o.dst <;> rfl)
   ·simp only [Oper.uponIn]
    refine hK _ w' m' hW' (Z2l hmono o.dst (hmk _ _ _ _ ?_)) hE (by cases o.dst <;> rfl)
    rw [hv]; simp [Z05]
  simp only [hst] at hp hK
  by_cases hcall : ∃ f args ts, o.op = .call { callee := .value f, args := args, argTypes := ts }
  ·obtain ⟨f, args, ts, ho⟩ := hcall
   rw [ho] at hp hK
   simp only [Z18, Zix] at hp hK
   split at hp
   ·rename_i g first captured hf
    rw [hf] at hK
    simp only at hK
    split at hp
    ·rename_i sp hsp
     rw [hsp] at hK
     simp only at hK
     obtain ⟨hn1, hn2, hpre⟩ := hp
     simp only [cond_true] at hK
     have hcon := hΓ g sp hsp
     have hfv := Z3E (Z0Z h f) (hn1 rfl)
     rw [hf] at hfv
     simp only [Z05] at hfv
     obtain ⟨us, vs, hfe, hu1, hu2⟩ := hfv
     have hargs := Z3w h args.toList hn2
     have hall := (hu1.append hargs).append hu2
     rcases hcon.runs.symm with hext | ⟨⟨fn, hfn, hbody, hname⟩, hcl⟩
     ·obtain ⟨v, hr, hv, hpo⟩ := hext m L w _ _ hW hall (hpre trivial)
      have hrun : (execOp a.eval o).run P w = .ok (.value v) w := by
       have e : args.map a.eval = (args.toList.map a.eval).toArray := by apply Array.ext'; simp
       rw [List.append_assoc] at hr
       simp [execOp, ho, resolve, hfe, Deferred.ofValue, invoke, e, hr]
      rw [hrun]
      simp only [Oper.uponIn]
      rw [hpo] at hK
      exact hK _ w m hW (Z2l h o.dst (hmk _ _ _ _ hv)) Ext.refl (by cases o.dst <;> rfl)
     have hcalls := hcl m L w _ _ hW hall (hpre trivial)
     have hname' : fn.name ≠ "runtime.NumGoroutine" := by simpa using hname
     have hbody' : fn.body ≠ none := by intro h; simp [h] at hbody
     have hrun : (execOp a.eval o).run P w = .ok (.enter g (us ++ args.toList.map a.eval ++ vs).toArray) w := by
      have e : args.map a.eval = (args.toList.map a.eval).toArray := by apply Array.ext'; simp
      simp [execOp, ho, resolve, hfe, Deferred.ofValue, invoke, callFunc, hfn, hbody', hname', e]
     rw [hrun]
     refine ⟨fun h => (by cases h), CallsIn.mono (Zaa hcalls) ?_⟩
     rintro e w' ⟨v, m', rfl, h1, h2, h3⟩
     refine hK _ w' m' h2 (Z2l (Z0a.mono h3.mono _ _ h) o.dst (hmk _ _ _ _ h1)) h3 (by cases o.dst <;> rfl)
    ·exact hp.elim
   ·exact hp.elim
  ·have hst : Z18 P Γ true fr L o.op = ev P true fr L o.op := by
    unfold Z18
    split
    ·rename_i f args ts heq; exact absurd ⟨f, args, ts, heq⟩ hcall
    ·rfl
   rw [hst] at hp hK
   obtain ⟨n, w', m', hrun, hres, hW', hE⟩ := Zki (P := P) hW h o hp
   have hmono := Z0a.mono hE.mono _ _ h
   rw [hrun]
   rcases hres with ⟨u, rfl, hv⟩ | ⟨rfl, hv⟩
   ·simp only [Oper.uponIn]
    exact hK _ w' m' hW' (Z2l hmono o.dst (hmk _ _ _ _ hv)) hE (by cases o.dst <;> rfl)
   ·simp only [Oper.uponIn]
    refine hK _ w' m' hW' (Z2l hmono o.dst (hmk _ _ _ _ ?_)) hE (by cases o.dst <;> rfl)
    rw [hv]; simp [Z05]
theorem Z6J {R : Option Nat} (hΓ : Z01 P Γ) {B : Z8p} (ops : Array Oper) {K : List AV → Z02 → Prop} {Q : Exit → Act → World → Prop} (hK : ∀ fr L m a w, K fr L → RS B fr L m a w → Q .normal a w) :
  ∀ (l : List Oper) (fr : List AV) (L : Z02) (m : Mem) (a : Act) (w : World), Zc0 P Γ ops.toList l fr L K → RS B fr L m a w → wpListIn (Z1p R) 0 P ops Q l a w
 | [], fr, L, m, a, w, h, hR => hK fr L m a w h hR
 | o :: l, fr, L, m, a, w, h, hR => by
  obtain ⟨h1, h2, h3⟩ := h
  have := Z4b (P := P) (Γ := Γ) (R := R) hΓ hR.wrel hR.frel ops o (next := wpListIn (Z1p R) 0 P ops Q l) (Q := Q) h1 h2 fun a' w' m' k1 k2 k3 k4 =>
   Z6J hΓ ops hK l _ _ m' a' w' h3 ⟨k1, k2, hR.ext.trans k3, by rw [k4, hR.defers]⟩
  unfold wpListIn
  split
  ·rename_i hw; rw [if_pos hw] at this; exact this
  ·rename_i hw; rw [if_neg hw] at this; exact this
end
inductive It where
 | code (c : Code)
 | blk (id : Nat)
 | chk (I : List AV → Z02 → Prop)
def W (P : Program) (R : Option Nat) (B : Z8p) (Q : Exit → Act → World → Prop) : List It → Exit → Act → World → Prop
 | [], e => Q e
 | .code c :: k, .normal => c.wpIn (Z1p R) 0 P (W P R B Q k)
 | .code _ :: k, e => W P R B Q k e
 | .blk id :: k, .exit i => if i = id then W P R B Q k .normal else W P R B Q k (.exit i)
 | .blk _ :: k, e => W P R B Q k e
 | .chk I :: _, .normal => fun a w => ∃ fr L m, I fr L ∧ RS B fr L m a w
 | .chk _ :: k, e => W P R B Q k e
structure Z4G (m : Mem) (L : Z02) (D : Nat) : Prop where
 pin : m.pobj D = none
 own : ∀ id, Own m L id → m.blk id ≠ D
 hid : ∀ id, ¬ Hid m L id D
theorem Z0E.foreign {m : Mem} {L : Z02} {w w' : World} (h : Z0E m L w) {D : Nat} (hD : Z4G m L D) (he : ∀ g, g ≠ D → w'.heap[g]? = w.heap[g]?) : Z0E m L w' where
 glob := h.glob
 pobjs g o hp := by
  have hne : g ≠ D := by rintro rfl; rw [hD.pin] at hp; cases hp
  rw [he g hne]; exact h.pobjs g o hp
 rows id cs sz ver hL hc := by
  rw [he _ (hD.own id (.inl ⟨cs, sz, ver, hL, hc⟩))]; exact h.rows id cs sz ver hL hc
 nils := h.nils
 iters id r hL := by
  rw [he _ (hD.own id (.inr ⟨r, hL⟩))]; exact h.iters id r hL
 inj := h.inj
 freeo := h.freeo
 hid := h.hid.keep (fun _ _ _ _ k => ⟨k, rfl, rfl⟩) (fun id T e l hL _ => he _ (hD.own id (.inr ⟨_, hL⟩))) (fun id g k => he g (by rintro rfl; exact hD.hid id k)) (fun id g k => h.hid.free id g k) (fun id g k j hj => h.hid.own id g k j hj)
theorem Z4G.ext {m m' : Mem} {L L' : Z02} {w w' : World} {D : Nat} (h : Z4G m L D) (hlt : D < w.heap.size) (hE : Ext m L w m' L' w') : Z4G m' L' D ∧ w'.heap[D]? = w.heap[D]? := by
 refine ⟨⟨by rw [hE.newobj D hlt]; exact h.pin, fun id hid => ?_, fun id hid => ?_⟩, hE.frame D hlt h.own h.hid⟩
 ·rcases hE.blks id hid with ⟨h1, h2⟩ | h1
  ·rw [h2]; exact h.own id h1
  ·omega
 ·rcases hE.hnew id D hid with h1 | h1
  ·exact h.hid id h1
  ·omega
structure Z46 (n0 : Nat) (m : Mem) (L : Z02) (w : World) (ds : List Deferred) : Prop where
 each : ∀ d ∈ ds, ∃ D, d = { target := .collected D, args := #[] } ∧ n0 ≤ D ∧ D < w.heap.size ∧ w.heap[D]? = some (.deferred (some [])) ∧ Z4G m L D
 nodup : ds.Nodup
theorem Z46.nil {n0 : Nat} {m : Mem} {L : Z02} {w : World} : Z46 n0 m L w [] := ⟨fun _ h => (by cases h), List.nodup_nil⟩
theorem Z46.ext {n0 : Nat} {m m' : Mem} {L L' : Z02} {w w' : World} {ds : List Deferred} (h : Z46 n0 m L w ds) (hE : Ext m L w m' L' w') : Z46 n0 m' L' w' ds :=
 ⟨fun d hd => by
  obtain ⟨D, h1, h2, h3, h4, h5⟩ := h.each d hd
  obtain ⟨h6, h7⟩ := h5.ext h3 hE
  exact ⟨D, h1, h2, Nat.lt_of_lt_of_le h3 hE.size, by rw [h7]; exact h4, h6⟩, h.nodup⟩
structure Cx where
 P : Program
 Γ : Env
 ok : Z01 P Γ
 R : Option Nat := none
 B : Z8p
 Q : Exit → Act → World → Prop
 fin : List AV → Z02 → Prop
 n0 : Nat
 hn0 : n0 ≤ B.w.heap.size
 hD : Z46 n0 B.m B.L B.w B.D
 hfin : ∀ fr L m a w, fin fr L → Z0E m L w → Z0a m L fr a.tmps.toList → Ext B.m B.L B.w m L w → Z46 n0 m L w a.defers → Q .normal a w
 finR : List AV → Z02 → Prop
 hfinR : ∀ fr L m a w, finR fr L → Z0E m L w → Z0a m L fr a.tmps.toList → Ext B.m B.L B.w m L w → Z46 n0 m L w a.defers → Q .ret a w
 ng : ∀ l a w, ¬ Q (.goto l) a w
def Z03 (X : Cx) (todo : List It) (fr : List AV) (L : Z02) : Prop := ∀ m a w, RS X.B fr L m a w → W X.P X.R X.B X.Q todo .normal a w
def Z8F (id : Nat) : List It → List It
 | [] => []
 | .blk i :: k => if id = i then k else Z8F id k
 | _ :: k => Z8F id k
def Z51 (id : Nat) : List It → Bool
 | [] => false
 | .blk i :: k => id == i || Z51 id k
 | _ :: k => Z51 id k
def exB (E : List It → Prop) (b : Bool) (t1 t2 : List It) : Prop := (b = true → E t1) ∧ (b = false → E t2)
theorem Zbf (E : List It → Prop) (t1 t2 : List It) : exB E true t1 t2 = E t1 := by simp [exB]
theorem Z94 (E : List It → Prop) (t1 t2 : List It) : exB E false t1 t2 = E t2 := by simp [exB]
theorem Z0z {E : List It → Prop} {b : Bool} {t1 t2 : List It} (h1 : b = true → E t1) (h2 : b = false → E t2) : exB E b t1 t2 := ⟨h1, h2⟩
def exU (E : List It → Prop) (p q : Prop) (t1 t2 : List It) : Prop := (p → E t1) ∧ (q → E t2)
def ex (X : Cx) : Nat → List It → List AV → Z02 → Prop
 | 0, todo, fr, L => Z03 X todo fr L
 | _ + 1, [], fr, L => X.fin fr L
 | n + 1, .code .skip :: k, fr, L => ex X n k fr L
 | n + 1, .code (.label _) :: k, fr, L => ex X n k fr L
 | n + 1, .code (.seq a b) :: k, fr, L => ex X n (.code a :: .code b :: k) fr L
 | n + 1, .code (.cond q x y) :: k, fr, L => match opd fr q with
  | .bool b => exB (fun t => ex X n t fr L) b (.code x :: k) (.code y :: k)
  | .ub p q => exU (fun t => ex X n t fr L) p q (.code x :: k) (.code y :: k)
  | _ => False
 | n + 1, .code (.block id b) :: k, fr, L => ex X n (.code b :: .blk id :: k) fr L
 | n + 1, .code (.exit id) :: k, fr, L => Z51 id k = true ∧ ex X n (Z8F id k) fr L
 | _ + 1, .code .ret :: _, fr, L => X.finR fr L
 | n + 1, .code (.region _ ops false) :: k, fr, L => Zc0 X.P X.Γ ops.toList ops.toList fr L (ex X n k)
 | n + 1, .code (.scope b) :: k, fr, L => ex X n (.code b :: k) fr L
 | _ + 1, .code c :: k, fr, L => Z03 X (.code c :: k) fr L
 | n + 1, .blk _ :: k, fr, L => ex X n k fr L
 | _ + 1, .chk I :: _, fr, L => I fr L
theorem ZiF {P : Program} {R : Option Nat} {B : Z8p} {Q : Exit → Act → World → Prop} : ∀ k : List It, W P R B Q k .ret = Q .ret
 | [] => rfl
 | .code _ :: k => by simp only [W]; exact ZiF k
 | .blk _ :: k => by simp only [W]; exact ZiF k
 | .chk _ :: k => by simp only [W]; exact ZiF k
theorem Zbm {P : Program} {R : Option Nat} {B : Z8p} {Q : Exit → Act → World → Prop} (l : Nat) : ∀ k : List It, W P R B Q k (.goto l) = Q (.goto l)
 | [] => rfl
 | .code _ :: k => by simp only [W]; exact Zbm l k
 | .blk _ :: k => by simp only [W]; exact Zbm l k
 | .chk _ :: k => by simp only [W]; exact Zbm l k
theorem Zbn {P : Program} {R : Option Nat} {B : Z8p} {Q : Exit → Act → World → Prop} (id : Nat) : ∀ k : List It, Z51 id k = true → W P R B Q k (.exit id) = W P R B Q (Z8F id k) .normal
 | [], h => by simp [Z51] at h
 | .code _ :: k, h => by simp only [W, Z8F]; exact Zbn id k (by simpa [Z51] using h)
 | .chk _ :: k, h => by simp only [W, Z8F]; exact Zbn id k (by simpa [Z51] using h)
 | .blk i :: k, h => by
  simp only [W, Z8F]
  by_cases hi : id = i
  ·simp [hi]
  ·simp only [hi, if_false]
   exact Zbn id k (by simpa [Z51, hi] using h)
section
variable {R : Option Nat} {P : Program} {b : Frame} {a : Act} {k : List Item} {cs : List Frame} {w : World} {Q : Exit → Act → World → Prop}
theorem Z22 {c : Code} : step P (lone (b.atR a (.code (.scope c) :: k)) cs w) = .next (lone (b.atR a (.code c :: .inScope c :: k)) cs w) :=
 step_lone_go (by simp [stepG, stepG.exec, Frame.atR])
theorem Z7G {c : Code} : step P (lone (b.atR a (.inScope c :: k)) cs w) = .next (lone (b.atR a k) cs w) :=
 step_lone_go (by simp [stepG, stepG.exec, Frame.atR])
theorem Z4L {c : Code} (h : c.wpIn (Z1p R) 0 P (Exit.noGoto Q) a w) : (Code.scope c).wpIn (Z1p R) 0 P Q a w := by
 intro b k cs hro hb hr
 obtain ⟨e, a₁, w₁, hq, harr⟩ := h b (.inScope c :: k) cs hro hb hr
 have h0 := fenced_calm (P := P) (fr := b.atR a (.code (.scope c) :: k)) (w := w) hb hr rfl
 cases e with
 | normal => exact ⟨.normal, a₁, w₁, hq, .head h0 Z22 (StepsIn.trans harr (.one (fenced_calm hb hr rfl) Z7G))⟩
 | exit id => exact ⟨.exit id, a₁, w₁, hq, fun k' hk => .head h0 Z22 (harr.1 k' (by simp [exitTo, hk])), fun hr' hk => let ⟨k₁, h1, h2⟩ := harr.2 hr' (by simp [exitTo, hk]); ⟨k₁, h1, .head h0 Z22 h2⟩⟩
 | goto l => exact hq.elim
 | ret => exact ⟨_, a₁, w₁, hq, .of_steps (.one h0 Z22) harr⟩
 | panic ch => exact ⟨_, a₁, w₁, hq, .of_steps (.one h0 Z22) harr⟩
 | outgrown => exact ⟨_, a₁, w₁, hq, .of_steps (.one h0 Z22) harr⟩
end
theorem holds_of_ex (X : Cx) : ∀ (n : Nat) (todo : List It) (fr : List AV) (L : Z02), ex X n todo fr L → Z03 X todo fr L
 | 0, _, _, _, h => h
 | n + 1, [], fr, L, h => fun m a w hR => X.hfin fr L m a w h hR.wrel hR.frel hR.ext (by rw [hR.defers]; exact X.hD.ext hR.ext)
 | n + 1, .blk _ :: k, fr, L, h => fun m a w hR => by simp only [W]; exact holds_of_ex X n k fr L h m a w hR
 | n + 1, .chk I :: k, fr, L, h => fun m a w hR => by simp only [W]; exact ⟨fr, L, m, h, hR⟩
 | n + 1, .code c :: k, fr, L, h => by
  cases c with
  | skip => exact fun m a w hR => by simp only [W]; exact wpIn_skip (holds_of_ex X n k fr L h m a w hR)
  | label l => exact fun m a w hR => by simp only [W]; exact wpIn_label (holds_of_ex X n k fr L h m a w hR)
  | seq x y =>
   intro m a w hR
   have := holds_of_ex X n (.code x :: .code y :: k) fr L h m a w hR
   simp only [W] at this ⊢
   refine wpIn_seq (Go.wpIn_mono this fun e a' w' q => ?_)
   cases e <;> simp only [W, Exit.then] at * <;> exact q
  | cond q x y =>
   simp only [ex] at h
   split at h
   ·rename_i b hb
    intro m a w hR
    have hq := Z0Z hR.frel q
    rw [hb] at hq
    simp only [Z05] at hq
    simp only [W]
    refine wpIn_cond_split hq (fun ht => ?_) (fun ht => ?_)
    ·have := holds_of_ex X n _ fr L (h.1 ht) m a w hR; simpa only [W] using this
    ·have := holds_of_ex X n _ fr L (h.2 ht) m a w hR; simpa only [W] using this
   ·rename_i p q' hb
    intro m a w hR
    have hq := Z0Z hR.frel q
    rw [hb] at hq
    simp only [Z05] at hq
    obtain ⟨b, hq, hp1, hp2⟩ := hq
    simp only [W]
    refine wpIn_cond_split hq (fun ht => ?_) (fun ht => ?_)
    ·have := holds_of_ex X n _ fr L (h.1 (hp1 ht)) m a w hR; simpa only [W] using this
    ·have := holds_of_ex X n _ fr L (h.2 (hp2 ht)) m a w hR; simpa only [W] using this
   ·exact h.elim
  | block id b =>
   intro m a w hR
   have := holds_of_ex X n (.code b :: .blk id :: k) fr L h m a w hR
   simp only [W] at this ⊢
   refine wpIn_block (Go.wpIn_mono this fun e a' w' q => ?_)
   cases e <;> simp only [W, Exit.inBlock] at * <;> first | exact q | (split <;> rename_i hid <;> simp only [hid, if_true, if_false] at q <;> exact q)
  | exit id =>
   intro m a w hR
   obtain ⟨h1, h2⟩ := h
   simp only [W]
   refine wpIn_exit ?_
   rw [Zbn id k h1]
   exact holds_of_ex X n _ fr L h2 m a w hR
  | ret =>
   intro m a w hR
   simp only [W]
   refine wpIn_ret ?_
   rw [ZiF]
   exact X.hfinR fr L m a w h hR.wrel hR.frel hR.ext (by rw [hR.defers]; exact X.hD.ext hR.ext)
  | region id ops draw =>
   cases draw with
   | true => exact h
   | false =>
    intro m a w hR
    simp only [W]
    exact wpIn_region_list (Z6J X.ok ops (Q := W X.P X.R X.B X.Q k) (fun fr L m a w hk hR => holds_of_ex X n k fr L hk m a w hR) ops.toList fr L m a w h hR)
  | loop b => exact h
  | rangeFunc f ps x y => exact h
  | scope b =>
   intro m a w hR
   have := holds_of_ex X n (.code b :: k) fr L h m a w hR
   simp only [W] at this ⊢
   refine Z4L (Go.wpIn_mono this fun e a' w' q => ?_)
   cases e <;> first | exact q | (simp only [Zbm] at q; exact absurd q (X.ng _ _ _))
  | goto l => exact h
  | refuse s => exact h
theorem Z9k {R : Option Nat} {P : Program} {c : Code} {Q : Exit → Act → World → Prop} (I : Nat → Act → World → Prop)
  (round : ∀ n a w, I n a w → c.wpIn (Z1p R) 0 P (Exit.then (fun a' w' => ∃ n', n' < n ∧ I n' a' w') Q) a w) (n₀ : Nat) (a : Act) (w : World) (h₀ : I n₀ a w) : (Code.loop c).wpIn (Z1p R) 0 P Q a w := by
 intro b k cs hro hb hr
 have key : ∀ n a w, I n a w → ∃ e a' w', Q e a' w' ∧ ArrivesIn (Machine.fenced P (Z1p R)) P (lone (b.atR a (.code c :: .inLoop c :: k)) cs w) b k cs e a' w' := by
  intro n
  induction n using Nat.strongRecOn with
  | _ n ih =>
   intro a w hI
   obtain ⟨e, a₁, w₁, hq, harr⟩ := round n a w hI b (.inLoop c :: k) cs hro hb hr
   cases e with
   | normal =>
    obtain ⟨n', hlt, hI₁⟩ := hq
    obtain ⟨e₂, a₂, w₂, hq₂, harr₂⟩ := ih n' hlt a₁ w₁ hI₁
    exact ⟨e₂, a₂, w₂, hq₂, .of_steps (StepsIn.trans harr (.one (fenced_calm hb hr rfl) stepR_inLoop)) harr₂⟩
   | exit id => exact ⟨_, a₁, w₁, hq, .pass (x := .inLoop c) rfl (fun _ _ => .inl (by simp)) harr⟩
   | goto l => exact ⟨_, a₁, w₁, hq, .pass (x := .inLoop c) rfl (fun _ _ => .inl (by simp)) harr⟩
   | ret => exact ⟨_, a₁, w₁, hq, .pass (x := .inLoop c) rfl (fun _ _ => .inl (by simp)) harr⟩
   | panic ch => exact ⟨_, a₁, w₁, hq, .pass (x := .inLoop c) rfl (fun _ _ => .inl (by simp)) harr⟩
   | outgrown => exact ⟨_, a₁, w₁, hq, .pass (x := .inLoop c) rfl (fun _ _ => .inl (by simp)) harr⟩
 obtain ⟨e, a', w', hq, harr⟩ := key n₀ a w h₀
 exact ⟨e, a', w', hq, .of_steps (.one (fenced_calm hb hr rfl) stepR_loop) harr⟩
abbrev Z07 (L0 : Z02) (fr : List AV) (L : Z02) (S : List AV × Z02) : Prop := Z0o L0 fr L S
theorem Z03.weak {X : Cx} {k : List It} {fr : List AV} {L : Z02} {S : List AV × Z02} (hi : Z07 X.B.L fr L S) (h : Z03 X k S.1 S.2) : Z03 X k fr L := by
 intro m a w hR
 obtain ⟨m', hR'⟩ := hR.intoF hi
 exact h m' a w hR'
theorem Z03.loop {X : Cx} {b : Code} {k : List It} {fr : List AV} {L : Z02} {ι : Type} (S : ι → List AV × Z02) (μ : ι → Nat) (i0 : ι) (h0 : Z07 X.B.L fr L (S i0))
  (h : ∀ i, Z03 X (.code b :: .chk (fun fr' L' => ∃ j, μ j < μ i ∧ Z07 X.B.L fr' L' (S j)) :: k) (S i).1 (S i).2) : Z03 X (.code (.loop b) :: k) fr L := by
 refine Z03.weak h0 ?_
 intro m a w hR
 simp only [W]
 refine Z9k (fun n a w => ∃ i m, μ i = n ∧ RS X.B (S i).1 (S i).2 m a w) ?_ (μ i0) a w ⟨i0, m, rfl, hR⟩
 rintro n a w ⟨i, m, rfl, hR⟩
 have := h i m a w hR
 simp only [W] at this
 refine Go.wpIn_mono this fun e a' w' q => ?_
 cases e <;> simp only [W, Exit.then] at * <;> try exact q
 obtain ⟨fr', L', m', ⟨j, hlt, hi⟩, hR'⟩ := q
 obtain ⟨m'', hR''⟩ := hR'.intoF hi
 exact ⟨μ j, hlt, j, m'', rfl, hR''⟩
theorem Z03.cut {X : Cx} {c : Code} {k : List It} {fr : List AV} {L : Z02} (I : List AV → Z02 → Prop) (h1 : Z03 X (.code c :: .chk I :: k) fr L) (h2 : ∀ fr' L', I fr' L' → Z03 X k fr' L') : Z03 X (.code c :: k) fr L := by
 intro m a w hR
 have := h1 m a w hR
 simp only [W] at this ⊢
 refine Go.wpIn_mono this fun e a' w' q => ?_
 cases e <;> simp only [W] at * <;> try exact q
 obtain ⟨fr', L', m', hI, hR'⟩ := q
 exact h2 fr' L' hI m' a' w' hR'
end Go.Eng
end
