/- The engine, part 16: loops by the slots they turn; values that lead to no own row, and rows of them. The engine, part 19: regions that draw their order, again: quiet operations that stand ahead of all that turn the heap are read where they stand; of the last operation, which waits for all, nothing is asked of the class of heaps. The engine, part 20: contracts for functions that turn what their arguments lead to, over objects that lead to others; a nil cell of an own row becomes an own row; classes of heaps by a pattern. The engine, part 21: contracts for functions that turn all that their arguments lead to: own rows, objects and maps, as deep as they go. The engine, part 22: contracts of the library, proved over the model's own worlds, as contracts here. -/
import Derived.Test.YtbnnhffkbcekcaaGreatDoorEd
import Derived.RowKit2
set_option linter.unusedVariables false
set_option linter.unusedSimpArgs false
section
namespace Go.Eng
open Go
def wipe (ws : List Nat) (fr : List AV) : List AV := ws.foldl (fun f i => f.set i .any) fr
def updF (us : List (Nat × AV)) (fr : List AV) : List AV := us.foldl (fun f p => f.set p.1 p.2) fr
theorem wipe_nil (fr : List AV) : wipe [] fr = fr := rfl
theorem wipe_cons (i : Nat) (ws : List Nat) (fr : List AV) : wipe (i :: ws) fr = wipe ws (fr.set i .any) := rfl
theorem updF_nil (fr : List AV) : updF [] fr = fr := rfl
theorem updF_cons (p : Nat × AV) (us : List (Nat × AV)) (fr : List AV) : updF (p :: us) fr = updF us (fr.set p.1 p.2) := rfl
def maskF : List Bool → List AV → List AV
  | true :: bs, x :: xs => x :: maskF bs xs
  | false :: bs, _ :: xs => .any :: maskF bs xs
  | _, _ => []
theorem maskF_t (bs : List Bool) (x : AV) (xs : List AV) : maskF (true :: bs) (x :: xs) = x :: maskF bs xs := rfl
theorem maskF_f (bs : List Bool) (x : AV) (xs : List AV) : maskF (false :: bs) (x :: xs) = .any :: maskF bs xs := rfl
theorem maskF_nil : maskF [] [] = [] := rfl
theorem Holds.loopM {X : Cx} {b : Code} {k : List It} {fr : List AV} {L : Heap} {ι : Type} (ms : List Bool) (us : ι → List (Nat × AV)) (Lf : ι → Heap) (μ : ι → Nat) (i0 : ι)
    (h0 : Into X.B.L fr L (updF (us i0) (maskF ms fr), Lf i0))
    (h : ∀ i, Holds X (.code b :: .chk (fun fr' L' => ∃ j, μ j < μ i ∧ Into X.B.L fr' L' (updF (us j) (maskF ms fr), Lf j)) :: k) (updF (us i) (maskF ms fr)) (Lf i)) : Holds X (.code (.loop b) :: k) fr L :=
  Holds.loop (fun i => (updF (us i) (maskF ms fr), Lf i)) μ i0 h0 h
mutual
def pureA : AV → Bool
  | .agg cs => pureL cs
  | .tup cs => pureL cs
  | .sl cs _ => pureL cs
  | .ip cs => pureL cs
  | .fn _ a b => pureL a && pureL b
  | .ifc _ x => pureA x
  | .int .. => true
  | .bool _ => true
  | .str _ => true
  | .lit _ => true
  | .mpr .. => true
  | _ => false
def pureL : List AV → Bool
  | [] => true
  | x :: xs => pureA x && pureL xs
end
theorem pureL_iff : ∀ xs : List AV, pureL xs = xs.all pureA
  | [] => rfl
  | x :: xs => by simp only [pureL, List.all_cons, pureL_iff xs]
mutual
theorem pure_scp (n : Nat) : ∀ x : AV, pureA x = true → scp n x = true
  | .agg cs, h => by simp only [pureA, scp] at *; exact pure_scpL n cs h
  | .tup cs, h => by simp only [pureA, scp] at *; exact pure_scpL n cs h
  | .sl cs _, h => by simp only [pureA, scp] at *; exact pure_scpL n cs h
  | .ip cs, h => by simp only [pureA, scp] at *; exact pure_scpL n cs h
  | .fn _ a b, h => by simp only [pureA, scp, Bool.and_eq_true] at *; exact ⟨pure_scpL n a h.1, pure_scpL n b h.2⟩
  | .ifc _ x, h => by simp only [pureA, scp] at *; exact pure_scp n x h
  | .int .., _ => rfl
  | .bool _, _ => rfl
  | .str _, _ => rfl
  | .lit _, _ => rfl
  | .mpr .., _ => rfl
  | .any, h => by simp [pureA] at h
  | .msl .., h => by simp [pureA] at h
  | .ref .., h => by simp [pureA] at h
  | .when .., h => by simp [pureA] at h
  | .alt .., h => by simp [pureA] at h
  | .ub .., h => by simp [pureA] at h
  | .csl .., h => by simp [pureA] at h
  | .mp .., h => by simp [pureA] at h
theorem pure_scpL (n : Nat) : ∀ xs : List AV, pureL xs = true → scpL n xs = true
  | [], _ => rfl
  | x :: xs, h => by simp only [pureL, scpL, Bool.and_eq_true] at *; exact ⟨pure_scp n x h.1, pure_scpL n xs h.2⟩
end
mutual
theorem pure_ren (ρ : Nat → Nat) : ∀ x : AV, pureA x = true → ren ρ x = x
  | .agg cs, h => by simp only [pureA, ren] at *; rw [pure_renL ρ cs h]
  | .tup cs, h => by simp only [pureA, ren] at *; rw [pure_renL ρ cs h]
  | .sl cs _, h => by simp only [pureA, ren] at *; rw [pure_renL ρ cs h]
  | .ip cs, h => by simp only [pureA, ren] at *; rw [pure_renL ρ cs h]
  | .fn _ a b, h => by simp only [pureA, ren, Bool.and_eq_true] at *; rw [pure_renL ρ a h.1, pure_renL ρ b h.2]
  | .ifc _ x, h => by simp only [pureA, ren] at *; rw [pure_ren ρ x h]
  | .int .., _ => rfl
  | .bool _, _ => rfl
  | .str _, _ => rfl
  | .lit _, _ => rfl
  | .mpr .., _ => rfl
  | .any, h => by simp [pureA] at h
  | .msl .., h => by simp [pureA] at h
  | .ref .., h => by simp [pureA] at h
  | .when .., h => by simp [pureA] at h
  | .alt .., h => by simp [pureA] at h
  | .ub .., h => by simp [pureA] at h
  | .csl .., h => by simp [pureA] at h
  | .mp .., h => by simp [pureA] at h
theorem pure_renL (ρ : Nat → Nat) : ∀ xs : List AV, pureL xs = true → renL ρ xs = xs
  | [], _ => rfl
  | x :: xs, h => by simp only [pureL, renL, Bool.and_eq_true] at *; rw [pure_ren ρ x h.1, pure_renL ρ xs h.2]
end
mutual
theorem pure_ver (L : Heap) (id v : Nat) : ∀ x : AV, pureA x = true → verV L id v x = x
  | .agg cs, h => by simp only [pureA, verV] at *; rw [pure_verL L id v cs h]
  | .tup cs, h => by simp only [pureA, verV] at *; rw [pure_verL L id v cs h]
  | .sl cs _, h => by simp only [pureA, verV] at *; rw [pure_scpL 0 cs h]; rfl
  | .ip cs, h => by simp only [pureA, verV] at *; rw [pure_scpL 0 cs h]; rfl
  | .fn _ a b, h => by simp only [pureA, verV, Bool.and_eq_true] at *; rw [pure_verL L id v a h.1, pure_verL L id v b h.2]
  | .ifc _ x, h => by simp only [pureA, verV] at *; rw [pure_ver L id v x h]
  | .int .., _ => rfl
  | .bool _, _ => rfl
  | .str _, _ => rfl
  | .lit _, _ => rfl
  | .mpr .., _ => rfl
  | .any, h => by simp [pureA] at h
  | .msl .., h => by simp [pureA] at h
  | .ref .., h => by simp [pureA] at h
  | .when .., h => by simp [pureA] at h
  | .alt .., h => by simp [pureA] at h
  | .ub .., h => by simp [pureA] at h
  | .csl .., h => by simp [pureA] at h
  | .mp .., h => by simp [pureA] at h
theorem pure_verL (L : Heap) (id v : Nat) : ∀ xs : List AV, pureL xs = true → verL L id v xs = xs
  | [], _ => rfl
  | x :: xs, h => by simp only [pureL, verL, Bool.and_eq_true] at *; rw [pure_ver L id v x h.1, pure_verL L id v xs h.2]
end
mutual
theorem pure_frz (L : Heap) (id : Nat) : ∀ x : AV, pureA x = true → frzV L id x = x
  | .agg cs, h => by simp only [pureA, frzV] at *; rw [pure_frzL L id cs h]
  | .tup cs, h => by simp only [pureA, frzV] at *; rw [pure_frzL L id cs h]
  | .sl cs _, h => by simp only [pureA, frzV] at *; rw [pure_scpL 0 cs h]; rfl
  | .ip cs, h => by simp only [pureA, frzV] at *; rw [pure_scpL 0 cs h]; rfl
  | .fn _ a b, h => by simp only [pureA, frzV, Bool.and_eq_true] at *; rw [pure_scpL 0 a h.1, pure_scpL 0 b h.2]; rfl
  | .ifc _ x, h => by simp only [pureA, frzV] at *; rw [pure_frz L id x h]
  | .int .., _ => rfl
  | .bool _, _ => rfl
  | .str _, _ => rfl
  | .lit _, _ => rfl
  | .mpr .., _ => rfl
  | .any, h => by simp [pureA] at h
  | .msl .., h => by simp [pureA] at h
  | .ref .., h => by simp [pureA] at h
  | .when .., h => by simp [pureA] at h
  | .alt .., h => by simp [pureA] at h
  | .ub .., h => by simp [pureA] at h
  | .csl .., h => by simp [pureA] at h
  | .mp .., h => by simp [pureA] at h
theorem pure_frzL (L : Heap) (id : Nat) : ∀ xs : List AV, pureL xs = true → frzL L id xs = xs
  | [], _ => rfl
  | x :: xs, h => by simp only [pureL, frzL, Bool.and_eq_true] at *; rw [pure_frz L id x h.1, pure_frzL L id xs h.2]
end
def IdSub (L : Heap) (sub : AV → AV) (sl : AV → Prop) (sb : AV → Bool) : Prop := ∀ x, pureA x = true → sub x = x ∧ sl x ∧ sb x = false
theorem IdSub.zero (L : Heap) : IdSub L deref0 lent0 bor0 := fun x _ => ⟨rfl, trivial, rfl⟩
theorem IdSub.list {L : Heap} {sub : AV → AV} {sl : AV → Prop} {sb : AV → Bool} (H : IdSub L sub sl sb) {xs : List AV} (h : pureL xs = true) : xs.map sub = xs ∧ (∀ x ∈ xs, sl x) ∧ xs.any sb = false := by
  rw [pureL_iff, List.all_eq_true] at h
  refine ⟨?_, fun x hx => (H x (h x hx)).2.1, ?_⟩
  · conv => rhs; rw [← List.map_id xs]
    exact List.map_congr_left fun x hx => (H x (h x hx)).1
  · rw [List.any_eq_false]; intro x hx; rw [(H x (h x hx)).2.2]; simp
theorem IdSub.succ {L : Heap} {keep : Nat → Bool} {sub : AV → AV} {sl : AV → Prop} {sb : AV → Bool} (H : IdSub L sub sl sb) : IdSub L (derefC L keep sub) (lentC L keep sl) (borC L keep sb) := by
  intro x hx
  cases x <;> simp only [pureA, derefC, lentC, borC, Bool.and_eq_true, Bool.false_eq_true] at * <;> try exact ⟨trivial, trivial, trivial⟩
  case agg cs => obtain ⟨h1, h2, h3⟩ := H.list hx; exact ⟨by rw [h1], h2, h3⟩
  case ifc t x => obtain ⟨h1, h2, h3⟩ := H x hx; exact ⟨by rw [h1], h2, h3⟩
  case fn f a b =>
    obtain ⟨h1, h2, h3⟩ := H.list hx.1
    obtain ⟨k1, k2, k3⟩ := H.list hx.2
    exact ⟨by rw [h1, k1], ⟨h2, k2⟩, by rw [h3, k3]; rfl⟩
theorem IdSub.d1 (L : Heap) (k : Nat → Bool) : IdSub L (d1 L k) (l1 L k) (b1 L k) := (IdSub.zero L).succ
theorem IdSub.d2 (L : Heap) (k : Nat → Bool) : IdSub L (d2 L k) (l2 L k) (b2 L k) := (IdSub.d1 L k).succ
theorem IdSub.d3 (L : Heap) (k : Nat → Bool) : IdSub L (d3 L k) (l3 L k) (b3 L k) := (IdSub.d2 L k).succ
theorem IdSub.d4 (L : Heap) (k : Nat → Bool) : IdSub L (derefC L k (Eng.d3 L k)) (lentC L k (l3 L k)) (borC L k (b3 L k)) := (IdSub.d3 L k).succ
class PureF {α : Type} (f : α → AV) : Prop where
  pure : ∀ x, pureA (f x) = true
  one : ∀ x, oneCells [f x] = true
class PureC {α : Type} (g : α → List AV) : Prop where
  pure : ∀ x, pureL (g x) = true
  one : ∀ x, oneCells (g x) = true
class FlatF {α : Type} (f : α → AV) : Prop where
  flat : ∀ x, flat (f x) = true
instance : PureF AV.str := ⟨fun _ => rfl, fun _ => rfl⟩
instance : PureF AV.bool := ⟨fun _ => rfl, fun _ => rfl⟩
instance (k : IntKind) : PureF (AV.int k) := ⟨fun _ => rfl, fun _ => rfl⟩
instance : PureF byteAV := ⟨fun _ => rfl, fun _ => rfl⟩
instance : FlatF AV.str := ⟨fun _ => rfl⟩
instance : FlatF AV.bool := ⟨fun _ => rfl⟩
instance (k : IntKind) : FlatF (AV.int k) := ⟨fun _ => rfl⟩
instance : FlatF byteAV := ⟨fun _ => rfl⟩
section
variable {α : Type} {f : α → AV} {g : α → List AV}
theorem oneCells_append : ∀ xs ys : List AV, oneCells xs = true → oneCells ys = true → oneCells (xs ++ ys) = true
  | [], ys, _, h => h
  | x :: xs, ys, h1, h2 => by
    cases x <;> simp only [oneCells, List.cons_append, Bool.and_eq_true, Bool.false_eq_true] at * <;> first | exact oneCells_append xs ys h1 h2 | exact ⟨h1.1, oneCells_append xs ys h1.2 h2⟩
theorem pureL_map [PureF f] (xs : List α) : pureL (xs.map f) = true := by rw [pureL_iff]; simp [PureF.pure]
theorem pureL_fm [PureC g] (xs : List α) : pureL (xs.flatMap g) = true := by
  rw [pureL_iff, List.all_eq_true]; intro x hx
  obtain ⟨a, _, ha⟩ := List.mem_flatMap.1 hx
  have := PureC.pure (g := g) a
  rw [pureL_iff, List.all_eq_true] at this
  exact this x ha
theorem scpL_map [PureF f] (n : Nat) (xs : List α) : scpL n (xs.map f) = true := pure_scpL n _ (pureL_map xs)
theorem renL_map [PureF f] (ρ : Nat → Nat) (xs : List α) : renL ρ (xs.map f) = xs.map f := pure_renL ρ _ (pureL_map xs)
theorem verL_map [PureF f] (L : Heap) (id v : Nat) (xs : List α) : verL L id v (xs.map f) = xs.map f := pure_verL L id v _ (pureL_map xs)
theorem frzL_map [PureF f] (L : Heap) (id : Nat) (xs : List α) : frzL L id (xs.map f) = xs.map f := pure_frzL L id _ (pureL_map xs)
theorem one_map [PureF f] : ∀ xs : List α, oneCells (xs.map f) = true
  | [] => rfl
  | x :: xs => by
    have h1 := PureF.one (f := f) x
    exact oneCells_append [f x] (xs.map f) h1 (one_map xs)
theorem d3_map [PureF f] (L : Heap) (k : Nat → Bool) (xs : List α) : (xs.map f).map (d3 L k) = xs.map f := ((IdSub.d3 L k).list (pureL_map xs)).1
theorem m3_map [PureF f] (L : Heap) (k : Nat → Bool) (xs : List α) : (∀ y ∈ xs.map f, lentC L k (l2 L k) y) = True := eq_true ((IdSub.d3 L k).list (pureL_map xs)).2.1
theorem scpL_fm [PureC g] (n : Nat) (xs : List α) : scpL n (xs.flatMap g) = true := pure_scpL n _ (pureL_fm xs)
theorem renL_fm [PureC g] (ρ : Nat → Nat) (xs : List α) : renL ρ (xs.flatMap g) = xs.flatMap g := pure_renL ρ _ (pureL_fm xs)
theorem verL_fm [PureC g] (L : Heap) (id v : Nat) (xs : List α) : verL L id v (xs.flatMap g) = xs.flatMap g := pure_verL L id v _ (pureL_fm xs)
theorem frzL_fm [PureC g] (L : Heap) (id : Nat) (xs : List α) : frzL L id (xs.flatMap g) = xs.flatMap g := pure_frzL L id _ (pureL_fm xs)
theorem one_fm [PureC g] : ∀ xs : List α, oneCells (xs.flatMap g) = true
  | [] => rfl
  | x :: xs => by rw [List.flatMap_cons]; exact oneCells_append (g x) _ (PureC.one x) (one_fm xs)
theorem scpL_c [PureC g] (n : Nat) (x : α) : scpL n (g x) = true := pure_scpL n _ (PureC.pure x)
theorem renL_c [PureC g] (ρ : Nat → Nat) (x : α) : renL ρ (g x) = g x := pure_renL ρ _ (PureC.pure x)
theorem verL_c [PureC g] (L : Heap) (id v : Nat) (x : α) : verL L id v (g x) = g x := pure_verL L id v _ (PureC.pure x)
theorem frzL_c [PureC g] (L : Heap) (id : Nat) (x : α) : frzL L id (g x) = g x := pure_frzL L id _ (PureC.pure x)
theorem one_c [PureC g] (x : α) : oneCells (g x) = true := PureC.one x
theorem pinfreeL_map [FlatF f] (xs : List α) : pinfreeL (xs.map f) = true := flat_pinfree (by simp [FlatF.flat])
end
theorem getD_drop' (xs : List AV) (n j : Nat) (d : AV) : (xs.drop n).getD j d = xs.getD (n + j) d := by simp [List.getD]
class Width {α : Type} (g : α → List AV) (n : outParam Nat) : Prop where
  len : ∀ x, (g x).length = n
theorem getD_zi {k : IntKind} (xs : List Int) (i : Nat) : (xs.map (AV.int k)).getD i (.int k 0) = .int k (xs.getD i default) := by
  by_cases h : i < xs.length <;> simp [List.getD, h]
theorem getD_zy (xs : List UInt8) (i : Nat) : (xs.map byteAV).getD i (.int .u8 0) = .int .u8 (xs.getD i 0).toNat := by
  by_cases h : i < xs.length <;> simp [List.getD, h, byteAV]
theorem len_c {α : Type} {g : α → List AV} {n : Nat} [Width g n] (x : α) : (g x).length = n := Width.len x
theorem take_c {α : Type} {g : α → List AV} {n : Nat} [Width g n] (x : α) : (g x).take n = g x := List.take_of_length_le (by rw [len_c (g := g) x]; exact Nat.le_refl _)
theorem drop_c {α : Type} {g : α → List AV} {n : Nat} [Width g n] (x : α) : (g x).drop n = [] := List.drop_eq_nil_of_le (by rw [len_c (g := g) x]; exact Nat.le_refl _)
theorem len_fm {α : Type} {g : α → List AV} {n : Nat} [Width g n] (xs : List α) : (xs.flatMap g).length = xs.length * n := by
  induction xs with
  | nil => simp
  | cons x xs ih => rw [List.flatMap_cons, List.length_append, ih, Width.len (g := g) x, List.length_cons, Nat.succ_mul]; omega
theorem drop_fm {α : Type} {g : α → List AV} {n : Nat} [Width g n] (xs : List α) (i : Nat) : (xs.flatMap g).drop (i * n) = (xs.drop i).flatMap g := by
  induction xs generalizing i with
  | nil => simp
  | cons x xs ih =>
    cases i with
    | zero => simp
    | succ i =>
      rw [List.flatMap_cons, Nat.succ_mul, Nat.add_comm, List.drop_succ_cons, ← ih i, ← Width.len (g := g) x, List.drop_append, List.drop_eq_nil_of_le (by omega)]
      simp
theorem take_fm {α : Type} {g : α → List AV} {n : Nat} [Width g n] (xs : List α) (i : Nat) : (xs.flatMap g).take (i * n) = (xs.take i).flatMap g := by
  induction xs generalizing i with
  | nil => simp
  | cons x xs ih =>
    cases i with
    | zero => simp
    | succ i =>
      have hx := Width.len (g := g) x
      rw [List.flatMap_cons, Nat.succ_mul, List.take_succ_cons, List.flatMap_cons, ← ih i, List.take_append, List.take_of_length_le (by omega)]
      congr 2; omega
theorem drop_at {α : Type} {xs : List α} {i : Nat} (h : i < xs.length) (d : α) : xs.drop i = xs.getD i d :: xs.drop (i + 1) := by
  rw [List.drop_eq_getElem_cons h]; simp [List.getD, h]
theorem head_fm {α : Type} {g : α → List AV} {n : Nat} [Width g n] (xs : List α) (i : Nat) (h : i < xs.length) (d : α) : ((xs.flatMap g).drop (i * n)).take n = g (xs.getD i d) := by
  rw [drop_fm, drop_at h d, List.flatMap_cons]
  have hx := Width.len (g := g) (xs.getD i d)
  rw [List.take_append, List.take_of_length_le (by omega), hx, Nat.sub_self, List.take_zero, List.append_nil]
attribute [push_cast] maskF_t maskF_f maskF_nil wipe_nil wipe_cons updF_nil updF_cons pureL_map pureL_fm scpL_map renL_map verL_map frzL_map one_map d3_map scpL_fm renL_fm verL_fm frzL_fm one_fm scpL_c renL_c verL_c frzL_c one_c pinfreeL_map getD_drop' m3_map len_fm len_c take_c drop_c getD_zi getD_zy
theorem wr_i64 (n : Int) (h : -9223372036854775808 ≤ n ∧ n ≤ 9223372036854775807) : IntKind.i64.wrap n = n := IntWalk.i64_in n h
theorem head_fm' {α : Type} [Inhabited α] {g : α → List AV} {n : Nat} [Width g n] (xs : List α) (i : Nat) (h : i < xs.length) : ((xs.flatMap g).drop (i * n)).take n = g (xs.getD i default) := head_fm xs i h default
theorem getD_fm {α : Type} [Inhabited α] {g : α → List AV} {n : Nat} [Width g n] (xs : List α) (i j : Nat) (d : AV) (h : i < xs.length) (hj : j < n) : (xs.flatMap g).getD (i * n + j) d = (g (xs.getD i default)).getD j d := by
  have hx := Width.len (g := g) (xs.getD i default)
  have e : (xs.flatMap g).getD (i * n + j) d = ((xs.flatMap g).drop (i * n)).getD j d := by simp [List.getD]
  rw [e, drop_fm, drop_at h default, List.flatMap_cons]
  simp only [List.getD]
  rw [List.getElem?_append_left (by simp only [List.getD] at hx; omega)]
theorem getD_fm0 {α : Type} [Inhabited α] {g : α → List AV} {n : Nat} [Width g n] (xs : List α) (i : Nat) (d : AV) (h : i < xs.length) (hj : 0 < n) : (xs.flatMap g).getD (i * n) d = (g (xs.getD i default)).getD 0 d := getD_fm xs i 0 d h hj
theorem toNat_add1 (a : Nat) : ((a : Int) + 1).toNat = a + 1 := by omega
section
variable {α β : Type}
def psel (e : α → List AV) (p : α → Prop) (xs : List AV) : Prop := ∃ a, xs = e a ∧ p a
open Classical in
noncomputable def rsel (e : α → List AV) (r : α → β) (d : β) (xs : List AV) : β := if h : ∃ a, xs = e a then r h.choose else d
theorem psel_at {e : α → List AV} (hi : ∀ a b, e a = e b → a = b) (p : α → Prop) (a : α) : psel e p (e a) = p a :=
  propext ⟨fun ⟨b, h1, h2⟩ => by rw [hi _ _ h1]; exact h2, fun h => ⟨a, rfl, h⟩⟩
theorem rsel_at {e : α → List AV} (hi : ∀ a b, e a = e b → a = b) (r : α → β) (d : β) (a : α) : rsel e r d (e a) = r a := by
  have h : ∃ b, e a = e b := ⟨a, rfl⟩
  unfold rsel
  rw [dif_pos h, ← hi _ _ h.choose_spec]
noncomputable def funS (e : α → List AV) (p : α → Prop) (r : α → AV) (h : α → Heap) (q : Bool) : FSpec := lift0 (psel e p) (rsel e r .any) (rsel e h []) q
theorem funS_con {P : Program} {Γ : Env} (hΓ : EnvOk P Γ) {f : FuncId} {fn : Func} (hf : P.funcs[f]? = some fn) (hb : fn.body.isNone = false) (hn : (fn.name == "runtime.NumGoroutine") = false) {e : α → List AV} {p : α → Prop} {r : α → AV} {h : α → Heap} {q : Bool}
    (hi : ∀ a b, e a = e b → a = b) (hq : q = true → ∀ a, h a = []) (hh : ∀ a, p a → BodyOk P Γ fn (e a) [] (r a) (h a)) : Con P f (funS e p r h q) := by
  refine Con.of_body hΓ hf hb hn (fun hq' xs => ?_) fun xs hx => ?_
  · unfold rsel
    split
    · exact hq hq' _
    · rfl
  · obtain ⟨a, rfl, ha⟩ := hx
    rw [rsel_at hi, rsel_at hi]
    exact hh a ha
end
attribute [push_cast] funS
end Go.Eng
end
section
namespace Go.Eng
open Go
def stillOp : Op → Bool
  | .move _ => true
  | .assign _ => true
  | .pick .. => true
  | .binOp .. => true
  | .unOp .. => true
  | .index .. => true
  | .indexAddr .. => true
  | .load .. => true
  | .field .. => true
  | .fieldAddr .. => true
  | .extract .. => true
  | .nilCheck _ => true
  | .sliceToArrayPointer _ _ => true
  | .slice .. => true
  | .lookup .. => true
  | .call { callee := .builtin .len, args := _, argTypes := _ } => true
  | _ => false
theorem also_L (z : Rz) (p : Prop) : (z.also p).L = z.L := rfl
theorem still_L {P : Program} {Γ : Env} {all : List Oper} {c : Bool} {fr : List AV} {L : Heap} {o : Oper} (h : stillOp o.op = true) : (stepA P Γ all c fr L o).L = L := by
  rcases stepA_cases P Γ all o with hst | ⟨t, len, parts, ho, hst⟩
  · rw [hst]
    obtain ⟨dst, op, ty, pos, after, guard⟩ := o
    simp only at h ⊢
    cases op <;> simp only [stillOp, Bool.false_eq_true] at h <;> simp only [stepR, ev, also_L]
    case pick => unfold pickR; split <;> rfl
    case binOp =>
      unfold binR; repeat' split
      all_goals first | rfl | (unfold intR; split <;> rfl) | (unfold strR; split <;> rfl) | (unfold nilR; split <;> rfl) | (unfold eqAgg; repeat' split) | skip
      all_goals first | rfl | skip
    case unOp => unfold unR; split <;> rfl
    case index => unfold indexR; repeat' split
                  all_goals rfl
    case indexAddr => unfold indexAddrR; repeat' split
                      all_goals rfl
    case load => unfold loadR; repeat' split
                 all_goals rfl
    case field => unfold fieldR; repeat' split
                  all_goals rfl
    case fieldAddr => unfold fieldAddrR; repeat' split
                      all_goals rfl
    case extract => unfold extractR; repeat' split
                    all_goals rfl
    case nilCheck => unfold nilCheckR; repeat' split
                     all_goals rfl
    case sliceToArrayPointer => unfold arrPtrR; repeat' split
                                all_goals rfl
    case slice => unfold sliceR; repeat' split
                  all_goals rfl
    case lookup => unfold lookR; repeat' split
                   all_goals rfl
    case call c =>
      obtain ⟨callee, args, ts⟩ := c
      cases callee with
      | value f => simp [stillOp] at h
      | invoke r n => simp [stillOp] at h
      | builtin b =>
        cases b <;> simp only [stillOp, Bool.false_eq_true] at h
        simp only [stepR, ev, builtinR]
        split <;> first | rfl | (rw [also_L]; unfold lenR; repeat' split) | (rw [also_L]; unfold minR; repeat' split) | contradiction | skip
        all_goals first | rfl | contradiction | skip
  · rw [ho] at h; simp [stillOp] at h
section
variable {P : Program} {Γ : Env} {ops : Array Oper}
def isAl (o : Oper) : Bool := match o.op, o.guard with
  | .alloc _, none => true
  | _, _ => false
theorem al_step {o : Oper} (h : isAl o = true) : ∃ ob q, ∀ fr L, stepA P Γ ops.toList (guardC ops.toList fr o.guard) fr L o = ⟨q, .ref L.length 0 0, L ++ [ob]⟩ ∧ (∀ c, mkV o.guard c (.ref L.length 0 0) = .ref L.length 0 0) := by
  obtain ⟨dst, op, ty, pos, after, guard⟩ := o
  unfold isAl at h
  simp only at h
  split at h
  · rename_i t
    cases hb : lkT tyB t with
    | none =>
      refine ⟨.row (zeroA P t).cells (zeroA P t).cells.length 0, true = true ∧ hasZero P t, fun fr L => ?_⟩
      rcases stepA_cases P Γ ops.toList ⟨dst, .alloc t, ty, pos, after, none⟩ with hst | ⟨t', len, parts, ho, hst⟩
      · rw [hst]; exact ⟨by simp only [stepR, ev, allocR, hb, guardC], fun _ => rfl⟩
      · cases ho
    | some e =>
      refine ⟨.raw (.bld t e []), true = true ∧ hasZero P t ∧ zeroA P t = .agg [.lit (.pointer none), .lit (.slice none 0 0)], fun fr L => ?_⟩
      rcases stepA_cases P Γ ops.toList ⟨dst, .alloc t, ty, pos, after, none⟩ with hst | ⟨t', len, parts, ho, hst⟩
      · rw [hst]; exact ⟨by simp only [stepR, ev, allocR, hb, guardC], fun _ => rfl⟩
      · cases ho
  · cases h
def stabE (P : Program) (Γ : Env) (all : List Oper) (c : Bool) (fr : List AV) (L : Heap) (o : Oper) : Prop := (stepA P Γ all c fr L o).L.length = L.length ∧
  ∀ A, (stepA P Γ all c fr (L ++ A) o).pre ∧ (stepA P Γ all c fr (L ++ A) o).v = (stepA P Γ all c fr L o).v ∧ (stepA P Γ all c fr (L ++ A) o).L = (stepA P Γ all c fr L o).L ++ A
def Ye (P : Program) (Γ : Env) (ops : Array Oper) (H : Heap → Prop) (mk la al st : Bool) (o : Oper) (fr : List AV) (L : Heap) (v : AV) (L' : Heap) : Prop :=
  guardOk ops.toList fr o.guard ∧
  if al then isAl o = true ∧ (stepA P Γ ops.toList (guardC ops.toList fr o.guard) fr L o).pre ∧ v = mkV o.guard (guardC ops.toList fr o.guard) (stepA P Γ ops.toList (guardC ops.toList fr o.guard) fr L o).v ∧
      L' = (stepA P Γ ops.toList (guardC ops.toList fr o.guard) fr L o).L ∧ H L'
  else if mk then (stepA P Γ ops.toList (guardC ops.toList fr o.guard) fr L o).pre ∧ v = mkV o.guard (guardC ops.toList fr o.guard) (stepA P Γ ops.toList (guardC ops.toList fr o.guard) fr L o).v ∧
      L' = (stepA P Γ ops.toList (guardC ops.toList fr o.guard) fr L o).L ∧ (la = false → H L') ∧ (st = true → stabE P Γ ops.toList (guardC ops.toList fr o.guard) fr L o)
  else L' = L ∧ ∀ G, H G → (stepA P Γ ops.toList (guardC ops.toList fr o.guard) fr G o).pre ∧ (stepA P Γ ops.toList (guardC ops.toList fr o.guard) fr G o).L = G ∧
      v = mkV o.guard (guardC ops.toList fr o.guard) (stepA P Γ ops.toList (guardC ops.toList fr o.guard) fr G o).v
theorem Ye.swap {H : Heap → Prop} {mi mj ai aj si sj : Bool} {oi oj : Oper} {fr : List AV} {L L1 L2 : Heap} {v u : AV} (hH : aj = true → ∀ G A, H G → H (G ++ A)) (hL : H L) (hi : Ye P Γ ops H mi false ai si oi fr L v L1) (hj : Ye P Γ ops H mj false aj sj oj (putA fr oi.dst v) L1 u L2)
    (hap : oi.apart ops oj = true) (hm : (ai = false ∧ aj = false ∧ (¬ (mi = true ∧ mj = true) ∨ (stillOp oi.op = true ∧ stillOp oj.op = true))) ∨ (ai = false ∧ aj = true ∧ (mi = true → si = true)) ∨ (ai = true ∧ aj = false ∧ mj = false)) :
    ∃ L3, H L3 ∧ Ye P Γ ops H mj false aj sj oj fr L u L3 ∧ Ye P Γ ops H mi false ai si oi (putA fr oj.dst u) L3 v L2 := by
  obtain ⟨h1, h2, h3⟩ := Oper.apart_spec hap
  unfold Ye at hi hj ⊢
  have e1 : ∀ c G, stepA P Γ ops.toList c (putA fr oi.dst v) G oj = stepA P Γ ops.toList c fr G oj := fun c G => ev_put (o := oj) h1
  have e2 : ∀ c G, stepA P Γ ops.toList c (putA fr oj.dst u) G oi = stepA P Γ ops.toList c fr G oi := fun c G => ev_put (o := oi) h3
  obtain ⟨g1, g2⟩ := guard_put (fr := fr) (o := oj) (dst := oi.dst) (x := v) h1
  obtain ⟨g3, g4⟩ := guard_put (fr := fr) (o := oi) (dst := oj.dst) (x := u) h3
  have s1 : ∀ c G, stabE P Γ ops.toList c (putA fr oi.dst v) G oj = stabE P Γ ops.toList c fr G oj := fun c G => by unfold stabE; simp only [e1]
  have s2 : ∀ c G, stabE P Γ ops.toList c (putA fr oj.dst u) G oi = stabE P Γ ops.toList c fr G oi := fun c G => by unfold stabE; simp only [e2]
  rw [g1, g2] at hj
  simp only [e1, s1] at hj
  rw [g3, g4]
  simp only [e2, s2]
  obtain ⟨hgi, hi⟩ := hi
  obtain ⟨hgj, hj⟩ := hj
  rcases hm with ⟨rfl, rfl, hm⟩ | ⟨rfl, rfl, hm⟩ | ⟨rfl, rfl, rfl⟩
  · simp only [Bool.false_eq_true, if_false] at hi hj ⊢
    cases mi <;> cases mj
    · simp only [Bool.false_eq_true, if_false] at hi hj
      obtain ⟨rfl, hi⟩ := hi
      obtain ⟨rfl, hj⟩ := hj
      refine ⟨L2, hL, ?_⟩
      simp only [Bool.false_eq_true, if_false]
      exact ⟨⟨hgj, trivial, hj⟩, hgi, trivial, hi⟩
    · simp only [Bool.false_eq_true, if_false, if_true] at hi hj
      obtain ⟨rfl, hi⟩ := hi
      refine ⟨L2, hj.2.2.2.1 trivial, ?_⟩
      simp only [Bool.false_eq_true, if_false, if_true]
      exact ⟨⟨hgj, hj⟩, hgi, trivial, hi⟩
    · simp only [Bool.false_eq_true, if_false, if_true] at hi hj
      obtain ⟨rfl, hj⟩ := hj
      refine ⟨L, hL, ?_⟩
      simp only [Bool.false_eq_true, if_false, if_true]
      exact ⟨⟨hgj, trivial, hj⟩, hgi, hi⟩
    · rcases hm with hm | ⟨q1, q2⟩
      · exact absurd ⟨rfl, rfl⟩ hm
      simp only [if_true, still_L q1, still_L q2] at hi hj
      obtain ⟨a1, a2, rfl, a3, a4⟩ := hi
      obtain ⟨b1, b2, rfl, b3, b4⟩ := hj
      refine ⟨L2, hL, ?_⟩
      simp only [if_true, still_L q1, still_L q2]
      exact ⟨⟨hgj, b1, b2, trivial, b3, b4⟩, hgi, a1, a2, trivial, a3, a4⟩
  · simp only [Bool.false_eq_true, if_false, if_true] at hi hj ⊢
    obtain ⟨b0, b1, b2, rfl, b3⟩ := hj
    obtain ⟨ob, q, hal⟩ := al_step (P := P) (Γ := Γ) (ops := ops) b0
    cases mi with
    | false =>
      simp only [Bool.false_eq_true, if_false] at hi ⊢
      obtain ⟨rfl, hi⟩ := hi
      exact ⟨_, b3, ⟨hgj, b0, b1, b2, rfl, b3⟩, hgi, rfl, hi⟩
    | true =>
      simp only [if_true] at hi ⊢
      obtain ⟨a1, a2, rfl, a3, a4⟩ := hi
      have hst := a4 (hm rfl)
      obtain ⟨t1, t2⟩ := hst
      have q1 := fun L => (hal fr L).1
      have q2 := fun L => (hal fr L).2
      simp only [q1, q2] at b1 b2 b3 ⊢
      rw [t1] at b2
      refine ⟨L ++ [ob], hH rfl _ _ hL, ⟨hgj, b0, b1, b2, rfl, hH rfl _ _ hL⟩, ?_⟩
      · obtain ⟨t3, t4, t5⟩ := t2 [ob]
        refine ⟨hgi, t3, by rw [t4]; exact a2, t5.symm, fun _ => b3, fun _ => ?_⟩
        refine ⟨by rw [t5]; simp [t1], fun A => ?_⟩
        obtain ⟨r3, r4, r5⟩ := t2 ([ob] ++ A)
        rw [← List.append_assoc] at r3 r4 r5
        exact ⟨r3, by rw [r4, t4], by rw [r5, t5, List.append_assoc]⟩
  · simp only [Bool.false_eq_true, if_false, if_true] at hi hj ⊢
    obtain ⟨rfl, hj⟩ := hj
    exact ⟨L, hL, ⟨hgj, rfl, hj⟩, hgi, hi⟩
theorem Ye.keeps {H : Heap → Prop} {mk al st : Bool} {o : Oper} {fr : List AV} {L L' : Heap} {v : AV} (hL : H L) (h : Ye P Γ ops H mk false al st o fr L v L') : H L' := by
  unfold Ye at h
  cases al
  · cases mk
    · simp only [Bool.false_eq_true, if_false] at h; rw [h.2.1]; exact hL
    · simp only [Bool.false_eq_true, if_false, if_true] at h; exact h.2.2.2.2.1 trivial
  · simp only [if_true] at h; exact h.2.2.2.2.2
variable {md : Region.Mode}
def opE (P : Program) (Γ : Env) (ops : Array Oper) (H : Heap → Prop) (mk la al st : Nat → Bool) (i : Nat) (nd : Prop) (K : List AV → Heap → Prop) (fr : List AV) (L : Heap) : Prop :=
  match ops[i]? with
  | none => K fr L
  | some o => ∃ v L', Ye P Γ ops H (mk i) (la i) (al i) (st i) o fr L v L' ∧ (la i = true → nd) ∧ K (putA fr o.dst v) L'
def anyE (P : Program) (Γ : Env) (md : Region.Mode) (ops : Array Oper) (H : Heap → Prop) (mk la al st : Nat → Bool) (K : List AV → Heap → Prop) : Nat → Array Bool → List AV → Heap → Prop
  | 0, listed, fr, L => Region.ready md ops listed = [] ∧ K fr L
  | fuel + 1, listed, fr, L => (Region.ready md ops listed = [] → K fr L) ∧
    ∀ i ∈ Region.ready md ops listed, opE P Γ ops H mk la al st i (Region.ready md ops (listed.setIfInBounds i true) = []) (anyE P Γ md ops H mk la al st K fuel (listed.setIfInBounds i true)) fr L
def pairE (mk al st : Nat → Bool) (i j : Nat) (oi oj : Oper) : Prop := (al i = false ∧ al j = false ∧ (¬ (mk i = true ∧ mk j = true) ∨ (stillOp oi.op = true ∧ stillOp oj.op = true))) ∨ (al i = false ∧ al j = true ∧ (mk i = true → st i = true)) ∨ (al i = true ∧ al j = false ∧ mk j = false)
def freeE (ops : Array Oper) (md : Region.Mode) (mk al st : Nat → Bool) (listed : Array Bool) (i : Nat) (oi : Oper) : Prop :=
  ∀ j oj, ops[j]? = some oj → j ≠ i → listed.getD j true = false → (∀ e ∈ oj.after, Region.binds md e = true → e.on ≠ i) → oi.apart ops oj = true ∧ (TW ops md i j ∨ pairE mk al st i j oi oj)
def Closed (ops : Array Oper) (md : Region.Mode) (listed : Array Bool) : Prop := ∀ j k, listed.getD j true = false → TW ops md j k → listed.getD k true = false
theorem Closed.set {listed : Array Bool} (h : Closed ops md listed) {j : Nat} (hj : j ∈ Region.ready md ops listed) : Closed ops md (listed.setIfInBounds j true) := by
  obtain ⟨hjun, oj, hoj, hall⟩ := mem_ready.1 hj
  intro a b ha hab
  have haj : j ≠ a := by
    intro e; subst e
    rcases Nat.lt_or_ge j listed.size with h' | h'
    · simp [h'] at ha
    · simp [Array.getElem?_eq_none h'] at ha
  rw [getD_set_ne true haj] at ha
  by_cases hbj : j = b
  · subst hbj
    obtain ⟨o', e, ho', he, hb, hlt, h3⟩ := hab.step
    rw [hoj] at ho'
    obtain rfl := Option.some.inj ho'
    have h5 := hall e he hb
    have hlt' : e.on < listed.size := by
      rcases Nat.lt_or_ge j listed.size with h' | h'
      · omega
      · simp [Array.getElem?_eq_none h'] at hjun
    rcases h3 with h3 | h3
    · rw [h3] at h5 hlt'; simp [hlt'] at h5 ha; rw [ha] at h5; cases h5
    · have h6 := h _ _ ha h3
      simp [hlt'] at h5 h6; rw [h6] at h5; cases h5
  · rw [getD_set_ne true hbj]; exact h _ _ ha hab
theorem Closed.late {listed : Array Bool} (h : Closed ops md listed) {i j : Nat} (hi : listed.getD i true = false) (hij : TW ops md i j) : j ∉ Region.ready md ops listed := by
  intro hj
  obtain ⟨hjun, oj, hoj, hall⟩ := mem_ready.1 hj
  obtain ⟨o', e, ho', he, hb, hlt, h3⟩ := hij.step
  rw [hoj] at ho'
  obtain rfl := Option.some.inj ho'
  have h5 := hall e he hb
  have hlt' : e.on < listed.size := by
    rcases Nat.lt_or_ge j listed.size with h' | h'
    · omega
    · simp [Array.getElem?_eq_none h'] at hjun
  rcases h3 with h3 | h3
  · rw [h3] at h5 hlt'; simp [hlt'] at h5 hi; rw [hi] at h5; cases h5
  · have h6 := h _ _ hi h3
    simp [hlt'] at h5 h6; rw [h6] at h5; cases h5
def lastOk (ops : Array Oper) (md : Region.Mode) (la : Nat → Bool) : Prop := ∀ i, la i = true → ∀ j, j < ops.size → j ≠ i → TW ops md j i
theorem anyE_first {H : Heap → Prop} {mk la al st : Nat → Bool} {K : List AV → Heap → Prop} (hla : lastOk ops md la) (hHa : (∃ i, al i = true) → ∀ G A, H G → H (G ++ A)) {i : Nat} {oi : Oper} {v : AV} (hi : ops[i]? = some oi) :
    ∀ (fuel : Nat) (listed : Array Bool) (fr : List AV) (L L1 : Heap), freeE ops md mk al st listed i oi → Closed ops md listed → i ∈ Region.ready md ops listed → H L → Ye P Γ ops H (mk i) (la i) (al i) (st i) oi fr L v L1 →
      (la i = true → Region.ready md ops (listed.setIfInBounds i true) = []) →
      anyE P Γ md ops H mk la al st K fuel (listed.setIfInBounds i true) (putA fr oi.dst v) L1 → anyE P Γ md ops H mk la al st K (fuel + 1) listed fr L := by
  intro fuel
  induction fuel with
  | zero =>
    intro listed fr L L1 _ _ hr hL hy hnd hH
    refine ⟨fun h => (by rw [h] at hr; cases hr), fun j hj => ?_⟩
    by_cases hji : j = i
    · subst hji; unfold opE; rw [hi]; exact ⟨v, L1, hy, hnd, hH⟩
    · have := ready_mono hj hji
      rw [hH.1] at this
      cases this
  | succ fuel ih =>
    intro listed fr L L1 hfree hcl hr hL hy hnd hH
    refine ⟨fun h => (by rw [h] at hr; cases hr), fun j hj => ?_⟩
    by_cases hji : j = i
    · subst hji; unfold opE; rw [hi]; exact ⟨v, L1, hy, hnd, hH⟩
    · have h1 := hH.2 j (ready_mono hj hji)
      obtain ⟨hjun, oj, hoj, hall⟩ := mem_ready.1 hj
      have hiun := (mem_ready.1 hr).1
      have hjs : j < ops.size := (Array.getElem?_eq_some_iff.1 hoj).1
      have his : i < ops.size := (Array.getElem?_eq_some_iff.1 hi).1
      have hntw : ¬ TW ops md i j := fun ht => hcl.late hiun ht hj
      have hntw' : ¬ TW ops md j i := fun ht => hcl.late hjun ht hr
      have hli : la i = false := by
        cases h : la i with
        | false => rfl
        | true => exact absurd (hla i h j hjs hji) hntw'
      have hlj : la j = false := by
        cases h : la j with
        | false => rfl
        | true => exact absurd (hla j h i his (Ne.symm hji)) hntw
      have hnot : ∀ e ∈ oj.after, Region.binds md e = true → e.on ≠ i := fun e he hb heq => by
        have h1 := hall e he hb
        rw [heq] at h1
        rcases Nat.lt_or_ge i listed.size with h' | h'
        · simp [h'] at hiun h1; rw [hiun] at h1; cases h1
        · simp [Array.getElem?_eq_none h'] at h1
      obtain ⟨hap, hmm⟩ := hfree j oj hoj hji hjun hnot
      have hmm := hmm.resolve_left hntw
      unfold opE at h1 ⊢
      rw [hoj] at h1 ⊢
      obtain ⟨u, L2, hyj, hndj, h2⟩ := h1
      rw [hli] at hy
      rw [hlj] at hyj
      obtain ⟨L3, hL3, k1, k2⟩ := hy.swap (fun h => hHa ⟨j, h⟩) hL hyj hap hmm
      refine ⟨u, L3, by rw [hlj]; exact k1, fun h => (by rw [hlj] at h; cases h), ?_⟩
      have hfree' : freeE ops md mk al st (listed.setIfInBounds j true) i oi := fun k ok hk hki hun hno => by
        refine hfree k ok hk hki ?_ hno
        by_cases hjk : j = k
        · subst hjk; exact hjun
        · rw [getD_set_ne true hjk] at hun; exact hun
      refine ih (listed.setIfInBounds j true) _ _ _ hfree' (hcl.set hj) (ready_mono hr (Ne.symm hji)) hL3 (by rw [hli]; exact k2) (fun h => by rw [hli] at h; cases h) ?_
      rw [Array.setIfInBounds_comm _ _ hji, ← putA_comm fr v u (Oper.apart_spec hap).2.1]
      exact h2
def stillAt (ops : Array Oper) (i : Nat) : Bool := match ops[i]? with | some o => stillOp o.op | none => false
def ordE (ops : Array Oper) (md : Region.Mode) (ms as ss : List Nat) : Bool := (ms ++ as).all fun i => (ms ++ as).all fun j => decide (j ≤ i) || (!as.contains i && !as.contains j && (stillAt ops i && stillAt ops j)) || (!as.contains i && as.contains j && ss.contains i) || twB ops md ms i 12 j
def lastB (ops : Array Oper) (md : Region.Mode) (lst : Bool) : Bool := !lst || (List.range (ops.size - 1)).all fun j => twB ops md [] j 12 (ops.size - 1)
def laF (ops : Array Oper) (lst : Bool) (i : Nat) : Bool := lst && decide (i + 1 = ops.size)
theorem last_ok {lst : Bool} (h : lastB ops md lst = true) : lastOk ops md (laF ops lst) := by
  intro i hi j hj hji
  simp only [laF, Bool.and_eq_true, decide_eq_true_eq] at hi
  obtain ⟨rfl, hi⟩ := hi
  simp only [lastB, Bool.not_true, Bool.false_or, List.all_eq_true, List.mem_range] at h
  have := h j (by omega)
  rw [show ops.size - 1 = i by omega] at this
  exact ⟨[], 12, this⟩
theorem free_E {ms as ss : List Nat} (hm : ordE ops md ms as ss = true) {i : Nat} {oi : Oper} {listed : Array Bool} (hi : ops[i]? = some oi) (hl : ∀ j, j < i → listed.getD j true = true) (h : Region.free md ops listed i = true) :
    freeE ops md (ms.contains ·) (as.contains ·) (ss.contains ·) listed i oi := by
  intro j oj hj hji hun hno
  refine ⟨Region.free_spec hi h j oj hj hji hun hno, ?_⟩
  have hlt : ¬ j ≤ i := fun hle => by have := hl j (by omega); rw [this] at hun; cases hun
  have key : i ∈ ms ++ as → j ∈ ms ++ as → (as.contains i = false ∧ as.contains j = false ∧ stillAt ops i = true ∧ stillAt ops j = true) ∨ (as.contains i = false ∧ as.contains j = true ∧ ss.contains i = true) ∨ TW ops md i j := by
    intro h1 h2
    simp only [ordE, List.all_eq_true, Bool.or_eq_true, decide_eq_true_eq, Bool.and_eq_true, Bool.not_eq_true'] at hm
    rcases hm i h1 j h2 with ((h3 | h3) | h3) | h3
    · exact absurd h3 hlt
    · exact .inl ⟨h3.1.1, h3.1.2, h3.2.1, h3.2.2⟩
    · exact .inr (.inl ⟨h3.1.1, h3.1.2, h3.2⟩)
    · exact .inr (.inr ⟨ms, 12, h3⟩)
  have hmem : ∀ k, (ms.contains k = true ∨ as.contains k = true) → k ∈ ms ++ as := fun k hk => by simpa [List.contains_iff_mem] using hk
  unfold pairE
  have ff : ∀ {b : Bool}, b = true → b = false → False := fun h1 h2 => by rw [h1] at h2; cases h2
  cases hai : as.contains i <;> cases haj : as.contains j
  · by_cases hmm : ms.contains i = true ∧ ms.contains j = true
    · rcases key (hmem i (.inl hmm.1)) (hmem j (.inl hmm.2)) with k | k | k
      · exact .inr (.inl ⟨hai, haj, .inr ⟨by simpa [stillAt, hi] using k.2.2.1, by simpa [stillAt, hj] using k.2.2.2⟩⟩)
      · exact (ff k.2.1 haj).elim
      · exact .inl k
    · exact .inr (.inl ⟨hai, haj, .inl hmm⟩)
  · by_cases hmi : ms.contains i = true
    · rcases key (hmem i (.inl hmi)) (hmem j (.inr haj)) with k | k | k
      · exact (ff haj k.2.1).elim
      · exact .inr (.inr (.inl ⟨hai, haj, fun _ => k.2.2⟩))
      · exact .inl k
    · exact .inr (.inr (.inl ⟨hai, haj, fun h => absurd h hmi⟩))
  · by_cases hmj : ms.contains j = true
    · rcases key (hmem i (.inr hai)) (hmem j (.inl hmj)) with k | k | k
      · exact (ff hai k.1).elim
      · exact (ff hai k.1).elim
      · exact .inl k
    · exact .inr (.inr (.inr ⟨hai, haj, by simpa using hmj⟩))
  · rcases key (hmem i (.inr hai)) (hmem j (.inr haj)) with k | k | k
    · exact (ff hai k.1).elim
    · exact (ff hai k.1).elim
    · exact .inl k
def orLast (lst : Bool) (r : List Oper) (p : Prop) : Prop := match lst, r with
  | true, [] => True
  | _, _ => p
theorem orLast_f (r : List Oper) (p : Prop) : orLast false r p = p := by cases r <;> rfl
theorem orLast_c (l : Bool) (o : Oper) (r : List Oper) (p : Prop) : orLast l (o :: r) p = p := by cases l <;> rfl
theorem orLast_t (p : Prop) : orLast true [] p = True := rfl
theorem orLast_iff {l : Bool} {r : List Oper} {p : Prop} (h : orLast l r p) : (l && r.isEmpty) = false → p := by
  cases l <;> cases r <;> simp_all [orLast]
def evE (P : Program) (Γ : Env) (all : List Oper) (H : Heap → Prop) (ms as ss : List Nat) (lst : Bool) : Nat → List Oper → List AV → Heap → (List AV → Heap → Prop) → Prop
  | _, [], fr, L, K => K fr L
  | k, o :: r, fr, L, K =>
    guardOk all fr o.guard ∧
    if as.contains k then isAl o = true ∧ (stepA P Γ all (guardC all fr o.guard) fr L o).pre ∧ H (stepA P Γ all (guardC all fr o.guard) fr L o).L ∧
      evE P Γ all H ms as ss lst (k + 1) r (putA fr o.dst (mkV o.guard (guardC all fr o.guard) (stepA P Γ all (guardC all fr o.guard) fr L o).v)) (stepA P Γ all (guardC all fr o.guard) fr L o).L K
    else if ms.contains k then (stepA P Γ all (guardC all fr o.guard) fr L o).pre ∧ (if ss.contains k then stabE P Γ all (guardC all fr o.guard) fr L o else True) ∧ orLast lst r (H (stepA P Γ all (guardC all fr o.guard) fr L o).L) ∧
      evE P Γ all H ms as ss lst (k + 1) r (putA fr o.dst (mkV o.guard (guardC all fr o.guard) (stepA P Γ all (guardC all fr o.guard) fr L o).v)) (stepA P Γ all (guardC all fr o.guard) fr L o).L K
    else qob H (fun G => (stepA P Γ all (guardC all fr o.guard) fr G o).pre ∧ (stepA P Γ all (guardC all fr o.guard) fr G o).L = G ∧ (stepA P Γ all (guardC all fr o.guard) fr G o).v = (stepA P Γ all (guardC all fr o.guard) fr L o).v) ∧
      evE P Γ all H ms as ss lst (k + 1) r (putA fr o.dst (mkV o.guard (guardC all fr o.guard) (stepA P Γ all (guardC all fr o.guard) fr L o).v)) L K
theorem anyE_lex {H : Heap → Prop} {ms as ss : List Nat} {lst : Bool} {K : List AV → Heap → Prop} (hH : (∃ i, as.contains i = true) → ∀ G A, H G → H (G ++ A)) (hm : ordE ops md ms as ss = true) (hla : lastB ops md lst = true) : ∀ (l : List Oper) (k : Nat) (listed : Array Bool) (fr : List AV) (L : Heap), (∀ j, l[j]? = ops[k + j]?) → k + l.length = ops.size → (∀ j, j < k → listed.getD j true = true) → (∀ j o, k ≤ j → ops[j]? = some o → listed.getD j true = false) →
    Region.lexFrom md ops l.length k listed = true → (l = [] ∨ H L) → evE P Γ ops.toList H ms as ss lst k l fr L K → anyE P Γ md ops H (ms.contains ·) (laF ops lst) (as.contains ·) (ss.contains ·) K l.length listed fr L
  | [], _, _, _, _, _, _, _, _, hB, _, h => ⟨by simpa [Region.lexFrom] using hB, h⟩
  | o :: l, k, listed, fr, L, hl, hn, hk, hu, hB, hL, h => by
    have hL : H L := by rcases hL with hL | hL; cases hL; exact hL
    have h0 : ops[k]? = some o := by simpa using (hl 0).symm
    simp only [List.length_cons, Region.lexFrom, Bool.and_eq_true] at hB
    obtain ⟨⟨hr, hf⟩, hB'⟩ := hB
    obtain ⟨hg, h⟩ := h
    have hk' : ∀ j, j < k + 1 → (listed.setIfInBounds k true).getD j true = true := fun j hj => by
      by_cases hjk : k = j
      · subst hjk
        rcases Nat.lt_or_ge k listed.size with h' | h'
        · simp [h']
        · simp [Array.getElem?_eq_none h']
      · rw [getD_set_ne true hjk]; exact hk j (by omega)
    have hu' : ∀ j o, k + 1 ≤ j → ops[j]? = some o → (listed.setIfInBounds k true).getD j true = false := fun j o' hj ho => by
      rw [getD_set_ne true (show k ≠ j by omega)]; exact hu j o' (by omega) ho
    have hcl : Closed ops md listed := fun a b ha hab => by
      obtain ⟨o', e, ho', _⟩ := hab.step
      refine hu b o' ?_ ho'
      rcases Nat.lt_or_ge a k with h' | h'
      · rw [hk a h'] at ha; cases ha
      · have := hab.lt; omega
    have hl' : ∀ j, l[j]? = ops[k + 1 + j]? := fun j => by have := hl (j + 1); simpa [Nat.add_assoc, Nat.add_comm 1 j] using this
    have hn' : k + 1 + l.length = ops.size := by simp only [List.length_cons] at hn; omega
    have hlk : laF ops lst k = (lst && l.isEmpty) := by
      unfold laF
      cases l with
      | nil => simp only [List.length_nil] at hn'; simp [show k + 1 = ops.size by omega]
      | cons a l => simp only [List.length_cons] at hn'; simp [show ¬ k + 1 = ops.size by omega]
    have hnd : laF ops lst k = true → Region.ready md ops (listed.setIfInBounds k true) = [] := fun hlast => by
      rw [hlk, Bool.and_eq_true] at hlast
      obtain rfl : l = [] := by simpa using hlast.2
      simpa [Region.lexFrom] using hB'
    cases hak : as.contains k with
    | true =>
      rw [hak] at h
      simp only [if_true] at h
      have hlk' : laF ops lst k = true → l = [] := fun hh => by
        rw [hlk, Bool.and_eq_true] at hh; simpa using hh.2
      exact anyE_first (last_ok hla) hH h0 l.length listed fr L _ (free_E hm h0 hk hf) hcl (by simpa using hr) hL (by unfold Ye; rw [hak]; exact ⟨hg, by simp only [if_true]; exact ⟨h.1, h.2.1, trivial, trivial, h.2.2.1⟩⟩) hnd
        (anyE_lex hH hm hla l (k + 1) _ _ _ hl' hn' hk' hu' hB' (.inr h.2.2.1) h.2.2.2)
    | false =>
      rw [hak] at h
      simp only [Bool.false_eq_true, if_false] at h
      cases hmk : ms.contains k with
      | true =>
        rw [hmk] at h
        simp only [if_true] at h
        refine anyE_first (last_ok hla) hH h0 l.length listed fr L _ (free_E hm h0 hk hf) hcl (by simpa using hr) hL (by
            unfold Ye; rw [hmk, hlk, hak]
            refine ⟨hg, ?_⟩
            simp only [Bool.false_eq_true, if_false, if_true]
            exact ⟨h.1, trivial, trivial, orLast_iff h.2.2.1, fun hs => by have := h.2.1; rw [hs] at this; simpa using this⟩) hnd
          (anyE_lex hH hm hla l (k + 1) _ _ _ hl' hn' hk' hu' hB' ?_ h.2.2.2)
        cases l with
        | nil => exact .inl rfl
        | cons a l => exact .inr (orLast_iff h.2.2.1 (by simp))
      | false =>
        rw [hmk] at h
        simp only [Bool.false_eq_true, if_false] at h
        exact anyE_first (last_ok hla) hH h0 l.length listed fr L L (free_E hm h0 hk hf) hcl (by simpa using hr) hL (by
            unfold Ye; rw [hmk, hak]
            refine ⟨hg, ?_⟩
            simp only [Bool.false_eq_true, if_false, true_and]
            exact fun G hG => ⟨(h.1 G hG).1, (h.1 G hG).2.1, by rw [(h.1 G hG).2.2]⟩) hnd
          (anyE_lex hH hm hla l (k + 1) _ _ _ hl' hn' hk' hu' hB' (.inr hL) h.2)
theorem opE_sound {R : Option Nat} (hΓ : EnvOk P Γ) {B : Base} {H : Heap → Prop} {mk la al st : Nat → Bool} {i : Nat} {nd : Prop} {K : List AV → Heap → Prop} {K' : Act → World → Prop} {Q : Exit → Act → World → Prop} (hK : ∀ fr L m a w, H L ∨ nd → K fr L → RS B fr L m a w → K' a w)
    {fr : List AV} {L : Heap} {m : Mem} {a : Act} {w : World} (hL : H L) (h : opE P Γ ops H mk la al st i nd K fr L) (hR : RS B fr L m a w) : wpOpIn (fenceR R) 0 P ops Q i K' a w := by
  unfold opE at h
  unfold wpOpIn
  split
  · rename_i ho; rw [ho] at h; exact hK _ _ _ _ _ (.inl hL) h hR
  · rename_i o ho
    rw [ho] at h
    obtain ⟨v, L', hy, hnd, h⟩ := h
    have hL' : H L' ∨ nd := by
      cases hl : la i with
      | true => exact .inr (hnd hl)
      | false => rw [hl] at hy; exact .inl (hy.keeps hL)
    unfold Ye at hy
    obtain ⟨hg, hy⟩ := hy
    have hstep : (stepA P Γ ops.toList (guardC ops.toList fr o.guard) fr L o).pre ∧ L' = (stepA P Γ ops.toList (guardC ops.toList fr o.guard) fr L o).L ∧ v = mkV o.guard (guardC ops.toList fr o.guard) (stepA P Γ ops.toList (guardC ops.toList fr o.guard) fr L o).v := by
      cases ha : al i with
      | true => rw [ha] at hy; simp only [if_true] at hy; exact ⟨hy.2.1, hy.2.2.2.1, hy.2.2.1⟩
      | false =>
        rw [ha] at hy; simp only [Bool.false_eq_true, if_false] at hy
        cases hm : mk i with
        | true => rw [hm] at hy; simp only [if_true] at hy; exact ⟨hy.1, hy.2.2.1, hy.2.1⟩
        | false =>
          rw [hm] at hy; simp only [Bool.false_eq_true, if_false] at hy
          obtain ⟨h1, h2, h3⟩ := hy.2 L hL
          exact ⟨h1, by rw [h2]; exact hy.1, h3⟩
    obtain ⟨hp, rfl, rfl⟩ := hstep
    have := step_sound (P := P) (Γ := Γ) (R := R) hΓ hR.wrel hR.frel ops o (next := K') (Q := Q) hg hp fun a' w' m' k1 k2 k3 k4 => hK _ _ _ _ _ hL' h ⟨k1, k2, hR.ext.trans k3, by rw [k4, hR.defers]⟩
    split
    · rename_i hw; rw [if_pos hw] at this; exact this
    · rename_i hw; rw [if_neg hw] at this; exact this
theorem anyE_sound {R : Option Nat} (hΓ : EnvOk P Γ) {B : Base} {H : Heap → Prop} {mk la al st : Nat → Bool} {K : List AV → Heap → Prop} {Q : Exit → Act → World → Prop} (hK : ∀ fr L m a w, K fr L → RS B fr L m a w → Q .normal a w) :
    ∀ (fuel : Nat) (listed : Array Bool) (fr : List AV) (L : Heap) (m : Mem) (a : Act) (w : World), H L ∨ Region.ready md ops listed = [] → anyE P Γ md ops H mk la al st K fuel listed fr L → RS B fr L m a w → wpAnyIn (fenceR R) 0 P md ops Q fuel listed a w
  | 0, _, _, _, _, _, _, _, h, hR => ⟨h.1, hK _ _ _ _ _ h.2 hR⟩
  | fuel + 1, listed, _, L, _, _, _, hL, h, hR => by
    refine ⟨fun h0 => hK _ _ _ _ _ (h.1 h0) hR, fun i hi => ?_⟩
    rcases hL with hL | hL
    · exact opE_sound hΓ (fun fr' L' m' a' w' hL' h' hR' => anyE_sound hΓ hK fuel _ fr' L' m' a' w' hL' h' hR') hL (h.2 i hi) hR
    · rw [hL] at hi; cases hi
end
theorem Holds.drawnE {X : Cx} {id : Nat} {ops : Array Oper} {k : List It} {fr : List AV} {L : Heap} (H : Heap → Prop) (ms as ss : List Nat) (lst : Bool) (hm : X.P.follows .mixedOrders = true) (hB : Region.lexB .any ops = true) (ho : ordE ops .any ms as ss = true) (hla : lastB ops .any lst = true) (hH : as = [] ∨ ∀ G A, H G → H (G ++ A)) (hL : H L)
    (h : evE X.P X.Γ ops.toList H ms as ss lst 0 ops.toList fr L (Holds X k)) : Holds X (.code (.region id ops true) :: k) fr L := by
  intro m a w hR
  simp only [W]
  simp only [Region.lexB, Bool.and_eq_true] at hB
  refine wpIn_region_any hm ?_
  have hR' : RS X.B fr L m a { w with drawn := w.drawn + 1 } := hR.drew
  have := anyE_lex (P := X.P) (Γ := X.Γ) (md := .any) (ops := ops) (K := Holds X k) (fun ⟨i, hi⟩ => by rcases hH with hH | hH; subst hH; simp at hi; exact hH) ho hla ops.toList 0 (Array.replicate ops.size false) fr L (by simp) (by simp) (fun j hj => by omega) (fun j o hj ho => by have := (Array.getElem?_eq_some_iff.1 ho).1; simp [this]) (by simpa using hB.2) (.inr hL) h
  have h2 := anyE_sound (R := X.R) (md := .any) (Q := W X.P X.R X.B X.Q k) X.ok (fun fr L m a w hk hR => hk m a w hR) _ _ fr L m a _ (.inl hL) this hR'
  simpa using h2
attribute [push_cast] evE stabE isAl orLast_f orLast_c orLast_t
end Go.Eng
end
section
namespace Go.Eng
open Go
mutual
def softV : AV → AV
  | .lit (.slice none 0 0) => .sl [] 0
  | .agg cs => .agg (softL cs)
  | .tup cs => .tup (softL cs)
  | x => x
def softL : List AV → List AV
  | [] => []
  | x :: xs => softV x :: softL xs
end
mutual
theorem VRel.soft {m : Mem} {L : Heap} : ∀ (x : AV) (u : Value), VRel m L x u → VRel m L (softV x) u
  | .lit v, u, h => by
    by_cases hv : v = .slice none 0 0
    · subst hv
      simp only [VRel, softV] at *
      exact ⟨none, 0, h, Nat.le_refl _, [], CRel.nil _ _, .inl rfl⟩
    · have e : softV (.lit v) = .lit v := by
        unfold softV
        split <;> simp_all
      rw [e]; exact h
  | .agg cs, u, h => by
    simp only [VRel, softV] at *
    obtain ⟨us, rfl, hc⟩ := h
    exact ⟨us, rfl, CRel.soft cs us hc⟩
  | .tup cs, u, h => by
    simp only [VRel, softV] at *
    obtain ⟨us, rfl, hc⟩ := h
    exact ⟨us, rfl, CRel.soft cs us hc⟩
  | .any, _, h => h
  | .int .., _, h => h
  | .bool _, _, h => h
  | .str _, _, h => h
  | .sl .., _, h => h
  | .msl .., _, h => h
  | .ref .., _, h => h
  | .ip _, _, h => h
  | .fn .., _, h => h
  | .ifc .., _, h => h
  | .when .., _, h => h
  | .alt .., _, h => h
  | .ub .., _, h => h
  | .csl .., _, h => h
  | .mp .., _, h => h
  | .mpr .., _, h => h
theorem CRel.soft {m : Mem} {L : Heap} : ∀ (cs : List AV) (us : List Value), CRel m L cs us → CRel m L (softL cs) us
  | [], _, h => by simpa only [softL] using h
  | c :: cs, us, h => by
    simp only [CRel, softL] at *
    obtain ⟨u, us', rfl, h1, h2⟩ := h
    exact ⟨u, us', rfl, VRel.soft c u h1, CRel.soft cs us' h2⟩
end
theorem softL_length : ∀ cs : List AV, (softL cs).length = cs.length
  | [] => by simp only [softL]
  | c :: cs => by simp only [softL, List.length_cons, softL_length cs]
theorem softV_nil : softV (.lit (.slice none 0 0)) = .sl [] 0 := by simp only [softV]
theorem softV_tup (cs : List AV) : softV (.tup cs) = .tup (softL cs) := by simp only [softV]
theorem softV_int (k : IntKind) (n : Int) : softV (.int k n) = .int k n := by simp only [softV]
theorem softL_nil : softL [] = [] := by simp only [softL]
theorem softL_cons (x : AV) (xs : List AV) : softL (x :: xs) = softV x :: softL xs := by simp only [softL]
theorem IntoF.soft {L0 : Heap} {fr : List AV} {L : Heap} {S : List AV × Heap} (h : IntoF L0 (softL fr) L S) : IntoF L0 fr L S := .sem (fun m us => CRel.soft fr us) h
theorem IntoF.softH {L0 : Heap} {fr : List AV} {L : Heap} {S : List AV × Heap} (id : Nat) {cs : List AV} {sz v : Nat} (hL : L[id]? = some (.row cs sz v)) (h : IntoF L0 fr (L.set id (.row (softL cs) sz v)) S) : IntoF L0 fr L S := .recell id (softL cs) hL (softL_length cs) (fun m us => CRel.soft cs us) h
attribute [push_cast] softV_nil softV_tup softV_int softL_nil softL_cons
theorem Holds.recell {X : Cx} {k : List It} {fr : List AV} {L : Heap} (id : Nat) (cs' : List AV) {cs : List AV} {sz v : Nat} (hL : L[id]? = some (.row cs sz v)) (hl : cs'.length = cs.length) (hc : ∀ m us, CRel m L cs us → CRel m L cs' us)
    (h : Holds X k fr (L.set id (.row cs' sz v))) : Holds X k fr L := fun m a w hR =>
  h m a w ⟨hR.wrel.recell hL hl (hc m), CRel.mono (recell_mono hL hl) _ _ hR.frel, hR.ext.recell hL hl, hR.defers⟩
theorem Holds.nilH {X : Cx} {k : List It} {fr : List AV} {L : Heap} (id j sz' : Nat) {cs : List AV} {sz v : Nat} (hL : L[id]? = some (.row cs sz v)) (hj : cs.getD j .any = .lit (.slice none 0 0))
    (h : Holds X k fr (L.set id (.row (cs.set j (.msl L.length 0 0 0)) sz v) ++ [.row [] sz' 0])) : Holds X k fr L := by
  intro m a w hR
  have hlt := (List.getElem?_eq_some_iff.1 hL).1
  have hL1 : (L ++ [AObj.row [] sz' 0])[id]? = some (.row cs sz v) := by rw [List.getElem?_append_left hlt]; exact hL
  have e : L.set id (.row (cs.set j (.msl L.length 0 0 0)) sz v) ++ [AObj.row [] sz' 0] = (L ++ [AObj.row [] sz' 0]).set id (.row (cs.set j (.msl L.length 0 0 0)) sz v) := by
    rw [List.set_append_left _ _ hlt]
  rw [e] at h
  have hjl : j < cs.length := by
    rcases Nat.lt_or_ge j cs.length with h' | h'
    · exact h'
    · simp [List.getD, List.getElem?_eq_none h'] at hj
  have hW1 := hR.wrel.nil (sz := sz')
  have hE1 := hR.ext.nil (sz := sz')
  have hc1 := CRel.mono (nil_mono (m := m) (L := L) (sz := sz')) _ _ hR.frel
  have hv : VRel (nilM m L.length) (L ++ [AObj.row [] sz' 0]) (.msl L.length 0 0 0) (.slice none 0 0) := by
    simp only [VRel]
    exact ⟨[], sz', 0, by simp, Nat.le_refl _, ⟨none, 0, 0, rfl⟩, fun _ => ⟨by simp, by simp, none, by simp [nilM], .inl (by simp [nilM])⟩⟩
  have hcell : ∀ us, CRel (nilM m L.length) (L ++ [AObj.row [] sz' 0]) cs us → CRel (nilM m L.length) (L ++ [AObj.row [] sz' 0]) (cs.set j (.msl L.length 0 0 0)) us := by
    intro us hcs
    refine CRel.mk (by simp [hcs.length]) fun i c u hi hu => ?_
    rw [List.getElem?_set] at hi
    by_cases hij : j = i
    · subst hij
      simp [hjl] at hi
      subst hi
      have := hcs.getD j
      rw [hj] at this
      simp only [VRel] at this
      simp [List.getD, hu] at this
      rw [this]; exact hv
    · simp [hij] at hi
      obtain ⟨u1, hu1, hr1⟩ := hcs.get i c hi
      rw [hu] at hu1; obtain rfl := Option.some.inj hu1; exact hr1
  exact h _ a w ⟨hW1.recell hL1 (by simp) hcell, CRel.mono (recell_mono hL1 (by simp)) _ _ hc1, hE1.recell hL1 (by simp), hR.defers⟩
inductive Pt where
  | fix (o : AObj)
  | row (sz ver : Nat)
  | len (n sz ver : Nat)
  | any
def patH : List Pt → Heap → Prop
  | [], _ => True
  | .fix o :: ps, G => ∃ G', G = o :: G' ∧ patH ps G'
  | .row sz v :: ps, G => ∃ cs G', G = .row cs sz v :: G' ∧ patH ps G'
  | .len n sz v :: ps, G => ∃ cs G', cs.length = n ∧ G = .row cs sz v :: G' ∧ patH ps G'
  | .any :: ps, G => ∃ o G', G = o :: G' ∧ patH ps G'
theorem qob_p0 (f : Heap → Prop) : qob (patH []) f = ∀ A, f A := propext ⟨fun h A => h A trivial, fun h A _ => h A⟩
theorem qob_p1 (o : AObj) (ps : List Pt) (f : Heap → Prop) : qob (patH (.fix o :: ps)) f = qob (patH ps) (fun G => f (o :: G)) := propext ⟨fun h G hG => h _ ⟨G, rfl, hG⟩, fun h G ⟨G', e, hG⟩ => e ▸ h G' hG⟩
theorem qob_p2 (sz v : Nat) (ps : List Pt) (f : Heap → Prop) : qob (patH (.row sz v :: ps)) f = ∀ cs, qob (patH ps) (fun G => f (.row cs sz v :: G)) := propext ⟨fun h cs G hG => h _ ⟨cs, G, rfl, hG⟩, fun h G ⟨cs, G', e, hG⟩ => e ▸ h cs G' hG⟩
theorem qob_p4 (ps : List Pt) (f : Heap → Prop) : qob (patH (.any :: ps)) f = ∀ o, qob (patH ps) (fun G => f (o :: G)) := propext ⟨fun h o G hG => h _ ⟨o, G, rfl, hG⟩, fun h G ⟨o, G', e, hG⟩ => e ▸ h o G' hG⟩
theorem patH_4 (o : AObj) (ps : List Pt) (G : Heap) : patH (.any :: ps) (o :: G) = patH ps G := propext ⟨fun ⟨_, _, h, h'⟩ => by cases h; exact h', fun h => ⟨_, _, rfl, h⟩⟩
theorem patH_0 (G : Heap) : patH [] G = True := rfl
theorem patH_1 (o : AObj) (ps : List Pt) (G : Heap) : patH (.fix o :: ps) (o :: G) = patH ps G := by simp [patH]
theorem patH_2 (cs : List AV) (sz v : Nat) (ps : List Pt) (G : Heap) : patH (.row sz v :: ps) (.row cs sz v :: G) = patH ps G := propext ⟨fun ⟨_, _, h, h'⟩ => by cases h; exact h', fun h => ⟨_, _, rfl, h⟩⟩
theorem patH_3 (n : Nat) (cs : List AV) (sz v : Nat) (ps : List Pt) (G : Heap) : patH (.len n sz v :: ps) (.row cs sz v :: G) = (cs.length = n ∧ patH ps G) := propext ⟨fun ⟨_, _, hl, h, h'⟩ => by cases h; exact ⟨hl, h'⟩, fun h => ⟨_, _, h.1, rfl, h.2⟩⟩
theorem patH_app : ∀ (ps : List Pt) {G : Heap} (A : Heap), patH ps G → patH ps (G ++ A)
  | [], _, _, _ => trivial
  | .fix o :: ps, _, A, ⟨G', e, h⟩ => ⟨G' ++ A, by rw [e]; rfl, patH_app ps A h⟩
  | .row sz v :: ps, _, A, ⟨cs, G', e, h⟩ => ⟨cs, G' ++ A, by rw [e]; rfl, patH_app ps A h⟩
  | .len n sz v :: ps, _, A, ⟨cs, G', hl, e, h⟩ => ⟨cs, G' ++ A, hl, by rw [e]; rfl, patH_app ps A h⟩
  | .any :: ps, _, A, ⟨o, G', e, h⟩ => ⟨o, G' ++ A, by rw [e]; rfl, patH_app ps A h⟩
attribute [push_cast] qob_p0 qob_p1 qob_p2 qob_p4 patH_0 patH_1 patH_2 patH_3 patH_4
structure HSpec where
  ids : List AV → Heap → List Nat
  args : List AV → Heap → List AV
  start : List AV → Heap → Heap
  pre : List AV → Heap → Prop
  res : List AV → Heap → AV
  post : List AV → Heap → Heap
def liftH (g : HSpec) : FSpec where
  pre xs L := (∀ x ∈ xs, lentG L (g.ids xs L) x) ∧ (g.ids xs L).Nodup ∧ xs.map (derefG L (g.ids xs L)) = renL (fun j => (g.ids xs L).getD j j) (g.args xs L) ∧
    ((g.ids xs L).map fun i => L[i]?) = ((g.start xs L).map fun o => some (renO (fun j => (g.ids xs L).getD j j) o)) ∧ scpL (g.start xs L).length (g.args xs L) = true ∧ (g.start xs L).all (scpO (g.start xs L).length) = true ∧
    g.pre (g.args xs L) (g.start xs L) ∧ (xs.any (isMslG L (g.ids xs L)) = true → pinfreeT (g.res (g.args xs L) (g.start xs L)) = true ∧ (g.post (g.args xs L) (g.start xs L)).all pinfreeO = true)
  res xs L := ren (rhoG (g.ids xs L) L.length) (g.res (g.args xs L) (g.start xs L))
  post xs L := placeG (g.ids xs L) L (g.post (g.args xs L) (g.start xs L))
  quiet := false
section
variable {P : Program} {Γ : Env}
open Classical in
theorem Con.liftH {f : FuncId} (hfn : ∃ fn, P.funcs[f]? = some fn ∧ fn.body.isNone = false ∧ (fn.name == "runtime.NumGoroutine") = false) {g : HSpec}
    (h : ∀ (m : Mem) (L : Heap) (w : World) (xs : List AV) (vs : List Value), WRel m L w → CRel m L xs vs → g.pre xs L → Calls P f vs.toArray w (Post m L w (g.res xs L) (g.post xs L))) : Con P f (Eng.liftH g) where
  quiet hq := by cases hq
  runs := .inl ⟨hfn, fun m L w xs vs hW hx hp => by
    obtain ⟨h1, h2, h3, h4, h5, h6, h7, h8⟩ := hp
    obtain ⟨ids, hids⟩ : ∃ ids, ids = g.ids xs L := ⟨_, rfl⟩
    rw [← hids] at h1 h2 h3 h4 h8
    obtain ⟨mp, hmp⟩ : ∃ mp : Mem, mp = if xs.any (isMslG L ids) = true then { m with pobj := fun g => if (∃ i ∈ ids, Own m L i ∧ m.blk i = g) ∨ (∃ i ∈ ids, Hid m L i g) then none else w.heap[g]? } else m := ⟨_, rfl⟩
    have hpin : ∀ g o, m.pobj g = some o → mp.pobj g = some o := by
      intro g o hv
      rw [hmp]
      split
      · simp only
        rw [if_neg]
        · exact hW.pobjs _ _ hv
        · rintro (⟨i, hi, ho, rfl⟩ | ⟨i, hi, hk⟩)
          · have := hW.freeo i ho
            rw [hv] at this; cases this
          · have := hW.hid.free i _ hk
            rw [hv] at this; cases this
      · exact hv
    have hblk : mp.blk = m.blk ∧ mp.cap = m.cap := by rw [hmp]; split <;> exact ⟨rfl, rfl⟩
    have hpins : ∀ g o, mp.pobj g = some o → w.heap[g]? = some o := by
      intro g o hv
      rw [hmp] at hv
      split at hv
      · simp only at hv
        split at hv
        · cases hv
        · exact hv
      · exact hW.pobjs _ _ hv
    have hfree : ∀ i ∈ ids, Own m L i → mp.pobj (m.blk i) = none := by
      intro i hi ho
      rw [hmp]
      split
      · simp only
        rw [if_pos (.inl ⟨i, hi, ho, rfl⟩)]
      · exact hW.freeo i ho
    have M : Mono m L mp L := ⟨hpin, fun id cs sz ver h => ⟨cs, ver, h, Nat.le_refl _, fun _ => ⟨rfl, by rw [hblk.1], by rw [hblk.2]⟩⟩, fun id r h => ⟨r, h, by rw [hblk.1]⟩⟩
    have hx' : CRel mp L (xs.map (derefG L ids)) vs := (subA hW M (keep := keepG ids) (full := xs.any (isMslG L ids) = true) fun hf g hno hnh => by
      rw [hmp, if_pos hf]
      simp only
      rw [if_neg]
      rintro (⟨i, hi, ho, he⟩ | ⟨i, hi, hk⟩)
      · exact hno i (by simp [keepG, hi]) ho he
      · exact hnh i (by simp [keepG, hi]) hk).list hx h1 (fun h => h)
    have hw : Weak 0 ids (xs.map (derefG L ids)) L (g.args xs L) (g.start xs L) := ⟨by rw [h3]; exact leF_refl _, h4, h2, rfl, h5, h6⟩
    have H := hw.renamed mp
    have hc0 := CRel.ren H _ _ (by rw [← h3]; exact hx') h5
    obtain ⟨mb, hmb⟩ : ∃ mb : Mem, mb = { mp with blk := fun i => mp.blk (ids.getD i i), cap := fun i => mp.cap (ids.getD i i) } := ⟨_, rfl⟩
    rw [← hmb] at H hc0
    have hgd : ∀ j, j < ids.length → ids.getD j j = ids.getD j 0 := fun j hj => by simp [List.getD, hj]
    have HL : Lent m mb L (g.start xs L) ids := ⟨h2, h4, fun j hj => by rw [hmb]; simp only [hblk.1, hgd j hj], fun j hj => by rw [hmb]; simp only [hblk.2, hgd j hj], fun g o hv => by rw [hmb]; exact hpin g o hv⟩
    have hfreeH : ∀ i ∈ ids, ∀ g, Hid m L i g → mp.pobj g = none := by
      intro i hi g hk
      rw [hmp]
      split
      · simp only
        rw [if_pos (.inr ⟨i, hi, hk⟩)]
      · exact hW.hid.free i g hk
    have hW0 : WRel mb (g.start xs L) w := by
      have hs' : ∀ o ∈ g.start xs L, scpO (g.start xs L).length o = true := by simpa [List.all_eq_true] using h6
      refine ⟨hW.glob.mono fun g o hv => by rw [hmb]; exact hpin g o hv, fun g o hv => hpins g o (by rw [hmb] at hv; exact hv), fun j cs sz ver hL hc => ?_, fun j cs sz ver hL hc => ?_, fun j r hL => ?_, fun i j hi hj he => ?_, fun j ho => ?_, ⟨fun j T e l hL => ?_, fun j g k => ?_, fun j g k i hi => ?_, fun i j g k1 k2 => ?_⟩⟩
      · obtain ⟨k1, k2⟩ := HL.at hL
        rw [HL.cap j k1] at hc ⊢
        obtain ⟨us, rest, elem, lo, hi, q1, q2, q3, q4⟩ := hW.rows _ _ _ _ k2 hc
        have hscp := hs' _ (List.mem_of_getElem? hL)
        exact ⟨us, rest, elem, lo, hi, by rw [HL.blk j k1]; exact q1, CRel.ren H _ _ (CRel.mono M _ _ q2) (by simpa [scpO] using hscp), q3, q4⟩
      · obtain ⟨k1, k2⟩ := HL.at hL
        rw [HL.cap j k1] at hc
        have := hW.nils _ _ _ _ k2 hc
        rw [renL_eq] at this
        simpa using this
      · obtain ⟨k1, k2⟩ := HL.at hL
        rw [HL.blk j k1]; exact hW.iters _ _ k2
      · obtain ⟨a1, a2, a3⟩ := HL.own hi
        obtain ⟨b1, b2, b3⟩ := HL.own hj
        exact getD_inj h2 a1 b1 (hW.inj _ _ a2 b2 (by omega))
      · obtain ⟨a1, a2, a3⟩ := HL.own ho
        rw [a3, hmb]
        exact hfree _ (getD_mem a1) a2
      · obtain ⟨k1, k2⟩ := HL.at hL
        rw [HL.blk j k1, HL.cap j k1]; exact hW.hid.at_ _ _ _ _ k2
      · obtain ⟨a1, a2⟩ := HL.hid k
        rw [hmb]; exact hfreeH _ (getD_mem a1) g a2
      · obtain ⟨a1, a2⟩ := HL.hid k
        obtain ⟨b1, b2, b3⟩ := HL.own hi
        rw [b3]; exact hW.hid.own _ _ a2 _ b2
      · obtain ⟨a1, a2⟩ := HL.hid k1
        obtain ⟨b1, b2⟩ := HL.hid k2
        exact getD_inj h2 a1 b1 (hW.hid.inj _ _ _ a2 b2)
    have := (h mb (g.start xs L) w (g.args xs L) vs hW0 hc0 h7).mono fun e w' hpost => post_place hW HL (xs.any (isMslG L ids)) (fun hf => by rw [hmb, hmp, hf]; rfl) hpost h8
    rw [hids] at this
    exact this⟩
theorem Con.liftH_of_body (hΓ : EnvOk P Γ) {f : FuncId} {fn : Func} (hf : P.funcs[f]? = some fn) (hb : fn.body.isNone = false) (hn : (fn.name == "runtime.NumGoroutine") = false) {g : HSpec}
    (h : ∀ xs L, g.pre xs L → BodyOk P Γ fn xs L (g.res xs L) (g.post xs L)) : Con P f (Eng.liftH g) :=
  Con.liftH ⟨fn, hf, hb, hn⟩ fun m L w xs vs hW hx hp => calls_of_body hΓ hf (h xs L hp) hW hx
end
mutual
def refsV : AV → List Nat
  | .ref id _ _ => [id]
  | .fn _ a b => refsL a ++ refsL b
  | .agg cs => refsL cs
  | _ => []
def refsL : List AV → List Nat
  | [] => []
  | x :: xs => refsV x ++ refsL xs
end
def refsW : List AV → List Nat
  | [] => []
  | .msl id _ _ _ :: xs => id :: refsW xs
  | .ref id _ _ :: xs => id :: refsW xs
  | .mp id :: xs => id :: refsW xs
  | _ :: xs => refsW xs
def refsO (deep : Bool) (L : Heap) (id : Nat) : List Nat := match L[id]? with
  | some (.row cs _ _) => cond deep (refsW cs) (refsL cs)
  | _ => []
def inL : List Nat → Nat → Bool
  | [], _ => false
  | i :: is, j => i == j || inL is j
def addNew : List Nat → List Nat → List Nat
  | is, [] => is
  | is, j :: js => cond (inL is j) (addNew is js) (addNew (is ++ [j]) js)
def newOf : List Nat → List Nat → List Nat
  | _, [] => []
  | is, j :: js => cond (inL is j) (newOf is js) (j :: newOf is js)
def idxL : List Nat → Nat → Nat
  | [], _ => 0
  | i :: is, j => cond (i == j) 0 (idxL is j + 1)
def reachF (deep : Bool) (L : Heap) : Nat → List Nat → List Nat → List Nat
  | 0, is, _ => is
  | _ + 1, is, [] => is
  | n + 1, is, q :: qs => reachF deep L n (addNew is (refsO deep L q)) (qs ++ newOf is (refsO deep L q))
def reach (deep : Bool) (xs : List AV) (L : Heap) : List Nat := reachF deep L 9 (addNew [] (refsL xs)) (addNew [] (refsL xs))
theorem inL_nil (j : Nat) : inL [] j = false := rfl
theorem inL_cons (i j : Nat) (is : List Nat) : inL (i :: is) j = (i == j || inL is j) := rfl
theorem addNew_nil (is : List Nat) : addNew is [] = is := rfl
theorem addNew_cons (is js : List Nat) (j : Nat) : addNew is (j :: js) = cond (inL is j) (addNew is js) (addNew (is ++ [j]) js) := rfl
theorem newOf_nil (is : List Nat) : newOf is [] = [] := rfl
theorem newOf_cons (is js : List Nat) (j : Nat) : newOf is (j :: js) = cond (inL is j) (newOf is js) (j :: newOf is js) := rfl
theorem idxL_nil (j : Nat) : idxL [] j = 0 := rfl
theorem idxL_cons (i j : Nat) (is : List Nat) : idxL (i :: is) j = cond (i == j) 0 (idxL is j + 1) := rfl
theorem reach_at (deep : Bool) (xs : List AV) (L : Heap) : reach deep xs L = reachF deep L 9 (addNew [] (refsL xs)) (addNew [] (refsL xs)) := rfl
theorem reachF_nil (deep : Bool) (L : Heap) (n : Nat) (is : List Nat) : reachF deep L n is [] = is := by cases n <;> rfl
theorem reachF_9 (deep : Bool) (L : Heap) (is qs : List Nat) (q : Nat) : reachF deep L 9 is (q :: qs) = reachF deep L 8 (addNew is (refsO deep L q)) (qs ++ newOf is (refsO deep L q)) := rfl
theorem reachF_8 (deep : Bool) (L : Heap) (is qs : List Nat) (q : Nat) : reachF deep L 8 is (q :: qs) = reachF deep L 7 (addNew is (refsO deep L q)) (qs ++ newOf is (refsO deep L q)) := rfl
theorem reachF_7 (deep : Bool) (L : Heap) (is qs : List Nat) (q : Nat) : reachF deep L 7 is (q :: qs) = reachF deep L 6 (addNew is (refsO deep L q)) (qs ++ newOf is (refsO deep L q)) := rfl
theorem reachF_6 (deep : Bool) (L : Heap) (is qs : List Nat) (q : Nat) : reachF deep L 6 is (q :: qs) = reachF deep L 5 (addNew is (refsO deep L q)) (qs ++ newOf is (refsO deep L q)) := rfl
theorem reachF_5 (deep : Bool) (L : Heap) (is qs : List Nat) (q : Nat) : reachF deep L 5 is (q :: qs) = reachF deep L 4 (addNew is (refsO deep L q)) (qs ++ newOf is (refsO deep L q)) := rfl
theorem reachF_4 (deep : Bool) (L : Heap) (is qs : List Nat) (q : Nat) : reachF deep L 4 is (q :: qs) = reachF deep L 3 (addNew is (refsO deep L q)) (qs ++ newOf is (refsO deep L q)) := rfl
theorem reachF_3 (deep : Bool) (L : Heap) (is qs : List Nat) (q : Nat) : reachF deep L 3 is (q :: qs) = reachF deep L 2 (addNew is (refsO deep L q)) (qs ++ newOf is (refsO deep L q)) := rfl
theorem refsV_ref (id v o : Nat) : refsV (.ref id v o) = [id] := rfl
theorem refsV_agg (cs : List AV) : refsV (.agg cs) = refsL cs := by simp only [refsV]
theorem refsV_int (k : IntKind) (n : Int) : refsV (.int k n) = [] := rfl
theorem refsV_str (l : List UInt8) : refsV (.str l) = [] := rfl
theorem refsV_bool (b : Bool) : refsV (.bool b) = [] := rfl
theorem refsV_lit (v : Value) : refsV (.lit v) = [] := rfl
theorem refsV_sl (cs : List AV) (n : Nat) : refsV (.sl cs n) = [] := by simp only [refsV]
theorem refsV_msl (a b c d : Nat) : refsV (.msl a b c d) = [] := rfl
theorem refsV_mpr (k : Option IntKind) (f : Key → Option Value) : refsV (.mpr k f) = [] := rfl
theorem refsV_mp (id : Nat) : refsV (.mp id) = [] := rfl
theorem refsL_nil : refsL [] = [] := rfl
theorem refsL_cons (x : AV) (xs : List AV) : refsL (x :: xs) = refsV x ++ refsL xs := by simp only [refsL]
theorem refsW_nil : refsW [] = [] := rfl
theorem refsW_msl (id v o n : Nat) (xs : List AV) : refsW (.msl id v o n :: xs) = id :: refsW xs := rfl
theorem refsW_ref (id v o : Nat) (xs : List AV) : refsW (.ref id v o :: xs) = id :: refsW xs := rfl
theorem refsW_mp (id : Nat) (xs : List AV) : refsW (.mp id :: xs) = id :: refsW xs := rfl
theorem refsW_int (k : IntKind) (n : Int) (xs : List AV) : refsW (.int k n :: xs) = refsW xs := rfl
theorem refsW_str (l : List UInt8) (xs : List AV) : refsW (.str l :: xs) = refsW xs := rfl
theorem refsW_bool (b : Bool) (xs : List AV) : refsW (.bool b :: xs) = refsW xs := rfl
theorem refsW_lit (v : Value) (xs : List AV) : refsW (.lit v :: xs) = refsW xs := rfl
theorem refsW_sl (cs : List AV) (n : Nat) (xs : List AV) : refsW (.sl cs n :: xs) = refsW xs := rfl
theorem refsW_ip (cs : List AV) (xs : List AV) : refsW (.ip cs :: xs) = refsW xs := rfl
mutual
theorem pure_refs : ∀ x : AV, pureA x = true → refsV x = []
  | .agg cs, h => by simp only [pureA, refsV] at *; exact pure_refsL cs h
  | .fn _ a b, h => by simp only [pureA, refsV, Bool.and_eq_true] at *; rw [pure_refsL a h.1, pure_refsL b h.2]; rfl
  | .tup _, _ => by simp only [refsV]
  | .sl .., _ => by simp only [refsV]
  | .ip _, _ => by simp only [refsV]
  | .ifc .., _ => by simp only [refsV]
  | .int .., _ => rfl
  | .bool _, _ => rfl
  | .str _, _ => rfl
  | .lit _, _ => rfl
  | .mpr .., _ => rfl
  | .any, h => by simp [pureA] at h
  | .msl .., h => by simp [pureA] at h
  | .ref .., h => by simp [pureA] at h
  | .when .., h => by simp [pureA] at h
  | .alt .., h => by simp [pureA] at h
  | .ub .., h => by simp [pureA] at h
  | .csl .., h => by simp [pureA] at h
  | .mp .., h => by simp [pureA] at h
theorem pure_refsL : ∀ xs : List AV, pureL xs = true → refsL xs = []
  | [], _ => rfl
  | x :: xs, h => by simp only [pureL, refsL, Bool.and_eq_true] at *; rw [pure_refs x h.1, pure_refsL xs h.2]; rfl
end
theorem pure_refsW : ∀ xs : List AV, pureL xs = true → refsW xs = []
  | [], _ => rfl
  | x :: xs, h => by
    simp only [pureL, Bool.and_eq_true] at h
    have := pure_refsW xs h.2
    cases x <;> simp only [refsW, this] <;> simp [pureA] at h
section
variable {α : Type} {f : α → AV} {g : α → List AV}
theorem refsL_map [PureF f] (xs : List α) : refsL (xs.map f) = [] := pure_refsL _ (pureL_map xs)
theorem refsL_fm [PureC g] (xs : List α) : refsL (xs.flatMap g) = [] := pure_refsL _ (pureL_fm xs)
theorem refsW_map [PureF f] (xs : List α) : refsW (xs.map f) = [] := pure_refsW _ (pureL_map xs)
theorem refsW_fm [PureC g] (xs : List α) : refsW (xs.flatMap g) = [] := pure_refsW _ (pureL_fm xs)
end
attribute [push_cast] inL_nil inL_cons addNew_nil addNew_cons newOf_nil newOf_cons idxL_nil idxL_cons reach_at reachF_nil reachF_9 reachF_8 reachF_7 reachF_6 reachF_5 reachF_4 reachF_3 refsV_ref refsV_agg refsV_int refsV_str refsV_bool refsV_lit refsV_sl refsV_msl refsV_mpr refsV_mp refsL_nil refsL_cons refsW_nil refsW_mp refsW_msl refsW_ref refsW_int refsW_str refsW_bool refsW_lit refsW_sl refsW_ip refsO refsL_map refsL_fm refsW_map refsW_fm
open Classical in
noncomputable def rselK {α β κ : Type} (e : α → κ) (r : α → β) (d : β) (x : κ) : β := if h : ∃ a, x = e a then r h.choose else d
theorem rselK_at {α β κ : Type} {e : α → κ} (hi : ∀ a b, e a = e b → a = b) (r : α → β) (d : β) (a : α) : rselK e r d (e a) = r a := by
  have h : ∃ b, e a = e b := ⟨a, rfl⟩
  unfold rselK
  rw [dif_pos h, ← hi _ _ h.choose_spec]
def pselK {α κ : Type} (e : α → κ) (p : α → Prop) (x : κ) : Prop := ∃ a, x = e a ∧ p a
theorem pselK_at {α κ : Type} {e : α → κ} (hi : ∀ a b, e a = e b → a = b) (p : α → Prop) (a : α) : pselK e p (e a) = p a :=
  propext ⟨fun ⟨b, h1, h2⟩ => by rw [hi _ _ h1]; exact h2, fun h => ⟨a, rfl, h⟩⟩
noncomputable def heapE {α : Type} (deep : Bool) (e : α → List AV × Heap) (p : α → Prop) (r : α → AV) (h : α → Heap) : FSpec := liftH {
  ids := reach deep
  args := fun xs L => renL (fun j => idxL (reach deep xs L) j) (xs.map (derefG L (reach deep xs L)))
  start := fun xs L => (reach deep xs L).map fun i => renO (fun j => idxL (reach deep xs L) j) (L.getD i .dead)
  pre := fun xs L => pselK e p (xs, L)
  res := fun xs L => rselK e r .any (xs, L)
  post := fun xs L => rselK e h [] (xs, L) }
attribute [push_cast] heapE liftH
theorem heapE_con {P : Program} {Γ : Env} (hΓ : EnvOk P Γ) {f : FuncId} {fn : Func} (hf : P.funcs[f]? = some fn) (hb : fn.body.isNone = false) (hn : (fn.name == "runtime.NumGoroutine") = false) {α : Type} {deep : Bool} {e : α → List AV × Heap} {p : α → Prop} {r : α → AV} {h : α → Heap}
    (hi : ∀ a b, e a = e b → a = b) (hh : ∀ a, p a → BodyOk P Γ fn (e a).1 (e a).2 (r a) (h a)) : Con P f (heapE deep e p r h) := by
  refine Con.liftH_of_body hΓ hf hb hn fun xs L hx => ?_
  obtain ⟨a, ha, hp⟩ := hx
  simp only
  rw [ha, rselK_at hi, rselK_at hi]
  have h1 : xs = (e a).1 := by rw [← ha]
  have h2 : L = (e a).2 := by rw [← ha]
  rw [h1, h2]
  exact hh a hp
end Go.Eng
end
section
namespace Go.Eng
open Go
mutual
def refsA : AV → List Nat
  | .ref id _ _ => [id]
  | .msl id _ _ _ => [id]
  | .csl id _ _ _ => [id]
  | .mp id => [id]
  | .fn _ a b => refsAL a ++ refsAL b
  | .agg cs => refsAL cs
  | .tup cs => refsAL cs
  | .ifc _ x => refsA x
  | _ => []
def refsAL : List AV → List Nat
  | [] => []
  | x :: xs => refsA x ++ refsAL xs
end
def refsAO (L : Heap) (id : Nat) : List Nat := match L[id]? with
  | some (.row cs _ _) => refsAL cs
  | _ => []
def reachAF (L : Heap) : Nat → List Nat → List Nat → List Nat
  | 0, is, _ => is
  | _ + 1, is, [] => is
  | n + 1, is, q :: qs => reachAF L n (addNew is (refsAO L q)) (qs ++ newOf is (refsAO L q))
def reachA (xs : List AV) (L : Heap) : List Nat := reachAF L 16 (addNew [] (refsAL xs)) (addNew [] (refsAL xs))
theorem reachA_at (xs : List AV) (L : Heap) : reachA xs L = reachAF L 16 (addNew [] (refsAL xs)) (addNew [] (refsAL xs)) := rfl
theorem reachAF_nil (L : Heap) (n : Nat) (is : List Nat) : reachAF L n is [] = is := by cases n <;> rfl
theorem reachAF_16 (L : Heap) (is qs : List Nat) (q : Nat) : reachAF L 16 is (q :: qs) = reachAF L 15 (addNew is (refsAO L q)) (qs ++ newOf is (refsAO L q)) := rfl
theorem reachAF_15 (L : Heap) (is qs : List Nat) (q : Nat) : reachAF L 15 is (q :: qs) = reachAF L 14 (addNew is (refsAO L q)) (qs ++ newOf is (refsAO L q)) := rfl
theorem reachAF_14 (L : Heap) (is qs : List Nat) (q : Nat) : reachAF L 14 is (q :: qs) = reachAF L 13 (addNew is (refsAO L q)) (qs ++ newOf is (refsAO L q)) := rfl
theorem reachAF_13 (L : Heap) (is qs : List Nat) (q : Nat) : reachAF L 13 is (q :: qs) = reachAF L 12 (addNew is (refsAO L q)) (qs ++ newOf is (refsAO L q)) := rfl
theorem reachAF_12 (L : Heap) (is qs : List Nat) (q : Nat) : reachAF L 12 is (q :: qs) = reachAF L 11 (addNew is (refsAO L q)) (qs ++ newOf is (refsAO L q)) := rfl
theorem reachAF_11 (L : Heap) (is qs : List Nat) (q : Nat) : reachAF L 11 is (q :: qs) = reachAF L 10 (addNew is (refsAO L q)) (qs ++ newOf is (refsAO L q)) := rfl
theorem reachAF_10 (L : Heap) (is qs : List Nat) (q : Nat) : reachAF L 10 is (q :: qs) = reachAF L 9 (addNew is (refsAO L q)) (qs ++ newOf is (refsAO L q)) := rfl
theorem reachAF_9 (L : Heap) (is qs : List Nat) (q : Nat) : reachAF L 9 is (q :: qs) = reachAF L 8 (addNew is (refsAO L q)) (qs ++ newOf is (refsAO L q)) := rfl
theorem reachAF_8 (L : Heap) (is qs : List Nat) (q : Nat) : reachAF L 8 is (q :: qs) = reachAF L 7 (addNew is (refsAO L q)) (qs ++ newOf is (refsAO L q)) := rfl
theorem reachAF_7 (L : Heap) (is qs : List Nat) (q : Nat) : reachAF L 7 is (q :: qs) = reachAF L 6 (addNew is (refsAO L q)) (qs ++ newOf is (refsAO L q)) := rfl
theorem reachAF_6 (L : Heap) (is qs : List Nat) (q : Nat) : reachAF L 6 is (q :: qs) = reachAF L 5 (addNew is (refsAO L q)) (qs ++ newOf is (refsAO L q)) := rfl
theorem reachAF_5 (L : Heap) (is qs : List Nat) (q : Nat) : reachAF L 5 is (q :: qs) = reachAF L 4 (addNew is (refsAO L q)) (qs ++ newOf is (refsAO L q)) := rfl
theorem reachAF_4 (L : Heap) (is qs : List Nat) (q : Nat) : reachAF L 4 is (q :: qs) = reachAF L 3 (addNew is (refsAO L q)) (qs ++ newOf is (refsAO L q)) := rfl
theorem reachAF_3 (L : Heap) (is qs : List Nat) (q : Nat) : reachAF L 3 is (q :: qs) = reachAF L 2 (addNew is (refsAO L q)) (qs ++ newOf is (refsAO L q)) := rfl
theorem refsA_ref (id v o : Nat) : refsA (.ref id v o) = [id] := rfl
theorem refsA_msl (a b c d : Nat) : refsA (.msl a b c d) = [a] := rfl
theorem refsA_csl (a b c d : Nat) : refsA (.csl a b c d) = [a] := rfl
theorem refsA_mp (id : Nat) : refsA (.mp id) = [id] := rfl
theorem refsA_int (k : IntKind) (n : Int) : refsA (.int k n) = [] := rfl
theorem refsA_str (l : List UInt8) : refsA (.str l) = [] := rfl
theorem refsA_bool (b : Bool) : refsA (.bool b) = [] := rfl
theorem refsA_lit (v : Value) : refsA (.lit v) = [] := rfl
theorem refsA_any : refsA .any = [] := rfl
theorem refsA_sl (cs : List AV) (n : Nat) : refsA (.sl cs n) = [] := by simp only [refsA]
theorem refsA_mpr (k : Option IntKind) (f : Key → Option Value) : refsA (.mpr k f) = [] := rfl
theorem refsAL_nil : refsAL [] = [] := rfl
theorem refsAL_cons (x : AV) (xs : List AV) : refsAL (x :: xs) = refsA x ++ refsAL xs := by simp only [refsAL]
theorem refsAL_append : ∀ xs ys : List AV, refsAL (xs ++ ys) = refsAL xs ++ refsAL ys
  | [], ys => rfl
  | x :: xs, ys => by simp only [List.cons_append, refsAL, refsAL_append xs ys, List.append_assoc]
mutual
theorem pure_refsA : ∀ x : AV, pureA x = true → refsA x = []
  | .agg cs, h => by simp only [pureA, refsA] at *; exact pure_refsAL cs h
  | .tup cs, h => by simp only [pureA, refsA] at *; exact pure_refsAL cs h
  | .fn _ a b, h => by simp only [pureA, refsA, Bool.and_eq_true] at *; rw [pure_refsAL a h.1, pure_refsAL b h.2]; rfl
  | .ifc _ x, h => by simp only [pureA, refsA] at *; exact pure_refsA x h
  | .sl .., _ => by simp only [refsA]
  | .ip _, _ => by simp only [refsA]
  | .int .., _ => rfl
  | .bool _, _ => rfl
  | .str _, _ => rfl
  | .lit _, _ => rfl
  | .mpr .., _ => rfl
  | .any, h => by simp [pureA] at h
  | .msl .., h => by simp [pureA] at h
  | .ref .., h => by simp [pureA] at h
  | .when .., h => by simp [pureA] at h
  | .alt .., h => by simp [pureA] at h
  | .ub .., h => by simp [pureA] at h
  | .csl .., h => by simp [pureA] at h
  | .mp .., h => by simp [pureA] at h
theorem pure_refsAL : ∀ xs : List AV, pureL xs = true → refsAL xs = []
  | [], _ => rfl
  | x :: xs, h => by simp only [pureL, refsAL, Bool.and_eq_true] at *; rw [pure_refsA x h.1, pure_refsAL xs h.2]; rfl
end
section
variable {α : Type} {f : α → AV} {g : α → List AV}
theorem refsAL_map [PureF f] (xs : List α) : refsAL (xs.map f) = [] := pure_refsAL _ (pureL_map xs)
theorem refsAL_fm [PureC g] (xs : List α) : refsAL (xs.flatMap g) = [] := pure_refsAL _ (pureL_fm xs)
end
attribute [push_cast] reachA_at reachAF_nil reachAF_16 reachAF_15 reachAF_14 reachAF_13 reachAF_12 reachAF_11 reachAF_10 reachAF_9 reachAF_8 reachAF_7 reachAF_6 reachAF_5 reachAF_4 reachAF_3 refsA_ref refsA_msl refsA_csl refsA_mp refsA_int refsA_str refsA_bool refsA_lit refsA_any refsA_sl refsA_mpr refsAL_nil refsAL_cons refsAL_append refsAO refsAL_map refsAL_fm
noncomputable def heapF {α : Type} (e : α → List AV × Heap) (p : α → Prop) (r : α → AV) (h : α → Heap) : FSpec := liftH {
  ids := reachA
  args := fun xs L => renL (fun j => idxL (reachA xs L) j) (xs.map (derefG L (reachA xs L)))
  start := fun xs L => (reachA xs L).map fun i => renO (fun j => idxL (reachA xs L) j) (L.getD i .dead)
  pre := fun xs L => pselK e p (xs, L)
  res := fun xs L => rselK e r .any (xs, L)
  post := fun xs L => rselK e h [] (xs, L) }
attribute [push_cast] heapF
theorem heapF_con {P : Program} {Γ : Env} (hΓ : EnvOk P Γ) {f : FuncId} {fn : Func} (hf : P.funcs[f]? = some fn) (hb : fn.body.isNone = false) (hn : (fn.name == "runtime.NumGoroutine") = false) {α : Type} {e : α → List AV × Heap} {p : α → Prop} {r : α → AV} {h : α → Heap}
    (hi : ∀ a b, e a = e b → a = b) (hh : ∀ a, p a → BodyOk P Γ fn (e a).1 (e a).2 (r a) (h a)) : Con P f (heapF e p r h) := by
  refine Con.liftH_of_body hΓ hf hb hn fun xs L hx => ?_
  obtain ⟨a, ha, hp⟩ := hx
  simp only
  rw [ha, rselK_at hi, rselK_at hi]
  have h1 : xs = (e a).1 := by rw [← ha]
  have h2 : L = (e a).2 := by rw [← ha]
  rw [h1, h2]
  exact hh a hp
theorem softL_append : ∀ xs ys : List AV, softL (xs ++ ys) = softL xs ++ softL ys
  | [], ys => by simp only [softL, List.nil_append]
  | x :: xs, ys => by simp only [List.cons_append, softL, softL_append xs ys]
theorem softL_any : ∀ n : Nat, softL (List.replicate n .any) = List.replicate n .any
  | 0 => by simp only [List.replicate_zero, softL]
  | n + 1 => by simp only [List.replicate_succ, softL, softL_any n, softV]
theorem BodyOk.soft {P : Program} {Γ : Env} {fn : Func} {xs : List AV} {L L' : Heap} {res : AV} (h : BodyOk P Γ fn (softL xs) L res L') : BodyOk P Γ fn xs L res L' := by
  intro X h1 h2 h3 h4
  obtain ⟨c, hc, hh⟩ := h X h1 h2 h3 h4
  have e : inits (softL xs) fn.ntmps = softL (inits xs fn.ntmps) := by
    simp only [inits, softL_append, softL_any, softL_length]
  rw [e] at hh
  exact ⟨c, hc, Holds.weak (S := (softL (inits xs fn.ntmps), L)) (.soft (.refl (softL (inits xs fn.ntmps), L))) hh⟩
theorem Holds.frz {X : Cx} {k : List It} {fr : List AV} {L : Heap} (id : Nat) (hn : X.B.L.length ≤ id) (hok : frzOk' L id) (h : Holds X k (frzL L id fr) (frzH L id)) : Holds X k fr L :=
  Holds.weak (S := (frzL L id fr, frzH L id)) (.frz id hn hok (.refl (frzL L id fr, frzH L id))) h
theorem Holds.soft {X : Cx} {k : List It} {fr : List AV} {L : Heap} (h : Holds X k (softL fr) L) : Holds X k fr L :=
  Holds.weak (S := (softL fr, L)) (.soft (.refl (softL fr, L))) h
end Go.Eng
end
section
namespace Go.Eng
open Go Go.RowKit
end Go.Eng
end
