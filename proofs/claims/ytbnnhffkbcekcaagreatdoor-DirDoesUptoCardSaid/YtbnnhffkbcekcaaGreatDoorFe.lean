/- The engine, part 16: loops by the slots they turn; values that lead to no own row, and rows of them. The engine, part 19: regions that draw their order, again: quiet operations that stand ahead of all that turn the heap are read where they stand; of the last operation, which waits for all, nothing is asked of the class of heaps. The engine, part 20: contracts for functions that turn what their arguments lead to, over objects that lead to others; a nil cell of an own row becomes an own row; classes of heaps by a pattern. The engine, part 21: contracts for functions that turn all that their arguments lead to: own rows, objects and maps, as deep as they go. The engine, part 22: contracts of the library, proved over the model's own worlds, as contracts here. -/
import Derived.Test.YtbnnhffkbcekcaaGreatDoorFd
import Derived.RowKit2
set_option linter.unusedVariables false
set_option linter.unusedSimpArgs false
section
namespace Go.Eng
open Go
def ZlL (ws : List Nat) (fr : List AV) : List AV := ws.foldl (fun f i => f.set i .any) fr
def Zfx (us : List (Nat × AV)) (fr : List AV) : List AV := us.foldl (fun f p => f.set p.1 p.2) fr
theorem Zft (fr : List AV) : ZlL [] fr = fr := rfl
theorem Zbv (i : Nat) (ws : List Nat) (fr : List AV) : ZlL (i :: ws) fr = ZlL ws (fr.set i .any) := rfl
theorem Zfw (fr : List AV) : Zfx [] fr = fr := rfl
theorem Zbx (p : Nat × AV) (us : List (Nat × AV)) (fr : List AV) : Zfx (p :: us) fr = Zfx us (fr.set p.1 p.2) := rfl
def Z57 : List Bool → List AV → List AV
 | true :: bs, x :: xs => x :: Z57 bs xs
 | false :: bs, _ :: xs => .any :: Z57 bs xs
 | _, _ => []
theorem Zif (bs : List Bool) (x : AV) (xs : List AV) : Z57 (true :: bs) (x :: xs) = x :: Z57 bs xs := rfl
theorem Zig (bs : List Bool) (x : AV) (xs : List AV) : Z57 (false :: bs) (x :: xs) = .any :: Z57 bs xs := rfl
theorem Zd7 : Z57 [] [] = [] := rfl
theorem Z02.loopM {X : Cx} {b : Code} {k : List It} {fr : List AV} {L : Z01} {ι : Type} (ms : List Bool) (us : ι → List (Nat × AV)) (Lf : ι → Z01) (μ : ι → Nat) (i0 : ι)
  (h0 : Z07 X.B.L fr L (Zfx (us i0) (Z57 ms fr), Lf i0))
  (h : ∀ i, Z02 X (.code b :: .chk (fun fr' L' => ∃ j, μ j < μ i ∧ Z07 X.B.L fr' L' (Zfx (us j) (Z57 ms fr), Lf j)) :: k) (Zfx (us i) (Z57 ms fr)) (Lf i)) : Z02 X (.code (.loop b) :: k) fr L :=
 Z02.loop (fun i => (Zfx (us i) (Z57 ms fr), Lf i)) μ i0 h0 h
mutual
def Z0r : AV → Bool
 | .agg cs => Z1J cs
 | .tup cs => Z1J cs
 | .sl cs _ => Z1J cs
 | .ip cs => Z1J cs
 | .fn _ a b => Z1J a && Z1J b
 | .ifc _ x => Z0r x
 | .int .. => true
 | .bool _ => true
 | .str _ => true
 | .lit _ => true
 | .mpr .. => true
 | _ => false
def Z1J : List AV → Bool
 | [] => true
 | x :: xs => Z0r x && Z1J xs
end
theorem Z3H : ∀ xs : List AV, Z1J xs = xs.all Z0r
 | [] => rfl
 | x :: xs => by simp only [Z1J, List.all_cons, Z3H xs]
mutual
theorem Za9 (n : Nat) : ∀ x : AV, Z0r x = true → scp n x = true
 | .agg cs, h => by simp only [Z0r, scp] at *; exact Z0W n cs h
 | .tup cs, h => by simp only [Z0r, scp] at *; exact Z0W n cs h
 | .sl cs _, h => by simp only [Z0r, scp] at *; exact Z0W n cs h
 | .ip cs, h => by simp only [Z0r, scp] at *; exact Z0W n cs h
 | .fn _ a b, h => by simp only [Z0r, scp, Bool.and_eq_true] at *; exact ⟨Z0W n a h.1, Z0W n b h.2⟩
 | .ifc _ x, h => by simp only [Z0r, scp] at *; exact Za9 n x h
 | .int .., _ => rfl
 | .bool _, _ => rfl
 | .str _, _ => rfl
 | .lit _, _ => rfl
 | .mpr .., _ => rfl
 | .any, h => by simp [Z0r] at h
 | .msl .., h => by simp [Z0r] at h
 | .ref .., h => by simp [Z0r] at h
 | .when .., h => by simp [Z0r] at h
 | .alt .., h => by simp [Z0r] at h
 | .ub .., h => by simp [Z0r] at h
 | .csl .., h => by simp [Z0r] at h
 | .mp .., h => by simp [Z0r] at h
theorem Z0W (n : Nat) : ∀ xs : List AV, Z1J xs = true → Z1A n xs = true
 | [], _ => rfl
 | x :: xs, h => by simp only [Z1J, Z1A, Bool.and_eq_true] at *; exact ⟨Za9 n x h.1, Z0W n xs h.2⟩
end
mutual
theorem Zaa (ρ : Nat → Nat) : ∀ x : AV, Z0r x = true → ren ρ x = x
 | .agg cs, h => by simp only [Z0r, ren] at *; rw [Z1C ρ cs h]
 | .tup cs, h => by simp only [Z0r, ren] at *; rw [Z1C ρ cs h]
 | .sl cs _, h => by simp only [Z0r, ren] at *; rw [Z1C ρ cs h]
 | .ip cs, h => by simp only [Z0r, ren] at *; rw [Z1C ρ cs h]
 | .fn _ a b, h => by simp only [Z0r, ren, Bool.and_eq_true] at *; rw [Z1C ρ a h.1, Z1C ρ b h.2]
 | .ifc _ x, h => by simp only [Z0r, ren] at *; rw [Zaa ρ x h]
 | .int .., _ => rfl
 | .bool _, _ => rfl
 | .str _, _ => rfl
 | .lit _, _ => rfl
 | .mpr .., _ => rfl
 | .any, h => by simp [Z0r] at h
 | .msl .., h => by simp [Z0r] at h
 | .ref .., h => by simp [Z0r] at h
 | .when .., h => by simp [Z0r] at h
 | .alt .., h => by simp [Z0r] at h
 | .ub .., h => by simp [Z0r] at h
 | .csl .., h => by simp [Z0r] at h
 | .mp .., h => by simp [Z0r] at h
theorem Z1C (ρ : Nat → Nat) : ∀ xs : List AV, Z1J xs = true → renL ρ xs = xs
 | [], _ => rfl
 | x :: xs, h => by simp only [Z1J, renL, Bool.and_eq_true] at *; rw [Zaa ρ x h.1, Z1C ρ xs h.2]
end
mutual
theorem Za8 (L : Z01) (id v : Nat) : ∀ x : AV, Z0r x = true → Z4s L id v x = x
 | .agg cs, h => by simp only [Z0r, Z4s] at *; rw [Z26 L id v cs h]
 | .tup cs, h => by simp only [Z0r, Z4s] at *; rw [Z26 L id v cs h]
 | .sl cs _, h => by simp only [Z0r, Z4s] at *; rw [Z0W 0 cs h]; rfl
 | .ip cs, h => by simp only [Z0r, Z4s] at *; rw [Z0W 0 cs h]; rfl
 | .fn _ a b, h => by simp only [Z0r, Z4s, Bool.and_eq_true] at *; rw [Z26 L id v a h.1, Z26 L id v b h.2]
 | .ifc _ x, h => by simp only [Z0r, Z4s] at *; rw [Za8 L id v x h]
 | .int .., _ => rfl
 | .bool _, _ => rfl
 | .str _, _ => rfl
 | .lit _, _ => rfl
 | .mpr .., _ => rfl
 | .any, h => by simp [Z0r] at h
 | .msl .., h => by simp [Z0r] at h
 | .ref .., h => by simp [Z0r] at h
 | .when .., h => by simp [Z0r] at h
 | .alt .., h => by simp [Z0r] at h
 | .ub .., h => by simp [Z0r] at h
 | .csl .., h => by simp [Z0r] at h
 | .mp .., h => by simp [Z0r] at h
theorem Z26 (L : Z01) (id v : Nat) : ∀ xs : List AV, Z1J xs = true → Z4U L id v xs = xs
 | [], _ => rfl
 | x :: xs, h => by simp only [Z1J, Z4U, Bool.and_eq_true] at *; rw [Za8 L id v x h.1, Z26 L id v xs h.2]
end
mutual
theorem Zab (L : Z01) (id : Nat) : ∀ x : AV, Z0r x = true → Z4t L id x = x
 | .agg cs, h => by simp only [Z0r, Z4t] at *; rw [Z32 L id cs h]
 | .tup cs, h => by simp only [Z0r, Z4t] at *; rw [Z32 L id cs h]
 | .sl cs _, h => by simp only [Z0r, Z4t] at *; rw [Z0W 0 cs h]; rfl
 | .ip cs, h => by simp only [Z0r, Z4t] at *; rw [Z0W 0 cs h]; rfl
 | .fn _ a b, h => by simp only [Z0r, Z4t, Bool.and_eq_true] at *; rw [Z0W 0 a h.1, Z0W 0 b h.2]; rfl
 | .ifc _ x, h => by simp only [Z0r, Z4t] at *; rw [Zab L id x h]
 | .int .., _ => rfl
 | .bool _, _ => rfl
 | .str _, _ => rfl
 | .lit _, _ => rfl
 | .mpr .., _ => rfl
 | .any, h => by simp [Z0r] at h
 | .msl .., h => by simp [Z0r] at h
 | .ref .., h => by simp [Z0r] at h
 | .when .., h => by simp [Z0r] at h
 | .alt .., h => by simp [Z0r] at h
 | .ub .., h => by simp [Z0r] at h
 | .csl .., h => by simp [Z0r] at h
 | .mp .., h => by simp [Z0r] at h
theorem Z32 (L : Z01) (id : Nat) : ∀ xs : List AV, Z1J xs = true → Z4u L id xs = xs
 | [], _ => rfl
 | x :: xs, h => by simp only [Z1J, Z4u, Bool.and_eq_true] at *; rw [Zab L id x h.1, Z32 L id xs h.2]
end
def Z2V (L : Z01) (sub : AV → AV) (sl : AV → Prop) (sb : AV → Bool) : Prop := ∀ x, Z0r x = true → sub x = x ∧ sl x ∧ sb x = false
theorem Z2V.zero (L : Z01) : Z2V L Z6T Zde Zlc := fun x _ => ⟨rfl, trivial, rfl⟩
theorem Z2V.list {L : Z01} {sub : AV → AV} {sl : AV → Prop} {sb : AV → Bool} (H : Z2V L sub sl sb) {xs : List AV} (h : Z1J xs = true) : xs.map sub = xs ∧ (∀ x ∈ xs, sl x) ∧ xs.any sb = false := by
 rw [Z3H, List.all_eq_true] at h
 refine ⟨?_, fun x hx => (H x (h x hx)).2.1, ?_⟩
 ·conv => rhs; rw [← List.map_id xs]
  exact List.map_congr_left fun x hx => (H x (h x hx)).1
 ·rw [List.any_eq_false]; intro x hx; rw [(H x (h x hx)).2.2]; simp
theorem Z2V.succ {L : Z01} {keep : Nat → Bool} {sub : AV → AV} {sl : AV → Prop} {sb : AV → Bool} (H : Z2V L sub sl sb) : Z2V L (Z0V L keep sub) (Z1n L keep sl) (Z3R L keep sb) := by
 intro x hx
 cases x <;> simp only [Z0r, Z0V, Z1n, Z3R, Bool.and_eq_true, Bool.false_eq_true] at * <;> try exact ⟨trivial, trivial, trivial⟩
 case agg cs => obtain ⟨h1, h2, h3⟩ := H.list hx; exact ⟨by rw [h1], h2, h3⟩
 case ifc t x => obtain ⟨h1, h2, h3⟩ := H x hx; exact ⟨by rw [h1], h2, h3⟩
 case fn f a b =>
  obtain ⟨h1, h2, h3⟩ := H.list hx.1
  obtain ⟨k1, k2, k3⟩ := H.list hx.2
  exact ⟨by rw [h1, k1], ⟨h2, k2⟩, by rw [h3, k3]; rfl⟩
theorem Z2V.d1 (L : Z01) (k : Nat → Bool) : Z2V L (d1 L k) (l1 L k) (b1 L k) := (Z2V.zero L).succ
theorem Z2V.d2 (L : Z01) (k : Nat → Bool) : Z2V L (d2 L k) (l2 L k) (b2 L k) := (Z2V.d1 L k).succ
theorem Z2V.d3 (L : Z01) (k : Nat → Bool) : Z2V L (d3 L k) (l3 L k) (b3 L k) := (Z2V.d2 L k).succ
theorem Z2V.d4 (L : Z01) (k : Nat → Bool) : Z2V L (Z0V L k (Eng.d3 L k)) (Z1n L k (l3 L k)) (Z3R L k (b3 L k)) := (Z2V.d3 L k).succ
class Z3T {α : Type} (f : α → AV) : Prop where
 pure : ∀ x, Z0r (f x) = true
 one : ∀ x, Z0c [f x] = true
class Z24 {α : Type} (g : α → List AV) : Prop where
 pure : ∀ x, Z1J (g x) = true
 one : ∀ x, Z0c (g x) = true
class Zbp {α : Type} (f : α → AV) : Prop where
 flat : ∀ x, flat (f x) = true
instance : Z3T AV.str := ⟨fun _ => rfl, fun _ => rfl⟩
instance : Z3T AV.bool := ⟨fun _ => rfl, fun _ => rfl⟩
instance (k : IntKind) : Z3T (AV.int k) := ⟨fun _ => rfl, fun _ => rfl⟩
instance : Z3T Z03 := ⟨fun _ => rfl, fun _ => rfl⟩
instance : Zbp AV.str := ⟨fun _ => rfl⟩
instance : Zbp AV.bool := ⟨fun _ => rfl⟩
instance (k : IntKind) : Zbp (AV.int k) := ⟨fun _ => rfl⟩
instance : Zbp Z03 := ⟨fun _ => rfl⟩
section
variable {α : Type} {f : α → AV} {g : α → List AV}
theorem Z1S : ∀ xs ys : List AV, Z0c xs = true → Z0c ys = true → Z0c (xs ++ ys) = true
 | [], ys, _, h => h
 | x :: xs, ys, h1, h2 => by
  cases x <;> simp only [Z0c, List.cons_append, Bool.and_eq_true, Bool.false_eq_true] at * <;> first | exact Z1S xs ys h1 h2 | exact ⟨h1.1, Z1S xs ys h1.2 h2⟩
theorem Z18 [Z3T f] (xs : List α) : Z1J (xs.map f) = true := by rw [Z3H]; simp [Z3T.pure]
theorem Z2I [Z24 g] (xs : List α) : Z1J (xs.flatMap g) = true := by
 rw [Z3H, List.all_eq_true]; intro x hx
 obtain ⟨a, _, ha⟩ := List.mem_flatMap.1 hx
 have := Z24.pure (g := g) a
 rw [Z3H, List.all_eq_true] at this
 exact this x ha
theorem ZfH [Z3T f] (n : Nat) (xs : List α) : Z1A n (xs.map f) = true := Z0W n _ (Z18 xs)
theorem ZfN [Z3T f] (ρ : Nat → Nat) (xs : List α) : renL ρ (xs.map f) = xs.map f := Z1C ρ _ (Z18 xs)
theorem Zfv [Z3T f] (L : Z01) (id v : Nat) (xs : List α) : Z4U L id v (xs.map f) = xs.map f := Z26 L id v _ (Z18 xs)
theorem ZgP [Z3T f] (L : Z01) (id : Nat) (xs : List α) : Z4u L id (xs.map f) = xs.map f := Z32 L id _ (Z18 xs)
theorem Z4m [Z3T f] : ∀ xs : List α, Z0c (xs.map f) = true
 | [] => rfl
 | x :: xs => by
  have h1 := Z3T.one (f := f) x
  exact Z1S [f x] (xs.map f) h1 (Z4m xs)
theorem Zl9 [Z3T f] (L : Z01) (k : Nat → Bool) (xs : List α) : (xs.map f).map (d3 L k) = xs.map f := ((Z2V.d3 L k).list (Z18 xs)).1
theorem Zki [Z3T f] (L : Z01) (k : Nat → Bool) (xs : List α) : (∀ y ∈ xs.map f, Z1n L k (l2 L k) y) = True := eq_true ((Z2V.d3 L k).list (Z18 xs)).2.1
theorem ZhU [Z24 g] (n : Nat) (xs : List α) : Z1A n (xs.flatMap g) = true := Z0W n _ (Z2I xs)
theorem Zi1 [Z24 g] (ρ : Nat → Nat) (xs : List α) : renL ρ (xs.flatMap g) = xs.flatMap g := Z1C ρ _ (Z2I xs)
theorem ZhO [Z24 g] (L : Z01) (id v : Nat) (xs : List α) : Z4U L id v (xs.flatMap g) = xs.flatMap g := Z26 L id v _ (Z2I xs)
theorem Ziy [Z24 g] (L : Z01) (id : Nat) (xs : List α) : Z4u L id (xs.flatMap g) = xs.flatMap g := Z32 L id _ (Z2I xs)
theorem Z2K [Z24 g] : ∀ xs : List α, Z0c (xs.flatMap g) = true
 | [] => rfl
 | x :: xs => by rw [List.flatMap_cons]; exact Z1S (g x) _ (Z24.one x) (Z2K xs)
theorem ZjB [Z24 g] (n : Nat) (x : α) : Z1A n (g x) = true := Z0W n _ (Z24.pure x)
theorem ZjM [Z24 g] (ρ : Nat → Nat) (x : α) : renL ρ (g x) = g x := Z1C ρ _ (Z24.pure x)
theorem Zjv [Z24 g] (L : Z01) (id v : Nat) (x : α) : Z4U L id v (g x) = g x := Z26 L id v _ (Z24.pure x)
theorem ZkO [Z24 g] (L : Z01) (id : Nat) (x : α) : Z4u L id (g x) = g x := Z32 L id _ (Z24.pure x)
theorem ZmW [Z24 g] (x : α) : Z0c (g x) = true := Z24.one x
theorem Z88 [Zbp f] (xs : List α) : Z0N (xs.map f) = true := Z8t (by simp [Zbp.flat])
end
theorem Zbf (xs : List AV) (n j : Nat) (d : AV) : (xs.drop n).getD j d = xs.getD (n + j) d := by simp [List.getD]
class Z23 {α : Type} (g : α → List AV) (n : outParam Nat) : Prop where
 len : ∀ x, (g x).length = n
theorem Zix {k : IntKind} (xs : List Int) (i : Nat) : (xs.map (AV.int k)).getD i (.int k 0) = .int k (xs.getD i default) := by
 by_cases h : i < xs.length <;> simp [List.getD, h]
theorem Ziw (xs : List UInt8) (i : Nat) : (xs.map Z03).getD i (.int .u8 0) = .int .u8 (xs.getD i 0).toNat := by
 by_cases h : i < xs.length <;> simp [List.getD, h, Z03]
theorem Zik {α : Type} {g : α → List AV} {n : Nat} [Z23 g n] (x : α) : (g x).length = n := Z23.len x
theorem Zjx {α : Type} {g : α → List AV} {n : Nat} [Z23 g n] (x : α) : (g x).take n = g x := List.take_of_length_le (by rw [Zik (g := g) x]; exact Nat.le_refl _)
theorem ZkU {α : Type} {g : α → List AV} {n : Nat} [Z23 g n] (x : α) : (g x).drop n = [] := List.drop_eq_nil_of_le (by rw [Zik (g := g) x]; exact Nat.le_refl _)
theorem Z36 {α : Type} {g : α → List AV} {n : Nat} [Z23 g n] (xs : List α) : (xs.flatMap g).length = xs.length * n := by
 induction xs with
 | nil => simp
 | cons x xs ih => rw [List.flatMap_cons, List.length_append, ih, Z23.len (g := g) x, List.length_cons, Nat.succ_mul]; omega
theorem Z16 {α : Type} {g : α → List AV} {n : Nat} [Z23 g n] (xs : List α) (i : Nat) : (xs.flatMap g).drop (i * n) = (xs.drop i).flatMap g := by
 induction xs generalizing i with
 | nil => simp
 | cons x xs ih =>
  cases i with
  | zero => simp
  | succ i =>
   rw [List.flatMap_cons, Nat.succ_mul, Nat.add_comm, List.drop_succ_cons, ← ih i, ← Z23.len (g := g) x, List.drop_append, List.drop_eq_nil_of_le (by omega)]
   simp
theorem Z1X {α : Type} {g : α → List AV} {n : Nat} [Z23 g n] (xs : List α) (i : Nat) : (xs.flatMap g).take (i * n) = (xs.take i).flatMap g := by
 induction xs generalizing i with
 | nil => simp
 | cons x xs ih =>
  cases i with
  | zero => simp
  | succ i =>
   have hx := Z23.len (g := g) x
   rw [List.flatMap_cons, Nat.succ_mul, List.take_succ_cons, List.flatMap_cons, ← ih i, List.take_append, List.take_of_length_le (by omega)]
   congr 2; omega
theorem ZdC {α : Type} {xs : List α} {i : Nat} (h : i < xs.length) (d : α) : xs.drop i = xs.getD i d :: xs.drop (i + 1) := by
 rw [List.drop_eq_getElem_cons h]; simp [List.getD, h]
theorem Zit {α : Type} {g : α → List AV} {n : Nat} [Z23 g n] (xs : List α) (i : Nat) (h : i < xs.length) (d : α) : ((xs.flatMap g).drop (i * n)).take n = g (xs.getD i d) := by
 rw [Z16, ZdC h d, List.flatMap_cons]
 have hx := Z23.len (g := g) (xs.getD i d)
 rw [List.take_append, List.take_of_length_le (by omega), hx, Nat.sub_self, List.take_zero, List.append_nil]
attribute [push_cast] Zif Zig Zd7 Zft Zbv Zfw Zbx Z18 Z2I ZfH ZfN Zfv ZgP Z4m Zl9 ZhU Zi1 ZhO Ziy Z2K ZjB ZjM Zjv ZkO ZmW Z88 Zbf Zki Z36 Zik Zjx ZkU Zix Ziw
theorem Z08 (n : Int) (h : -9223372036854775808 ≤ n ∧ n ≤ 9223372036854775807) : IntKind.i64.wrap n = n := IntWalk.i64_in n h
theorem Z4I {α : Type} [Inhabited α] {g : α → List AV} {n : Nat} [Z23 g n] (xs : List α) (i : Nat) (h : i < xs.length) : ((xs.flatMap g).drop (i * n)).take n = g (xs.getD i default) := Zit xs i h default
theorem Z3o {α : Type} [Inhabited α] {g : α → List AV} {n : Nat} [Z23 g n] (xs : List α) (i j : Nat) (d : AV) (h : i < xs.length) (hj : j < n) : (xs.flatMap g).getD (i * n + j) d = (g (xs.getD i default)).getD j d := by
 have hx := Z23.len (g := g) (xs.getD i default)
 have e : (xs.flatMap g).getD (i * n + j) d = ((xs.flatMap g).drop (i * n)).getD j d := by simp [List.getD]
 rw [e, Z16, ZdC h default, List.flatMap_cons]
 simp only [List.getD]
 rw [List.getElem?_append_left (by simp only [List.getD] at hx; omega)]
theorem Z4N {α : Type} [Inhabited α] {g : α → List AV} {n : Nat} [Z23 g n] (xs : List α) (i : Nat) (d : AV) (h : i < xs.length) (hj : 0 < n) : (xs.flatMap g).getD (i * n) d = (g (xs.getD i default)).getD 0 d := Z3o xs i 0 d h hj
theorem ZaL (a : Nat) : ((a : Int) + 1).toNat = a + 1 := by omega
section
variable {α β : Type}
def Z5B (e : α → List AV) (p : α → Prop) (xs : List AV) : Prop := ∃ a, xs = e a ∧ p a
open Classical in
noncomputable def Z2k (e : α → List AV) (r : α → β) (d : β) (xs : List AV) : β := if h : ∃ a, xs = e a then r h.choose else d
theorem Z12 {e : α → List AV} (hi : ∀ a b, e a = e b → a = b) (p : α → Prop) (a : α) : Z5B e p (e a) = p a :=
 propext ⟨fun ⟨b, h1, h2⟩ => by rw [hi _ _ h1]; exact h2, fun h => ⟨a, rfl, h⟩⟩
theorem Z0t {e : α → List AV} (hi : ∀ a b, e a = e b → a = b) (r : α → β) (d : β) (a : α) : Z2k e r d (e a) = r a := by
 have h : ∃ b, e a = e b := ⟨a, rfl⟩
 unfold Z2k
 rw [dif_pos h, ← hi _ _ h.choose_spec]
noncomputable def Z5C (e : α → List AV) (p : α → Prop) (r : α → AV) (h : α → Z01) (q : Bool) : Z0n := Z62 (Z5B e p) (Z2k e r .any) (Z2k e h []) q
theorem Z0T {P : Program} {Γ : Env} (hΓ : Z06 P Γ) {f : FuncId} {fn : Func} (hf : P.funcs[f]? = some fn) (hb : fn.body.isNone = false) (hn : (fn.name == "runtime.NumGoroutine") = false) {e : α → List AV} {p : α → Prop} {r : α → AV} {h : α → Z01} {q : Bool}
  (hi : ∀ a b, e a = e b → a = b) (hq : q = true → ∀ a, h a = []) (hh : ∀ a, p a → Z09 P Γ fn (e a) [] (r a) (h a)) : Con P f (Z5C e p r h q) := by
 refine Con.of_body hΓ hf hb hn (fun hq' xs => ?_) fun xs hx => ?_
 ·unfold Z2k
  split
  ·exact hq hq' _
  ·rfl
 ·obtain ⟨a, rfl, ha⟩ := hx
  rw [Z0t hi, Z0t hi]
  exact hh a ha
end
attribute [push_cast] Z5C
def Z2s : Op → Bool
 | .move _ => true
 | .assign _ => true
 | .pick .. => true
 | .binOp .. => true
 | .unOp .. => true
 | .index .. => true
 | .indexAddr .. => true
 | .load .. => true
 | .field .. => true
 | .fieldAddr .. => true
 | .extract .. => true
 | .nilCheck _ => true
 | .sliceToArrayPointer _ _ => true
 | .slice .. => true
 | .lookup .. => true
 | .call { callee := .builtin .len, args := _, argTypes := _ } => true
 | _ => false
theorem Zfe (z : Rz) (p : Prop) : (z.also p).L = z.L := rfl
theorem Z74 {P : Program} {Γ : Env} {all : List Oper} {c : Bool} {fr : List AV} {L : Z01} {o : Oper} (h : Z2s o.op = true) : (stepA P Γ all c fr L o).L = L := by
  rcases Z1G P Γ all o with hst | ⟨t, len, parts, ho, hst⟩
  · rw [hst]
    obtain ⟨dst, op, ty, pos, after, guard⟩ := o
    simp only at h ⊢
    cases op <;> simp only [Z2s, Bool.false_eq_true] at h <;> simp only [Z14, ev, Zfe]
    case pick => unfold ZcP; split <;> rfl
    case binOp =>
      unfold Zjp; repeat' split
      all_goals first | rfl | (unfold ZlA; split <;> rfl) | (unfold Zlw; split <;> rfl) | (unfold Zhi; split <;> rfl) | (unfold Z8z; repeat' split) | skip
      all_goals first | rfl | skip
    case unOp => unfold unR; split <;> rfl
    case index => unfold Z6M; repeat' split
                  all_goals rfl
    case indexAddr => unfold Z2q; repeat' split
                      all_goals rfl
    case load => unfold Z8g; repeat' split
                 all_goals rfl
    case field => unfold Z6R; repeat' split
                  all_goals rfl
    case fieldAddr => unfold Z2r; repeat' split
                      all_goals rfl
    case extract => unfold Z47; repeat' split
                    all_goals rfl
    case nilCheck => unfold Z34; repeat' split
                     all_goals rfl
    case sliceToArrayPointer => unfold Z5b; repeat' split
                                all_goals rfl
    case slice => unfold Z6v; repeat' split
                  all_goals rfl
    case lookup => unfold Zba; repeat' split
                   all_goals rfl
    case call c =>
      obtain ⟨callee, args, ts⟩ := c
      cases callee with
      | value f => simp [Z2s] at h
      | invoke r n => simp [Z2s] at h
      | builtin b =>
        cases b <;> simp only [Z2s, Bool.false_eq_true] at h
        simp only [Z14, ev, Z49]
        split <;> first | rfl | (rw [Zfe]; unfold Zjj; repeat' split) | (rw [Zfe]; unfold Zfl; repeat' split) | contradiction | skip
        all_goals first | rfl | contradiction | skip
  · rw [ho] at h; simp [Z2s] at h
section
variable {P : Program} {Γ : Env} {ops : Array Oper}
def ZkB (o : Oper) : Bool := match o.op, o.guard with
 | .alloc _, none => true
 | _, _ => false
theorem Zjf {o : Oper} (h : ZkB o = true) : ∃ ob q, ∀ fr L, stepA P Γ ops.toList (Z0i ops.toList fr o.guard) fr L o = ⟨q, .ref L.length 0 0, L ++ [ob]⟩ ∧ (∀ c, mkV o.guard c (.ref L.length 0 0) = .ref L.length 0 0) := by
 obtain ⟨dst, op, ty, pos, after, guard⟩ := o
 unfold ZkB at h
 simp only at h
 split at h
 ·rename_i t
  cases hb : lkT tyB t with
  | none =>
   refine ⟨.row (zeroA P t).cells (zeroA P t).cells.length 0, true = true ∧ Z1a P t, fun fr L => ?_⟩
   rcases Z1G P Γ ops.toList ⟨dst, .alloc t, ty, pos, after, none⟩ with hst | ⟨t', len, parts, ho, hst⟩
   ·rw [hst]; exact ⟨by simp only [Z14, ev, Z6k, hb, Z0i], fun _ => rfl⟩
   ·cases ho
  | some e =>
   refine ⟨.raw (.bld t e []), true = true ∧ Z1a P t ∧ zeroA P t = .agg [.lit (.pointer none), .lit (.slice none 0 0)], fun fr L => ?_⟩
   rcases Z1G P Γ ops.toList ⟨dst, .alloc t, ty, pos, after, none⟩ with hst | ⟨t', len, parts, ho, hst⟩
   ·rw [hst]; exact ⟨by simp only [Z14, ev, Z6k, hb, Z0i], fun _ => rfl⟩
   ·cases ho
 ·cases h
def Z76 (P : Program) (Γ : Env) (all : List Oper) (c : Bool) (fr : List AV) (L : Z01) (o : Oper) : Prop := (stepA P Γ all c fr L o).L.length = L.length ∧
 ∀ A, (stepA P Γ all c fr (L ++ A) o).pre ∧ (stepA P Γ all c fr (L ++ A) o).v = (stepA P Γ all c fr L o).v ∧ (stepA P Γ all c fr (L ++ A) o).L = (stepA P Γ all c fr L o).L ++ A
def Ye (P : Program) (Γ : Env) (ops : Array Oper) (H : Z01 → Prop) (mk la al st : Bool) (o : Oper) (fr : List AV) (L : Z01) (v : AV) (L' : Z01) : Prop :=
 Z1z ops.toList fr o.guard ∧
 if al then ZkB o = true ∧ (stepA P Γ ops.toList (Z0i ops.toList fr o.guard) fr L o).pre ∧ v = mkV o.guard (Z0i ops.toList fr o.guard) (stepA P Γ ops.toList (Z0i ops.toList fr o.guard) fr L o).v ∧
   L' = (stepA P Γ ops.toList (Z0i ops.toList fr o.guard) fr L o).L ∧ H L'
 else if mk then (stepA P Γ ops.toList (Z0i ops.toList fr o.guard) fr L o).pre ∧ v = mkV o.guard (Z0i ops.toList fr o.guard) (stepA P Γ ops.toList (Z0i ops.toList fr o.guard) fr L o).v ∧
   L' = (stepA P Γ ops.toList (Z0i ops.toList fr o.guard) fr L o).L ∧ (la = false → H L') ∧ (st = true → Z76 P Γ ops.toList (Z0i ops.toList fr o.guard) fr L o)
 else L' = L ∧ ∀ G, H G → (stepA P Γ ops.toList (Z0i ops.toList fr o.guard) fr G o).pre ∧ (stepA P Γ ops.toList (Z0i ops.toList fr o.guard) fr G o).L = G ∧
   v = mkV o.guard (Z0i ops.toList fr o.guard) (stepA P Γ ops.toList (Z0i ops.toList fr o.guard) fr G o).v
theorem Ye.swap {H : Z01 → Prop} {mi mj ai aj si sj : Bool} {oi oj : Oper} {fr : List AV} {L L1 L2 : Z01} {v u : AV} (hH : aj = true → ∀ G A, H G → H (G ++ A)) (hL : H L) (hi : Ye P Γ ops H mi false ai si oi fr L v L1) (hj : Ye P Γ ops H mj false aj sj oj (Z1M fr oi.dst v) L1 u L2)
  (hap : oi.apart ops oj = true) (hm : (ai = false ∧ aj = false ∧ (¬ (mi = true ∧ mj = true) ∨ (Z2s oi.op = true ∧ Z2s oj.op = true))) ∨ (ai = false ∧ aj = true ∧ (mi = true → si = true)) ∨ (ai = true ∧ aj = false ∧ mj = false)) :
  ∃ L3, H L3 ∧ Ye P Γ ops H mj false aj sj oj fr L u L3 ∧ Ye P Γ ops H mi false ai si oi (Z1M fr oj.dst u) L3 v L2 := by
 obtain ⟨h1, h2, h3⟩ := Oper.apart_spec hap
 unfold Ye at hi hj ⊢
 have e1 : ∀ c G, stepA P Γ ops.toList c (Z1M fr oi.dst v) G oj = stepA P Γ ops.toList c fr G oj := fun c G => ZaA (o := oj) h1
 have e2 : ∀ c G, stepA P Γ ops.toList c (Z1M fr oj.dst u) G oi = stepA P Γ ops.toList c fr G oi := fun c G => ZaA (o := oi) h3
 obtain ⟨g1, g2⟩ := Z4K (fr := fr) (o := oj) (dst := oi.dst) (x := v) h1
 obtain ⟨g3, g4⟩ := Z4K (fr := fr) (o := oi) (dst := oj.dst) (x := u) h3
 have s1 : ∀ c G, Z76 P Γ ops.toList c (Z1M fr oi.dst v) G oj = Z76 P Γ ops.toList c fr G oj := fun c G => by unfold Z76; simp only [e1]
 have s2 : ∀ c G, Z76 P Γ ops.toList c (Z1M fr oj.dst u) G oi = Z76 P Γ ops.toList c fr G oi := fun c G => by unfold Z76; simp only [e2]
 rw [g1, g2] at hj
 simp only [e1, s1] at hj
 rw [g3, g4]
 simp only [e2, s2]
 obtain ⟨hgi, hi⟩ := hi
 obtain ⟨hgj, hj⟩ := hj
 rcases hm with ⟨rfl, rfl, hm⟩ | ⟨rfl, rfl, hm⟩ | ⟨rfl, rfl, rfl⟩
 ·simp only [Bool.false_eq_true, if_false] at hi hj ⊢
  cases mi <;> cases mj
  ·simp only [Bool.false_eq_true, if_false] at hi hj
   obtain ⟨rfl, hi⟩ := hi
   obtain ⟨rfl, hj⟩ := hj
   refine ⟨L2, hL, ?_⟩
   simp only [Bool.false_eq_true, if_false]
   exact ⟨⟨hgj, trivial, hj⟩, hgi, trivial, hi⟩
  ·simp only [Bool.false_eq_true, if_false, if_true] at hi hj
   obtain ⟨rfl, hi⟩ := hi
   refine ⟨L2, hj.2.2.2.1 trivial, ?_⟩
   simp only [Bool.false_eq_true, if_false, if_true]
   exact ⟨⟨hgj, hj⟩, hgi, trivial, hi⟩
  ·simp only [Bool.false_eq_true, if_false, if_true] at hi hj
   obtain ⟨rfl, hj⟩ := hj
   refine ⟨L, hL, ?_⟩
   simp only [Bool.false_eq_true, if_false, if_true]
   exact ⟨⟨hgj, trivial, hj⟩, hgi, hi⟩
  ·rcases hm with hm | ⟨q1, q2⟩
   ·exact absurd ⟨rfl, rfl⟩ hm
   simp only [if_true, Z74 q1, Z74 q2] at hi hj
   obtain ⟨a1, a2, rfl, a3, a4⟩ := hi
   obtain ⟨b1, b2, rfl, b3, b4⟩ := hj
   refine ⟨L2, hL, ?_⟩
   simp only [if_true, Z74 q1, Z74 q2]
   exact ⟨⟨hgj, b1, b2, trivial, b3, b4⟩, hgi, a1, a2, trivial, a3, a4⟩
 ·simp only [Bool.false_eq_true, if_false, if_true] at hi hj ⊢
  obtain ⟨b0, b1, b2, rfl, b3⟩ := hj
  obtain ⟨ob, q, hal⟩ := Zjf (P := P) (Γ := Γ) (ops := ops) b0
  cases mi with
  | false =>
   simp only [Bool.false_eq_true, if_false] at hi ⊢
   obtain ⟨rfl, hi⟩ := hi
   exact ⟨_, b3, ⟨hgj, b0, b1, b2, rfl, b3⟩, hgi, rfl, hi⟩
  | true =>
   simp only [if_true] at hi ⊢
   obtain ⟨a1, a2, rfl, a3, a4⟩ := hi
   have hst := a4 (hm rfl)
   obtain ⟨t1, t2⟩ := hst
   have q1 := fun L => (hal fr L).1
   have q2 := fun L => (hal fr L).2
   simp only [q1, q2] at b1 b2 b3 ⊢
   rw [t1] at b2
   refine ⟨L ++ [ob], hH rfl _ _ hL, ⟨hgj, b0, b1, b2, rfl, hH rfl _ _ hL⟩, ?_⟩
   ·obtain ⟨t3, t4, t5⟩ := t2 [ob]
    refine ⟨hgi, t3, by rw [t4]; exact a2, t5.symm, fun _ => b3, fun _ => ?_⟩
    refine ⟨by rw [t5]; simp [t1], fun A => ?_⟩
    obtain ⟨r3, r4, r5⟩ := t2 ([ob] ++ A)
    rw [← List.append_assoc] at r3 r4 r5
    exact ⟨r3, by rw [r4, t4], by rw [r5, t5, List.append_assoc]⟩
 ·simp only [Bool.false_eq_true, if_false, if_true] at hi hj ⊢
  obtain ⟨rfl, hj⟩ := hj
  exact ⟨L, hL, ⟨hgj, rfl, hj⟩, hgi, hi⟩
theorem Ye.keeps {H : Z01 → Prop} {mk al st : Bool} {o : Oper} {fr : List AV} {L L' : Z01} {v : AV} (hL : H L) (h : Ye P Γ ops H mk false al st o fr L v L') : H L' := by
 unfold Ye at h
 cases al
 ·cases mk
  ·simp only [Bool.false_eq_true, if_false] at h; rw [h.2.1]; exact hL
  ·simp only [Bool.false_eq_true, if_false, if_true] at h; exact h.2.2.2.2.1 trivial
 ·simp only [if_true] at h; exact h.2.2.2.2.2
variable {md : Region.Mode}
def opE (P : Program) (Γ : Env) (ops : Array Oper) (H : Z01 → Prop) (mk la al st : Nat → Bool) (i : Nat) (nd : Prop) (K : List AV → Z01 → Prop) (fr : List AV) (L : Z01) : Prop :=
 match ops[i]? with
 | none => K fr L
 | some o => ∃ v L', Ye P Γ ops H (mk i) (la i) (al i) (st i) o fr L v L' ∧ (la i = true → nd) ∧ K (Z1M fr o.dst v) L'
def Zls (P : Program) (Γ : Env) (md : Region.Mode) (ops : Array Oper) (H : Z01 → Prop) (mk la al st : Nat → Bool) (K : List AV → Z01 → Prop) : Nat → Array Bool → List AV → Z01 → Prop
 | 0, listed, fr, L => Region.ready md ops listed = [] ∧ K fr L
 | fuel + 1, listed, fr, L => (Region.ready md ops listed = [] → K fr L) ∧
  ∀ i ∈ Region.ready md ops listed, opE P Γ ops H mk la al st i (Region.ready md ops (listed.setIfInBounds i true) = []) (Zls P Γ md ops H mk la al st K fuel (listed.setIfInBounds i true)) fr L
def Zk8 (mk al st : Nat → Bool) (i j : Nat) (oi oj : Oper) : Prop := (al i = false ∧ al j = false ∧ (¬ (mk i = true ∧ mk j = true) ∨ (Z2s oi.op = true ∧ Z2s oj.op = true))) ∨ (al i = false ∧ al j = true ∧ (mk i = true → st i = true)) ∨ (al i = true ∧ al j = false ∧ mk j = false)
def Zdx (ops : Array Oper) (md : Region.Mode) (mk al st : Nat → Bool) (listed : Array Bool) (i : Nat) (oi : Oper) : Prop :=
 ∀ j oj, ops[j]? = some oj → j ≠ i → listed.getD j true = false → (∀ e ∈ oj.after, Region.binds md e = true → e.on ≠ i) → oi.apart ops oj = true ∧ (TW ops md i j ∨ Zk8 mk al st i j oi oj)
def Z3V (ops : Array Oper) (md : Region.Mode) (listed : Array Bool) : Prop := ∀ j k, listed.getD j true = false → TW ops md j k → listed.getD k true = false
theorem Z3V.set {listed : Array Bool} (h : Z3V ops md listed) {j : Nat} (hj : j ∈ Region.ready md ops listed) : Z3V ops md (listed.setIfInBounds j true) := by
 obtain ⟨hjun, oj, hoj, hall⟩ := mem_ready.1 hj
 intro a b ha hab
 have haj : j ≠ a := by
  intro e; subst e
  rcases Nat.lt_or_ge j listed.size with h' | h'
  ·simp [h'] at ha
  ·simp [Array.getElem?_eq_none h'] at ha
 rw [getD_set_ne true haj] at ha
 by_cases hbj : j = b
 ·subst hbj
  obtain ⟨o', e, ho', he, hb, hlt, h3⟩ := hab.step
  rw [hoj] at ho'
  obtain rfl := Option.some.inj ho'
  have h5 := hall e he hb
  have hlt' : e.on < listed.size := by
   rcases Nat.lt_or_ge j listed.size with h' | h'
   ·omega
   ·simp [Array.getElem?_eq_none h'] at hjun
  rcases h3 with h3 | h3
  ·rw [h3] at h5 hlt'; simp [hlt'] at h5 ha; rw [ha] at h5; cases h5
  ·have h6 := h _ _ ha h3
   simp [hlt'] at h5 h6; rw [h6] at h5; cases h5
 ·rw [getD_set_ne true hbj]; exact h _ _ ha hab
theorem Z3V.late {listed : Array Bool} (h : Z3V ops md listed) {i j : Nat} (hi : listed.getD i true = false) (hij : TW ops md i j) : j ∉ Region.ready md ops listed := by
 intro hj
 obtain ⟨hjun, oj, hoj, hall⟩ := mem_ready.1 hj
 obtain ⟨o', e, ho', he, hb, hlt, h3⟩ := hij.step
 rw [hoj] at ho'
 obtain rfl := Option.some.inj ho'
 have h5 := hall e he hb
 have hlt' : e.on < listed.size := by
  rcases Nat.lt_or_ge j listed.size with h' | h'
  ·omega
  ·simp [Array.getElem?_eq_none h'] at hjun
 rcases h3 with h3 | h3
 ·rw [h3] at h5 hlt'; simp [hlt'] at h5 hi; rw [hi] at h5; cases h5
 ·have h6 := h _ _ hi h3
  simp [hlt'] at h5 h6; rw [h6] at h5; cases h5
def Zhk (ops : Array Oper) (md : Region.Mode) (la : Nat → Bool) : Prop := ∀ i, la i = true → ∀ j, j < ops.size → j ≠ i → TW ops md j i
theorem Z5f {H : Z01 → Prop} {mk la al st : Nat → Bool} {K : List AV → Z01 → Prop} (hla : Zhk ops md la) (hHa : (∃ i, al i = true) → ∀ G A, H G → H (G ++ A)) {i : Nat} {oi : Oper} {v : AV} (hi : ops[i]? = some oi) :
  ∀ (fuel : Nat) (listed : Array Bool) (fr : List AV) (L L1 : Z01), Zdx ops md mk al st listed i oi → Z3V ops md listed → i ∈ Region.ready md ops listed → H L → Ye P Γ ops H (mk i) (la i) (al i) (st i) oi fr L v L1 →
   (la i = true → Region.ready md ops (listed.setIfInBounds i true) = []) →
   Zls P Γ md ops H mk la al st K fuel (listed.setIfInBounds i true) (Z1M fr oi.dst v) L1 → Zls P Γ md ops H mk la al st K (fuel + 1) listed fr L := by
 intro fuel
 induction fuel with
 | zero =>
  intro listed fr L L1 _ _ hr hL hy hnd hH
  refine ⟨fun h => (by rw [h] at hr; cases hr), fun j hj => ?_⟩
  by_cases hji : j = i
  ·subst hji; unfold opE; rw [hi]; exact ⟨v, L1, hy, hnd, hH⟩
  ·have := ready_mono hj hji
   rw [hH.1] at this
   cases this
 | succ fuel ih =>
  intro listed fr L L1 hfree hcl hr hL hy hnd hH
  refine ⟨fun h => (by rw [h] at hr; cases hr), fun j hj => ?_⟩
  by_cases hji : j = i
  ·subst hji; unfold opE; rw [hi]; exact ⟨v, L1, hy, hnd, hH⟩
  ·have h1 := hH.2 j (ready_mono hj hji)
   obtain ⟨hjun, oj, hoj, hall⟩ := mem_ready.1 hj
   have hiun := (mem_ready.1 hr).1
   have hjs : j < ops.size := (Array.getElem?_eq_some_iff.1 hoj).1
   have his : i < ops.size := (Array.getElem?_eq_some_iff.1 hi).1
   have hntw : ¬ TW ops md i j := fun ht => hcl.late hiun ht hj
   have hntw' : ¬ TW ops md j i := fun ht => hcl.late hjun ht hr
   have hli : la i = false := by
    cases h : la i with
    | false => rfl
    | true => exact absurd (hla i h j hjs hji) hntw'
   have hlj : la j = false := by
    cases h : la j with
    | false => rfl
    | true => exact absurd (hla j h i his (Ne.symm hji)) hntw
   have hnot : ∀ e ∈ oj.after, Region.binds md e = true → e.on ≠ i := fun e he hb heq => by
    have h1 := hall e he hb
    rw [heq] at h1
    rcases Nat.lt_or_ge i listed.size with h' | h'
    ·simp [h'] at hiun h1; rw [hiun] at h1; cases h1
    ·simp [Array.getElem?_eq_none h'] at h1
   obtain ⟨hap, hmm⟩ := hfree j oj hoj hji hjun hnot
   have hmm := hmm.resolve_left hntw
   unfold opE at h1 ⊢
   rw [hoj] at h1 ⊢
   obtain ⟨u, L2, hyj, hndj, h2⟩ := h1
   rw [hli] at hy
   rw [hlj] at hyj
   obtain ⟨L3, hL3, k1, k2⟩ := hy.swap (fun h => hHa ⟨j, h⟩) hL hyj hap hmm
   refine ⟨u, L3, by rw [hlj]; exact k1, fun h => (by rw [hlj] at h; cases h), ?_⟩
   have hfree' : Zdx ops md mk al st (listed.setIfInBounds j true) i oi := fun k ok hk hki hun hno => by
    refine hfree k ok hk hki ?_ hno
    by_cases hjk : j = k
    ·subst hjk; exact hjun
    ·rw [getD_set_ne true hjk] at hun; exact hun
   refine ih (listed.setIfInBounds j true) _ _ _ hfree' (hcl.set hj) (ready_mono hr (Ne.symm hji)) hL3 (by rw [hli]; exact k2) (fun h => by rw [hli] at h; cases h) ?_
   rw [Array.setIfInBounds_comm _ _ hji, ← Z5U fr v u (Oper.apart_spec hap).2.1]
   exact h2
def Z4Z (ops : Array Oper) (i : Nat) : Bool := match ops[i]? with | some o => Z2s o.op | none => false
def Zji (ops : Array Oper) (md : Region.Mode) (ms as ss : List Nat) : Bool := (ms ++ as).all fun i => (ms ++ as).all fun j => decide (j ≤ i) || (!as.contains i && !as.contains j && (Z4Z ops i && Z4Z ops j)) || (!as.contains i && as.contains j && ss.contains i) || twB ops md ms i 12 j
def Zdh (ops : Array Oper) (md : Region.Mode) (lst : Bool) : Bool := !lst || (List.range (ops.size - 1)).all fun j => twB ops md [] j 12 (ops.size - 1)
def laF (ops : Array Oper) (lst : Bool) (i : Nat) : Bool := lst && decide (i + 1 = ops.size)
theorem Z9m {lst : Bool} (h : Zdh ops md lst = true) : Zhk ops md (laF ops lst) := by
 intro i hi j hj hji
 simp only [laF, Bool.and_eq_true, decide_eq_true_eq] at hi
 obtain ⟨rfl, hi⟩ := hi
 simp only [Zdh, Bool.not_true, Bool.false_or, List.all_eq_true, List.mem_range] at h
 have := h j (by omega)
 rw [show ops.size - 1 = i by omega] at this
 exact ⟨[], 12, this⟩
theorem Z6P {ms as ss : List Nat} (hm : Zji ops md ms as ss = true) {i : Nat} {oi : Oper} {listed : Array Bool} (hi : ops[i]? = some oi) (hl : ∀ j, j < i → listed.getD j true = true) (h : Region.free md ops listed i = true) :
  Zdx ops md (ms.contains ·) (as.contains ·) (ss.contains ·) listed i oi := by
 intro j oj hj hji hun hno
 refine ⟨Region.free_spec hi h j oj hj hji hun hno, ?_⟩
 have hlt : ¬ j ≤ i := fun hle => by have := hl j (by omega); rw [this] at hun; cases hun
 have key : i ∈ ms ++ as → j ∈ ms ++ as → (as.contains i = false ∧ as.contains j = false ∧ Z4Z ops i = true ∧ Z4Z ops j = true) ∨ (as.contains i = false ∧ as.contains j = true ∧ ss.contains i = true) ∨ TW ops md i j := by
  intro h1 h2
  simp only [Zji, List.all_eq_true, Bool.or_eq_true, decide_eq_true_eq, Bool.and_eq_true, Bool.not_eq_true'] at hm
  rcases hm i h1 j h2 with ((h3 | h3) | h3) | h3
  ·exact absurd h3 hlt
  ·exact .inl ⟨h3.1.1, h3.1.2, h3.2.1, h3.2.2⟩
  ·exact .inr (.inl ⟨h3.1.1, h3.1.2, h3.2⟩)
  ·exact .inr (.inr ⟨ms, 12, h3⟩)
 have hmem : ∀ k, (ms.contains k = true ∨ as.contains k = true) → k ∈ ms ++ as := fun k hk => by simpa [List.contains_iff_mem] using hk
 unfold Zk8
 have ff : ∀ {b : Bool}, b = true → b = false → False := fun h1 h2 => by rw [h1] at h2; cases h2
 cases hai : as.contains i <;> cases haj : as.contains j
 ·by_cases hmm : ms.contains i = true ∧ ms.contains j = true
  ·rcases key (hmem i (.inl hmm.1)) (hmem j (.inl hmm.2)) with k | k | k
   ·exact .inr (.inl ⟨hai, haj, .inr ⟨by simpa [Z4Z, hi] using k.2.2.1, by simpa [Z4Z, hj] using k.2.2.2⟩⟩)
   ·exact (ff k.2.1 haj).elim
   ·exact .inl k
  ·exact .inr (.inl ⟨hai, haj, .inl hmm⟩)
 ·by_cases hmi : ms.contains i = true
  ·rcases key (hmem i (.inl hmi)) (hmem j (.inr haj)) with k | k | k
   ·exact (ff haj k.2.1).elim
   ·exact .inr (.inr (.inl ⟨hai, haj, fun _ => k.2.2⟩))
   ·exact .inl k
  ·exact .inr (.inr (.inl ⟨hai, haj, fun h => absurd h hmi⟩))
 ·by_cases hmj : ms.contains j = true
  ·rcases key (hmem i (.inr hai)) (hmem j (.inl hmj)) with k | k | k
   ·exact (ff hai k.1).elim
   ·exact (ff hai k.1).elim
   ·exact .inl k
  ·exact .inr (.inr (.inr ⟨hai, haj, by simpa using hmj⟩))
 ·rcases key (hmem i (.inr hai)) (hmem j (.inr haj)) with k | k | k
  ·exact (ff hai k.1).elim
  ·exact (ff hai k.1).elim
  ·exact .inl k
def Z6I (lst : Bool) (r : List Oper) (p : Prop) : Prop := match lst, r with
 | true, [] => True
 | _, _ => p
theorem Zag (r : List Oper) (p : Prop) : Z6I false r p = p := by cases r <;> rfl
theorem Zgj (l : Bool) (o : Oper) (r : List Oper) (p : Prop) : Z6I l (o :: r) p = p := by cases l <;> rfl
theorem Zgi (p : Prop) : Z6I true [] p = True := rfl
theorem Z6H {l : Bool} {r : List Oper} {p : Prop} (h : Z6I l r p) : (l && r.isEmpty) = false → p := by
 cases l <;> cases r <;> simp_all [Z6I]
def evE (P : Program) (Γ : Env) (all : List Oper) (H : Z01 → Prop) (ms as ss : List Nat) (lst : Bool) : Nat → List Oper → List AV → Z01 → (List AV → Z01 → Prop) → Prop
 | _, [], fr, L, K => K fr L
 | k, o :: r, fr, L, K =>
  Z1z all fr o.guard ∧
  if as.contains k then ZkB o = true ∧ (stepA P Γ all (Z0i all fr o.guard) fr L o).pre ∧ H (stepA P Γ all (Z0i all fr o.guard) fr L o).L ∧
   evE P Γ all H ms as ss lst (k + 1) r (Z1M fr o.dst (mkV o.guard (Z0i all fr o.guard) (stepA P Γ all (Z0i all fr o.guard) fr L o).v)) (stepA P Γ all (Z0i all fr o.guard) fr L o).L K
  else if ms.contains k then (stepA P Γ all (Z0i all fr o.guard) fr L o).pre ∧ (if ss.contains k then Z76 P Γ all (Z0i all fr o.guard) fr L o else True) ∧ Z6I lst r (H (stepA P Γ all (Z0i all fr o.guard) fr L o).L) ∧
   evE P Γ all H ms as ss lst (k + 1) r (Z1M fr o.dst (mkV o.guard (Z0i all fr o.guard) (stepA P Γ all (Z0i all fr o.guard) fr L o).v)) (stepA P Γ all (Z0i all fr o.guard) fr L o).L K
  else qob H (fun G => (stepA P Γ all (Z0i all fr o.guard) fr G o).pre ∧ (stepA P Γ all (Z0i all fr o.guard) fr G o).L = G ∧ (stepA P Γ all (Z0i all fr o.guard) fr G o).v = (stepA P Γ all (Z0i all fr o.guard) fr L o).v) ∧
   evE P Γ all H ms as ss lst (k + 1) r (Z1M fr o.dst (mkV o.guard (Z0i all fr o.guard) (stepA P Γ all (Z0i all fr o.guard) fr L o).v)) L K
theorem Z4S {H : Z01 → Prop} {ms as ss : List Nat} {lst : Bool} {K : List AV → Z01 → Prop} (hH : (∃ i, as.contains i = true) → ∀ G A, H G → H (G ++ A)) (hm : Zji ops md ms as ss = true) (hla : Zdh ops md lst = true) : ∀ (l : List Oper) (k : Nat) (listed : Array Bool) (fr : List AV) (L : Z01), (∀ j, l[j]? = ops[k + j]?) → k + l.length = ops.size → (∀ j, j < k → listed.getD j true = true) → (∀ j o, k ≤ j → ops[j]? = some o → listed.getD j true = false) →
  Region.lexFrom md ops l.length k listed = true → (l = [] ∨ H L) → evE P Γ ops.toList H ms as ss lst k l fr L K → Zls P Γ md ops H (ms.contains ·) (laF ops lst) (as.contains ·) (ss.contains ·) K l.length listed fr L
 | [], _, _, _, _, _, _, _, _, hB, _, h => ⟨by simpa [Region.lexFrom] using hB, h⟩
 | o :: l, k, listed, fr, L, hl, hn, hk, hu, hB, hL, h => by
  have hL : H L := by rcases hL with hL | hL; cases hL; exact hL
  have h0 : ops[k]? = some o := by simpa using (hl 0).symm
  simp only [List.length_cons, Region.lexFrom, Bool.and_eq_true] at hB
  obtain ⟨⟨hr, hf⟩, hB'⟩ := hB
  obtain ⟨hg, h⟩ := h
  have hk' : ∀ j, j < k + 1 → (listed.setIfInBounds k true).getD j true = true := fun j hj => by
   by_cases hjk : k = j
   ·subst hjk
    rcases Nat.lt_or_ge k listed.size with h' | h'
    ·simp [h']
    ·simp [Array.getElem?_eq_none h']
   ·rw [getD_set_ne true hjk]; exact hk j (by omega)
  have hu' : ∀ j o, k + 1 ≤ j → ops[j]? = some o → (listed.setIfInBounds k true).getD j true = false := fun j o' hj ho => by
   rw [getD_set_ne true (show k ≠ j by omega)]; exact hu j o' (by omega) ho
  have hcl : Z3V ops md listed := fun a b ha hab => by
   obtain ⟨o', e, ho', _⟩ := hab.step
   refine hu b o' ?_ ho'
   rcases Nat.lt_or_ge a k with h' | h'
   ·rw [hk a h'] at ha; cases ha
   ·have := hab.lt; omega
  have hl' : ∀ j, l[j]? = ops[k + 1 + j]? := fun j => by have := hl (j + 1); simpa [Nat.add_assoc, Nat.add_comm 1 j] using this
  have hn' : k + 1 + l.length = ops.size := by simp only [List.length_cons] at hn; omega
  have hlk : laF ops lst k = (lst && l.isEmpty) := by
   unfold laF
   cases l with
   | nil => simp only [List.length_nil] at hn'; simp [show k + 1 = ops.size by omega]
   | cons a l => simp only [List.length_cons] at hn'; simp [show ¬ k + 1 = ops.size by omega]
  have hnd : laF ops lst k = true → Region.ready md ops (listed.setIfInBounds k true) = [] := fun hlast => by
   rw [hlk, Bool.and_eq_true] at hlast
   obtain rfl : l = [] := by simpa using hlast.2
   simpa [Region.lexFrom] using hB'
  cases hak : as.contains k with
  | true =>
   rw [hak] at h
   simp only [if_true] at h
   have hlk' : laF ops lst k = true → l = [] := fun hh => by
    rw [hlk, Bool.and_eq_true] at hh; simpa using hh.2
   exact Z5f (Z9m hla) hH h0 l.length listed fr L _ (Z6P hm h0 hk hf) hcl (by simpa using hr) hL (by unfold Ye; rw [hak]; exact ⟨hg, by simp only [if_true]; exact ⟨h.1, h.2.1, trivial, trivial, h.2.2.1⟩⟩) hnd
    (Z4S hH hm hla l (k + 1) _ _ _ hl' hn' hk' hu' hB' (.inr h.2.2.1) h.2.2.2)
  | false =>
   rw [hak] at h
   simp only [Bool.false_eq_true, if_false] at h
   cases hmk : ms.contains k with
   | true =>
    rw [hmk] at h
    simp only [if_true] at h
    refine Z5f (Z9m hla) hH h0 l.length listed fr L _ (Z6P hm h0 hk hf) hcl (by simpa using hr) hL (by
      unfold Ye; rw [hmk, hlk, hak]
      refine ⟨hg, ?_⟩
      simp only [Bool.false_eq_true, if_false, if_true]
      exact ⟨h.1, trivial, trivial, Z6H h.2.2.1, fun hs => by have := h.2.1; rw [hs] at this; simpa using this⟩) hnd
     (Z4S hH hm hla l (k + 1) _ _ _ hl' hn' hk' hu' hB' ?_ h.2.2.2)
    cases l with
    | nil => exact .inl rfl
    | cons a l => exact .inr (Z6H h.2.2.1 (by simp))
   | false =>
    rw [hmk] at h
    simp only [Bool.false_eq_true, if_false] at h
    exact Z5f (Z9m hla) hH h0 l.length listed fr L L (Z6P hm h0 hk hf) hcl (by simpa using hr) hL (by
      unfold Ye; rw [hmk, hak]
      refine ⟨hg, ?_⟩
      simp only [Bool.false_eq_true, if_false, true_and]
      exact fun G hG => ⟨(h.1 G hG).1, (h.1 G hG).2.1, by rw [(h.1 G hG).2.2]⟩) hnd
     (Z4S hH hm hla l (k + 1) _ _ _ hl' hn' hk' hu' hB' (.inr hL) h.2)
theorem Z8b {R : Option Nat} (hΓ : Z06 P Γ) {B : Z7M} {H : Z01 → Prop} {mk la al st : Nat → Bool} {i : Nat} {nd : Prop} {K : List AV → Z01 → Prop} {K' : Act → World → Prop} {Q : Exit → Act → World → Prop} (hK : ∀ fr L m a w, H L ∨ nd → K fr L → RS B fr L m a w → K' a w)
  {fr : List AV} {L : Z01} {m : Mem} {a : Act} {w : World} (hL : H L) (h : opE P Γ ops H mk la al st i nd K fr L) (hR : RS B fr L m a w) : wpOpIn (Z1l R) 0 P ops Q i K' a w := by
 unfold opE at h
 unfold wpOpIn
 split
 ·rename_i ho; rw [ho] at h; exact hK _ _ _ _ _ (.inl hL) h hR
 ·rename_i o ho
  rw [ho] at h
  obtain ⟨v, L', hy, hnd, h⟩ := h
  have hL' : H L' ∨ nd := by
   cases hl : la i with
   | true => exact .inr (hnd hl)
   | false => rw [hl] at hy; exact .inl (hy.keeps hL)
  unfold Ye at hy
  obtain ⟨hg, hy⟩ := hy
  have hstep : (stepA P Γ ops.toList (Z0i ops.toList fr o.guard) fr L o).pre ∧ L' = (stepA P Γ ops.toList (Z0i ops.toList fr o.guard) fr L o).L ∧ v = mkV o.guard (Z0i ops.toList fr o.guard) (stepA P Γ ops.toList (Z0i ops.toList fr o.guard) fr L o).v := by
   cases ha : al i with
   | true => rw [ha] at hy; simp only [if_true] at hy; exact ⟨hy.2.1, hy.2.2.2.1, hy.2.2.1⟩
   | false =>
    rw [ha] at hy; simp only [Bool.false_eq_true, if_false] at hy
    cases hm : mk i with
    | true => rw [hm] at hy; simp only [if_true] at hy; exact ⟨hy.1, hy.2.2.1, hy.2.1⟩
    | false =>
     rw [hm] at hy; simp only [Bool.false_eq_true, if_false] at hy
     obtain ⟨h1, h2, h3⟩ := hy.2 L hL
     exact ⟨h1, by rw [h2]; exact hy.1, h3⟩
  obtain ⟨hp, rfl, rfl⟩ := hstep
  have := Z3Z (P := P) (Γ := Γ) (R := R) hΓ hR.wrel hR.frel ops o (next := K') (Q := Q) hg hp fun a' w' m' k1 k2 k3 k4 => hK _ _ _ _ _ hL' h ⟨k1, k2, hR.ext.trans k3, by rw [k4, hR.defers]⟩
  split
  ·rename_i hw; rw [if_pos hw] at this; exact this
  ·rename_i hw; rw [if_neg hw] at this; exact this
theorem Z5e {R : Option Nat} (hΓ : Z06 P Γ) {B : Z7M} {H : Z01 → Prop} {mk la al st : Nat → Bool} {K : List AV → Z01 → Prop} {Q : Exit → Act → World → Prop} (hK : ∀ fr L m a w, K fr L → RS B fr L m a w → Q .normal a w) :
  ∀ (fuel : Nat) (listed : Array Bool) (fr : List AV) (L : Z01) (m : Mem) (a : Act) (w : World), H L ∨ Region.ready md ops listed = [] → Zls P Γ md ops H mk la al st K fuel listed fr L → RS B fr L m a w → wpAnyIn (Z1l R) 0 P md ops Q fuel listed a w
 | 0, _, _, _, _, _, _, _, h, hR => ⟨h.1, hK _ _ _ _ _ h.2 hR⟩
 | fuel + 1, listed, _, L, _, _, _, hL, h, hR => by
  refine ⟨fun h0 => hK _ _ _ _ _ (h.1 h0) hR, fun i hi => ?_⟩
  rcases hL with hL | hL
  ·exact Z8b hΓ (fun fr' L' m' a' w' hL' h' hR' => Z5e hΓ hK fuel _ fr' L' m' a' w' hL' h' hR') hL (h.2 i hi) hR
  ·rw [hL] at hi; cases hi
end
theorem Z02.drawnE {X : Cx} {id : Nat} {ops : Array Oper} {k : List It} {fr : List AV} {L : Z01} (H : Z01 → Prop) (ms as ss : List Nat) (lst : Bool) (hm : X.P.follows .mixedOrders = true) (hB : Region.lexB .any ops = true) (ho : Zji ops .any ms as ss = true) (hla : Zdh ops .any lst = true) (hH : as = [] ∨ ∀ G A, H G → H (G ++ A)) (hL : H L)
  (h : evE X.P X.Γ ops.toList H ms as ss lst 0 ops.toList fr L (Z02 X k)) : Z02 X (.code (.region id ops true) :: k) fr L := by
 intro m a w hR
 simp only [W]
 simp only [Region.lexB, Bool.and_eq_true] at hB
 refine wpIn_region_any hm ?_
 have hR' : RS X.B fr L m a { w with drawn := w.drawn + 1 } := hR.drew
 have := Z4S (P := X.P) (Γ := X.Γ) (md := .any) (ops := ops) (K := Z02 X k) (fun ⟨i, hi⟩ => by rcases hH with hH | hH; subst hH; simp at hi; exact hH) ho hla ops.toList 0 (Array.replicate ops.size false) fr L (by simp) (by simp) (fun j hj => by omega) (fun j o hj ho => by have := (Array.getElem?_eq_some_iff.1 ho).1; simp [this]) (by simpa using hB.2) (.inr hL) h
 have h2 := Z5e (R := X.R) (md := .any) (Q := W X.P X.R X.B X.Q k) X.ok (fun fr L m a w hk hR => hk m a w hR) _ _ fr L m a _ (.inl hL) this hR'
 simpa using h2
attribute [push_cast] evE Z76 ZkB Zag Zgj Zgi
mutual
def Z3c : AV → AV
 | .lit (.slice none 0 0) => .sl [] 0
 | .agg cs => .agg (Z1b cs)
 | .tup cs => .tup (Z1b cs)
 | x => x
def Z1b : List AV → List AV
 | [] => []
 | x :: xs => Z3c x :: Z1b xs
end
mutual
theorem Z04.soft {m : Mem} {L : Z01} : ∀ (x : AV) (u : Value), Z04 m L x u → Z04 m L (Z3c x) u
 | .lit v, u, h => by
  by_cases hv : v = .slice none 0 0
  ·subst hv
   simp only [Z04, Z3c] at *
   exact ⟨none, 0, h, Nat.le_refl _, [], Z0b.nil _ _, .inl rfl⟩
  ·have e : Z3c (.lit v) = .lit v := by
    unfold Z3c
    split <;> simp_all
   rw [e]; exact h
 | .agg cs, u, h => by
  simp only [Z04, Z3c] at *
  obtain ⟨us, rfl, hc⟩ := h
  exact ⟨us, rfl, Z0b.soft cs us hc⟩
 | .tup cs, u, h => by
  simp only [Z04, Z3c] at *
  obtain ⟨us, rfl, hc⟩ := h
  exact ⟨us, rfl, Z0b.soft cs us hc⟩
 | .any, _, h => h
 | .int .., _, h => h
 | .bool _, _, h => h
 | .str _, _, h => h
 | .sl .., _, h => h
 | .msl .., _, h => h
 | .ref .., _, h => h
 | .ip _, _, h => h
 | .fn .., _, h => h
 | .ifc .., _, h => h
 | .when .., _, h => h
 | .alt .., _, h => h
 | .ub .., _, h => h
 | .csl .., _, h => h
 | .mp .., _, h => h
 | .mpr .., _, h => h
theorem Z0b.soft {m : Mem} {L : Z01} : ∀ (cs : List AV) (us : List Value), Z0b m L cs us → Z0b m L (Z1b cs) us
 | [], _, h => by simpa only [Z1b] using h
 | c :: cs, us, h => by
  simp only [Z0b, Z1b] at *
  obtain ⟨u, us', rfl, h1, h2⟩ := h
  exact ⟨u, us', rfl, Z04.soft c u h1, Z0b.soft cs us' h2⟩
end
theorem Z3D : ∀ cs : List AV, (Z1b cs).length = cs.length
 | [] => by simp only [Z1b]
 | c :: cs => by simp only [Z1b, List.length_cons, Z3D cs]
theorem ZbM : Z3c (.lit (.slice none 0 0)) = .sl [] 0 := by simp only [Z3c]
theorem ZbL (cs : List AV) : Z3c (.tup cs) = .tup (Z1b cs) := by simp only [Z3c]
theorem ZbN (k : IntKind) (n : Int) : Z3c (.int k n) = .int k n := by simp only [Z3c]
theorem ZbO : Z1b [] = [] := by simp only [Z1b]
theorem ZaN (x : AV) (xs : List AV) : Z1b (x :: xs) = Z3c x :: Z1b xs := by simp only [Z1b]
theorem Z0o.soft {L0 : Z01} {fr : List AV} {L : Z01} {S : List AV × Z01} (h : Z0o L0 (Z1b fr) L S) : Z0o L0 fr L S := .sem (fun m us => Z0b.soft fr us) h
theorem Z0o.softH {L0 : Z01} {fr : List AV} {L : Z01} {S : List AV × Z01} (id : Nat) {cs : List AV} {sz v : Nat} (hL : L[id]? = some (.row cs sz v)) (h : Z0o L0 fr (L.set id (.row (Z1b cs) sz v)) S) : Z0o L0 fr L S := .recell id (Z1b cs) hL (Z3D cs) (fun m us => Z0b.soft cs us) h
attribute [push_cast] ZbM ZbL ZbN ZbO ZaN
theorem Z02.recell {X : Cx} {k : List It} {fr : List AV} {L : Z01} (id : Nat) (cs' : List AV) {cs : List AV} {sz v : Nat} (hL : L[id]? = some (.row cs sz v)) (hl : cs'.length = cs.length) (hc : ∀ m us, Z0b m L cs us → Z0b m L cs' us)
  (h : Z02 X k fr (L.set id (.row cs' sz v))) : Z02 X k fr L := fun m a w hR =>
 h m a w ⟨hR.wrel.recell hL hl (hc m), Z0b.mono (Z1Z hL hl) _ _ hR.frel, hR.ext.recell hL hl, hR.defers⟩
theorem Z02.nilH {X : Cx} {k : List It} {fr : List AV} {L : Z01} (id j sz' : Nat) {cs : List AV} {sz v : Nat} (hL : L[id]? = some (.row cs sz v)) (hj : cs.getD j .any = .lit (.slice none 0 0))
  (h : Z02 X k fr (L.set id (.row (cs.set j (.msl L.length 0 0 0)) sz v) ++ [.row [] sz' 0])) : Z02 X k fr L := by
 intro m a w hR
 have hlt := (List.getElem?_eq_some_iff.1 hL).1
 have hL1 : (L ++ [Z0R.row [] sz' 0])[id]? = some (.row cs sz v) := by rw [List.getElem?_append_left hlt]; exact hL
 have e : L.set id (.row (cs.set j (.msl L.length 0 0 0)) sz v) ++ [Z0R.row [] sz' 0] = (L ++ [Z0R.row [] sz' 0]).set id (.row (cs.set j (.msl L.length 0 0 0)) sz v) := by
  rw [List.set_append_left _ _ hlt]
 rw [e] at h
 have hjl : j < cs.length := by
  rcases Nat.lt_or_ge j cs.length with h' | h'
  ·exact h'
  ·simp [List.getD, List.getElem?_eq_none h'] at hj
 have hW1 := hR.wrel.nil (sz := sz')
 have hE1 := hR.ext.nil (sz := sz')
 have hc1 := Z0b.mono (Z43 (m := m) (L := L) (sz := sz')) _ _ hR.frel
 have hv : Z04 (Z4V m L.length) (L ++ [Z0R.row [] sz' 0]) (.msl L.length 0 0 0) (.slice none 0 0) := by
  simp only [Z04]
  exact ⟨[], sz', 0, by simp, Nat.le_refl _, ⟨none, 0, 0, rfl⟩, fun _ => ⟨by simp, by simp, none, by simp [Z4V], .inl (by simp [Z4V])⟩⟩
 have hcell : ∀ us, Z0b (Z4V m L.length) (L ++ [Z0R.row [] sz' 0]) cs us → Z0b (Z4V m L.length) (L ++ [Z0R.row [] sz' 0]) (cs.set j (.msl L.length 0 0 0)) us := by
  intro us hcs
  refine Z0b.mk (by simp [hcs.length]) fun i c u hi hu => ?_
  rw [List.getElem?_set] at hi
  by_cases hij : j = i
  ·subst hij
   simp [hjl] at hi
   subst hi
   have := hcs.getD j
   rw [hj] at this
   simp only [Z04] at this
   simp [List.getD, hu] at this
   rw [this]; exact hv
  ·simp [hij] at hi
   obtain ⟨u1, hu1, hr1⟩ := hcs.get i c hi
   rw [hu] at hu1; obtain rfl := Option.some.inj hu1; exact hr1
 exact h _ a w ⟨hW1.recell hL1 (by simp) hcell, Z0b.mono (Z1Z hL1 (by simp)) _ _ hc1, hE1.recell hL1 (by simp), hR.defers⟩
inductive Pt where
 | fix (o : Z0R)
 | row (sz ver : Nat)
 | len (n sz ver : Nat)
 | any
def Z1s : List Pt → Z01 → Prop
 | [], _ => True
 | .fix o :: ps, G => ∃ G', G = o :: G' ∧ Z1s ps G'
 | .row sz v :: ps, G => ∃ cs G', G = .row cs sz v :: G' ∧ Z1s ps G'
 | .len n sz v :: ps, G => ∃ cs G', cs.length = n ∧ G = .row cs sz v :: G' ∧ Z1s ps G'
 | .any :: ps, G => ∃ o G', G = o :: G' ∧ Z1s ps G'
theorem ZjV (f : Z01 → Prop) : qob (Z1s []) f = ∀ A, f A := propext ⟨fun h A => h A trivial, fun h A _ => h A⟩
theorem ZjU (o : Z0R) (ps : List Pt) (f : Z01 → Prop) : qob (Z1s (.fix o :: ps)) f = qob (Z1s ps) (fun G => f (o :: G)) := propext ⟨fun h G hG => h _ ⟨G, rfl, hG⟩, fun h G ⟨G', e, hG⟩ => e ▸ h G' hG⟩
theorem ZjT (sz v : Nat) (ps : List Pt) (f : Z01 → Prop) : qob (Z1s (.row sz v :: ps)) f = ∀ cs, qob (Z1s ps) (fun G => f (.row cs sz v :: G)) := propext ⟨fun h cs G hG => h _ ⟨cs, G, rfl, hG⟩, fun h G ⟨cs, G', e, hG⟩ => e ▸ h cs G' hG⟩
theorem ZjS (ps : List Pt) (f : Z01 → Prop) : qob (Z1s (.any :: ps)) f = ∀ o, qob (Z1s ps) (fun G => f (o :: G)) := propext ⟨fun h o G hG => h _ ⟨o, G, rfl, hG⟩, fun h G ⟨o, G', e, hG⟩ => e ▸ h o G' hG⟩
theorem Zk3 (o : Z0R) (ps : List Pt) (G : Z01) : Z1s (.any :: ps) (o :: G) = Z1s ps G := propext ⟨fun ⟨_, _, h, h'⟩ => by cases h; exact h', fun h => ⟨_, _, rfl, h⟩⟩
theorem Zk7 (G : Z01) : Z1s [] G = True := rfl
theorem Zk6 (o : Z0R) (ps : List Pt) (G : Z01) : Z1s (.fix o :: ps) (o :: G) = Z1s ps G := by simp [Z1s]
theorem Zk5 (cs : List AV) (sz v : Nat) (ps : List Pt) (G : Z01) : Z1s (.row sz v :: ps) (.row cs sz v :: G) = Z1s ps G := propext ⟨fun ⟨_, _, h, h'⟩ => by cases h; exact h', fun h => ⟨_, _, rfl, h⟩⟩
theorem Zk4 (n : Nat) (cs : List AV) (sz v : Nat) (ps : List Pt) (G : Z01) : Z1s (.len n sz v :: ps) (.row cs sz v :: G) = (cs.length = n ∧ Z1s ps G) := propext ⟨fun ⟨_, _, hl, h, h'⟩ => by cases h; exact ⟨hl, h'⟩, fun h => ⟨_, _, h.1, rfl, h.2⟩⟩
theorem Z4C : ∀ (ps : List Pt) {G : Z01} (A : Z01), Z1s ps G → Z1s ps (G ++ A)
 | [], _, _, _ => trivial
 | .fix o :: ps, _, A, ⟨G', e, h⟩ => ⟨G' ++ A, by rw [e]; rfl, Z4C ps A h⟩
 | .row sz v :: ps, _, A, ⟨cs, G', e, h⟩ => ⟨cs, G' ++ A, by rw [e]; rfl, Z4C ps A h⟩
 | .len n sz v :: ps, _, A, ⟨cs, G', hl, e, h⟩ => ⟨cs, G' ++ A, hl, by rw [e]; rfl, Z4C ps A h⟩
 | .any :: ps, _, A, ⟨o, G', e, h⟩ => ⟨o, G' ++ A, by rw [e]; rfl, Z4C ps A h⟩
attribute [push_cast] ZjV ZjU ZjT ZjS Zk7 Zk6 Zk5 Zk4 Zk3
structure Zjg where
 ids : List AV → Z01 → List Nat
 args : List AV → Z01 → List AV
 start : List AV → Z01 → Z01
 pre : List AV → Z01 → Prop
 res : List AV → Z01 → AV
 post : List AV → Z01 → Z01
def liftH (g : Zjg) : Z0n where
 pre xs L := (∀ x ∈ xs, ZgD L (g.ids xs L) x) ∧ (g.ids xs L).Nodup ∧ xs.map (Z3O L (g.ids xs L)) = renL (fun j => (g.ids xs L).getD j j) (g.args xs L) ∧
  ((g.ids xs L).map fun i => L[i]?) = ((g.start xs L).map fun o => some (Z1i (fun j => (g.ids xs L).getD j j) o)) ∧ Z1A (g.start xs L).length (g.args xs L) = true ∧ (g.start xs L).all (Z3F (g.start xs L).length) = true ∧
  g.pre (g.args xs L) (g.start xs L) ∧ (xs.any (Z4d L (g.ids xs L)) = true → Z3g (g.res (g.args xs L) (g.start xs L)) = true ∧ (g.post (g.args xs L) (g.start xs L)).all Z41 = true)
 res xs L := ren (ZfL (g.ids xs L) L.length) (g.res (g.args xs L) (g.start xs L))
 post xs L := Z87 (g.ids xs L) L (g.post (g.args xs L) (g.start xs L))
 quiet := false
section
variable {P : Program} {Γ : Env}
open Classical in
theorem Con.liftH {f : FuncId} (hfn : ∃ fn, P.funcs[f]? = some fn ∧ fn.body.isNone = false ∧ (fn.name == "runtime.NumGoroutine") = false) {g : Zjg}
  (h : ∀ (m : Mem) (L : Z01) (w : World) (xs : List AV) (vs : List Value), Z0A m L w → Z0b m L xs vs → g.pre xs L → Calls P f vs.toArray w (Zfj m L w (g.res xs L) (g.post xs L))) : Con P f (Eng.liftH g) where
 quiet hq := by cases hq
 runs := .inl ⟨hfn, fun m L w xs vs hW hx hp => by
  obtain ⟨h1, h2, h3, h4, h5, h6, h7, h8⟩ := hp
  obtain ⟨ids, hids⟩ : ∃ ids, ids = g.ids xs L := ⟨_, rfl⟩
  rw [← hids] at h1 h2 h3 h4 h8
  obtain ⟨mp, hmp⟩ : ∃ mp : Mem, mp = if xs.any (Z4d L ids) = true then { m with pobj := fun g => if (∃ i ∈ ids, Own m L i ∧ m.blk i = g) ∨ (∃ i ∈ ids, Hid m L i g) then none else w.heap[g]? } else m := ⟨_, rfl⟩
  have hpin : ∀ g o, m.pobj g = some o → mp.pobj g = some o := by
   intro g o hv
   rw [hmp]
   split
   ·simp only
    rw [if_neg]
    ·exact hW.pobjs _ _ hv
    ·rintro (⟨i, hi, ho, rfl⟩ | ⟨i, hi, hk⟩)
     ·have := hW.freeo i ho
      rw [hv] at this; cases this
     ·have := hW.hid.free i _ hk
      rw [hv] at this; cases this
   ·exact hv
  have hblk : mp.blk = m.blk ∧ mp.cap = m.cap := by rw [hmp]; split <;> exact ⟨rfl, rfl⟩
  have hpins : ∀ g o, mp.pobj g = some o → w.heap[g]? = some o := by
   intro g o hv
   rw [hmp] at hv
   split at hv
   ·simp only at hv
    split at hv
    ·cases hv
    ·exact hv
   ·exact hW.pobjs _ _ hv
  have hfree : ∀ i ∈ ids, Own m L i → mp.pobj (m.blk i) = none := by
   intro i hi ho
   rw [hmp]
   split
   ·simp only
    rw [if_pos (.inl ⟨i, hi, ho, rfl⟩)]
   ·exact hW.freeo i ho
  have M : Z4q m L mp L := ⟨hpin, fun id cs sz ver h => ⟨cs, ver, h, Nat.le_refl _, fun _ => ⟨rfl, by rw [hblk.1], by rw [hblk.2]⟩⟩, fun id r h => ⟨r, h, by rw [hblk.1]⟩⟩
  have hx' : Z0b mp L (xs.map (Z3O L ids)) vs := (Zlv hW M (keep := Z3j ids) (full := xs.any (Z4d L ids) = true) fun hf g hno hnh => by
   rw [hmp, if_pos hf]
   simp only
   rw [if_neg]
   rintro (⟨i, hi, ho, he⟩ | ⟨i, hi, hk⟩)
   ·exact hno i (by simp [Z3j, hi]) ho he
   ·exact hnh i (by simp [Z3j, hi]) hk).list hx h1 (fun h => h)
  have hw : Zbu 0 ids (xs.map (Z3O L ids)) L (g.args xs L) (g.start xs L) := ⟨by rw [h3]; exact Z1e _, h4, h2, rfl, h5, h6⟩
  have H := hw.renamed mp
  have hc0 := Z0b.ren H _ _ (by rw [← h3]; exact hx') h5
  obtain ⟨mb, hmb⟩ : ∃ mb : Mem, mb = { mp with blk := fun i => mp.blk (ids.getD i i), cap := fun i => mp.cap (ids.getD i i) } := ⟨_, rfl⟩
  rw [← hmb] at H hc0
  have hgd : ∀ j, j < ids.length → ids.getD j j = ids.getD j 0 := fun j hj => by simp [List.getD, hj]
  have HL : Z9I m mb L (g.start xs L) ids := ⟨h2, h4, fun j hj => by rw [hmb]; simp only [hblk.1, hgd j hj], fun j hj => by rw [hmb]; simp only [hblk.2, hgd j hj], fun g o hv => by rw [hmb]; exact hpin g o hv⟩
  have hfreeH : ∀ i ∈ ids, ∀ g, Hid m L i g → mp.pobj g = none := by
   intro i hi g hk
   rw [hmp]
   split
   ·simp only
    rw [if_pos (.inr ⟨i, hi, hk⟩)]
   ·exact hW.hid.free i g hk
  have hW0 : Z0A mb (g.start xs L) w := by
   have hs' : ∀ o ∈ g.start xs L, Z3F (g.start xs L).length o = true := by simpa [List.all_eq_true] using h6
   refine ⟨hW.glob.mono fun g o hv => by rw [hmb]; exact hpin g o hv, fun g o hv => hpins g o (by rw [hmb] at hv; exact hv), fun j cs sz ver hL hc => ?_, fun j cs sz ver hL hc => ?_, fun j r hL => ?_, fun i j hi hj he => ?_, fun j ho => ?_, ⟨fun j T e l hL => ?_, fun j g k => ?_, fun j g k i hi => ?_, fun i j g k1 k2 => ?_⟩⟩
   ·obtain ⟨k1, k2⟩ := HL.at hL
    rw [HL.cap j k1] at hc ⊢
    obtain ⟨us, rest, elem, lo, hi, q1, q2, q3, q4⟩ := hW.rows _ _ _ _ k2 hc
    have hscp := hs' _ (List.mem_of_getElem? hL)
    exact ⟨us, rest, elem, lo, hi, by rw [HL.blk j k1]; exact q1, Z0b.ren H _ _ (Z0b.mono M _ _ q2) (by simpa [Z3F] using hscp), q3, q4⟩
   ·obtain ⟨k1, k2⟩ := HL.at hL
    rw [HL.cap j k1] at hc
    have := hW.nils _ _ _ _ k2 hc
    rw [Z2d] at this
    simpa using this
   ·obtain ⟨k1, k2⟩ := HL.at hL
    rw [HL.blk j k1]; exact hW.iters _ _ k2
   ·obtain ⟨a1, a2, a3⟩ := HL.own hi
    obtain ⟨b1, b2, b3⟩ := HL.own hj
    exact Z4M h2 a1 b1 (hW.inj _ _ a2 b2 (by omega))
   ·obtain ⟨a1, a2, a3⟩ := HL.own ho
    rw [a3, hmb]
    exact hfree _ (Z1k a1) a2
   ·obtain ⟨k1, k2⟩ := HL.at hL
    rw [HL.blk j k1, HL.cap j k1]; exact hW.hid.at_ _ _ _ _ k2
   ·obtain ⟨a1, a2⟩ := HL.hid k
    rw [hmb]; exact hfreeH _ (Z1k a1) g a2
   ·obtain ⟨a1, a2⟩ := HL.hid k
    obtain ⟨b1, b2, b3⟩ := HL.own hi
    rw [b3]; exact hW.hid.own _ _ a2 _ b2
   ·obtain ⟨a1, a2⟩ := HL.hid k1
    obtain ⟨b1, b2⟩ := HL.hid k2
    exact Z4M h2 a1 b1 (hW.hid.inj _ _ _ a2 b2)
  have := (h mb (g.start xs L) w (g.args xs L) vs hW0 hc0 h7).mono fun e w' hpost => Z6G hW HL (xs.any (Z4d L ids)) (fun hf => by rw [hmb, hmp, hf]; rfl) hpost h8
  rw [hids] at this
  exact this⟩
theorem Con.liftH_of_body (hΓ : Z06 P Γ) {f : FuncId} {fn : Func} (hf : P.funcs[f]? = some fn) (hb : fn.body.isNone = false) (hn : (fn.name == "runtime.NumGoroutine") = false) {g : Zjg}
  (h : ∀ xs L, g.pre xs L → Z09 P Γ fn xs L (g.res xs L) (g.post xs L)) : Con P f (Eng.liftH g) :=
 Con.liftH ⟨fn, hf, hb, hn⟩ fun m L w xs vs hW hx hp => Z3r hΓ hf (h xs L hp) hW hx
end
mutual
def Z2Q : AV → List Nat
 | .ref id _ _ => [id]
 | .fn _ a b => Z3y a ++ Z3y b
 | .agg cs => Z3y cs
 | _ => []
def Z3y : List AV → List Nat
 | [] => []
 | x :: xs => Z2Q x ++ Z3y xs
end
def Z1U : List AV → List Nat
 | [] => []
 | .msl id _ _ _ :: xs => id :: Z1U xs
 | .ref id _ _ :: xs => id :: Z1U xs
 | .mp id :: xs => id :: Z1U xs
 | _ :: xs => Z1U xs
def Z2R (deep : Bool) (L : Z01) (id : Nat) : List Nat := match L[id]? with
 | some (.row cs _ _) => cond deep (Z1U cs) (Z3y cs)
 | _ => []
def inL : List Nat → Nat → Bool
 | [], _ => false
 | i :: is, j => i == j || inL is j
def Z0O : List Nat → List Nat → List Nat
 | is, [] => is
 | is, j :: js => cond (inL is j) (Z0O is js) (Z0O (is ++ [j]) js)
def Z1K : List Nat → List Nat → List Nat
 | _, [] => []
 | is, j :: js => cond (inL is j) (Z1K is js) (j :: Z1K is js)
def Zfn : List Nat → Nat → Nat
 | [], _ => 0
 | i :: is, j => cond (i == j) 0 (Zfn is j + 1)
def Z1q (deep : Bool) (L : Z01) : Nat → List Nat → List Nat → List Nat
 | 0, is, _ => is
 | _ + 1, is, [] => is
 | n + 1, is, q :: qs => Z1q deep L n (Z0O is (Z2R deep L q)) (qs ++ Z1K is (Z2R deep L q))
def Z5S (deep : Bool) (xs : List AV) (L : Z01) : List Nat := Z1q deep L 9 (Z0O [] (Z3y xs)) (Z0O [] (Z3y xs))
theorem Zip (j : Nat) : inL [] j = false := rfl
theorem ZgH (i j : Nat) (is : List Nat) : inL (i :: is) j = (i == j || inL is j) := rfl
theorem Zbm (is : List Nat) : Z0O is [] = is := rfl
theorem Z9G (is js : List Nat) (j : Nat) : Z0O is (j :: js) = cond (inL is j) (Z0O is js) (Z0O (is ++ [j]) js) := rfl
theorem Zd1 (is : List Nat) : Z1K is [] = [] := rfl
theorem Zb7 (is js : List Nat) (j : Nat) : Z1K is (j :: js) = cond (inL is j) (Z1K is js) (j :: Z1K is js) := rfl
theorem ZgJ (j : Nat) : Zfn [] j = 0 := rfl
theorem Zdl (i j : Nat) (is : List Nat) : Zfn (i :: is) j = cond (i == j) 0 (Zfn is j + 1) := rfl
theorem ZfY (deep : Bool) (xs : List AV) (L : Z01) : Z5S deep xs L = Z1q deep L 9 (Z0O [] (Z3y xs)) (Z0O [] (Z3y xs)) := rfl
theorem ZaU (deep : Bool) (L : Z01) (n : Nat) (is : List Nat) : Z1q deep L n is [] = is := by cases n <;> rfl
theorem ZfZ (deep : Bool) (L : Z01) (is qs : List Nat) (q : Nat) : Z1q deep L 9 is (q :: qs) = Z1q deep L 8 (Z0O is (Z2R deep L q)) (qs ++ Z1K is (Z2R deep L q)) := rfl
theorem Zg0 (deep : Bool) (L : Z01) (is qs : List Nat) (q : Nat) : Z1q deep L 8 is (q :: qs) = Z1q deep L 7 (Z0O is (Z2R deep L q)) (qs ++ Z1K is (Z2R deep L q)) := rfl
theorem Zg1 (deep : Bool) (L : Z01) (is qs : List Nat) (q : Nat) : Z1q deep L 7 is (q :: qs) = Z1q deep L 6 (Z0O is (Z2R deep L q)) (qs ++ Z1K is (Z2R deep L q)) := rfl
theorem Zg2 (deep : Bool) (L : Z01) (is qs : List Nat) (q : Nat) : Z1q deep L 6 is (q :: qs) = Z1q deep L 5 (Z0O is (Z2R deep L q)) (qs ++ Z1K is (Z2R deep L q)) := rfl
theorem Zg3 (deep : Bool) (L : Z01) (is qs : List Nat) (q : Nat) : Z1q deep L 5 is (q :: qs) = Z1q deep L 4 (Z0O is (Z2R deep L q)) (qs ++ Z1K is (Z2R deep L q)) := rfl
theorem Zg4 (deep : Bool) (L : Z01) (is qs : List Nat) (q : Nat) : Z1q deep L 4 is (q :: qs) = Z1q deep L 3 (Z0O is (Z2R deep L q)) (qs ++ Z1K is (Z2R deep L q)) := rfl
theorem Zg5 (deep : Bool) (L : Z01) (is qs : List Nat) (q : Nat) : Z1q deep L 3 is (q :: qs) = Z1q deep L 2 (Z0O is (Z2R deep L q)) (qs ++ Z1K is (Z2R deep L q)) := rfl
theorem Zca (id v o : Nat) : Z2Q (.ref id v o) = [id] := rfl
theorem Zcf (cs : List AV) : Z2Q (.agg cs) = Z3y cs := by simp only [Z2Q]
theorem Zce (k : IntKind) (n : Int) : Z2Q (.int k n) = [] := rfl
theorem Zc9 (l : List UInt8) : Z2Q (.str l) = [] := rfl
theorem ZaP (b : Bool) : Z2Q (.bool b) = [] := rfl
theorem Zcd (v : Value) : Z2Q (.lit v) = [] := rfl
theorem ZfS (cs : List AV) (n : Nat) : Z2Q (.sl cs n) = [] := by simp only [Z2Q]
theorem Zcb (a b c d : Nat) : Z2Q (.msl a b c d) = [] := rfl
theorem Zcc (k : Option IntKind) (f : Key → Option Value) : Z2Q (.mpr k f) = [] := rfl
theorem ZfT (id : Nat) : Z2Q (.mp id) = [] := rfl
theorem Zcg : Z3y [] = [] := rfl
theorem ZaQ (x : AV) (xs : List AV) : Z3y (x :: xs) = Z2Q x ++ Z3y xs := by simp only [Z3y]
theorem Zc4 : Z1U [] = [] := rfl
theorem Zc5 (id v o n : Nat) (xs : List AV) : Z1U (.msl id v o n :: xs) = id :: Z1U xs := rfl
theorem Zc3 (id v o : Nat) (xs : List AV) : Z1U (.ref id v o :: xs) = id :: Z1U xs := rfl
theorem ZfP (id : Nat) (xs : List AV) : Z1U (.mp id :: xs) = id :: Z1U xs := rfl
theorem Zc8 (k : IntKind) (n : Int) (xs : List AV) : Z1U (.int k n :: xs) = Z1U xs := rfl
theorem Zc2 (l : List UInt8) (xs : List AV) : Z1U (.str l :: xs) = Z1U xs := rfl
theorem ZaO (b : Bool) (xs : List AV) : Z1U (.bool b :: xs) = Z1U xs := rfl
theorem Zc7 (v : Value) (xs : List AV) : Z1U (.lit v :: xs) = Z1U xs := rfl
theorem ZfO (cs : List AV) (n : Nat) (xs : List AV) : Z1U (.sl cs n :: xs) = Z1U xs := rfl
theorem ZfQ (cs : List AV) (xs : List AV) : Z1U (.ip cs :: xs) = Z1U xs := rfl
mutual
theorem ZcH : ∀ x : AV, Z0r x = true → Z2Q x = []
 | .agg cs, h => by simp only [Z0r, Z2Q] at *; exact Z2p cs h
 | .fn _ a b, h => by simp only [Z0r, Z2Q, Bool.and_eq_true] at *; rw [Z2p a h.1, Z2p b h.2]; rfl
 | .tup _, _ => by simp only [Z2Q]
 | .sl .., _ => by simp only [Z2Q]
 | .ip _, _ => by simp only [Z2Q]
 | .ifc .., _ => by simp only [Z2Q]
 | .int .., _ => rfl
 | .bool _, _ => rfl
 | .str _, _ => rfl
 | .lit _, _ => rfl
 | .mpr .., _ => rfl
 | .any, h => by simp [Z0r] at h
 | .msl .., h => by simp [Z0r] at h
 | .ref .., h => by simp [Z0r] at h
 | .when .., h => by simp [Z0r] at h
 | .alt .., h => by simp [Z0r] at h
 | .ub .., h => by simp [Z0r] at h
 | .csl .., h => by simp [Z0r] at h
 | .mp .., h => by simp [Z0r] at h
theorem Z2p : ∀ xs : List AV, Z1J xs = true → Z3y xs = []
 | [], _ => rfl
 | x :: xs, h => by simp only [Z1J, Z3y, Bool.and_eq_true] at *; rw [ZcH x h.1, Z2p xs h.2]; rfl
end
theorem Z51 : ∀ xs : List AV, Z1J xs = true → Z1U xs = []
 | [], _ => rfl
 | x :: xs, h => by
  simp only [Z1J, Bool.and_eq_true] at h
  have := Z51 xs h.2
  cases x <;> simp only [Z1U, this] <;> simp [Z0r] at h
section
variable {α : Type} {f : α → AV} {g : α → List AV}
theorem Zch [Z3T f] (xs : List α) : Z3y (xs.map f) = [] := Z2p _ (Z18 xs)
theorem ZfU [Z24 g] (xs : List α) : Z3y (xs.flatMap g) = [] := Z2p _ (Z2I xs)
theorem Zc6 [Z3T f] (xs : List α) : Z1U (xs.map f) = [] := Z51 _ (Z18 xs)
theorem ZfR [Z24 g] (xs : List α) : Z1U (xs.flatMap g) = [] := Z51 _ (Z2I xs)
end
attribute [push_cast] Zip ZgH Zbm Z9G Zd1 Zb7 ZgJ Zdl ZfY ZaU ZfZ Zg0 Zg1 Zg2 Zg3 Zg4 Zg5 Zca Zcf Zce Zc9 ZaP Zcd ZfS Zcb Zcc ZfT Zcg ZaQ Zc4 ZfP Zc5 Zc3 Zc8 Zc2 ZaO Zc7 ZfO ZfQ Z2R Zch ZfU Zc6 ZfR
open Classical in
noncomputable def Z0P {α β κ : Type} (e : α → κ) (r : α → β) (d : β) (x : κ) : β := if h : ∃ a, x = e a then r h.choose else d
theorem Z0e {α β κ : Type} {e : α → κ} (hi : ∀ a b, e a = e b → a = b) (r : α → β) (d : β) (a : α) : Z0P e r d (e a) = r a := by
 have h : ∃ b, e a = e b := ⟨a, rfl⟩
 unfold Z0P
 rw [dif_pos h, ← hi _ _ h.choose_spec]
def Z1R {α κ : Type} (e : α → κ) (p : α → Prop) (x : κ) : Prop := ∃ a, x = e a ∧ p a
theorem Z0H {α κ : Type} {e : α → κ} (hi : ∀ a b, e a = e b → a = b) (p : α → Prop) (a : α) : Z1R e p (e a) = p a :=
 propext ⟨fun ⟨b, h1, h2⟩ => by rw [hi _ _ h1]; exact h2, fun h => ⟨a, rfl, h⟩⟩
noncomputable def Z7w {α : Type} (deep : Bool) (e : α → List AV × Z01) (p : α → Prop) (r : α → AV) (h : α → Z01) : Z0n := liftH {
 ids := Z5S deep
 args := fun xs L => renL (fun j => Zfn (Z5S deep xs L) j) (xs.map (Z3O L (Z5S deep xs L)))
 start := fun xs L => (Z5S deep xs L).map fun i => Z1i (fun j => Zfn (Z5S deep xs L) j) (L.getD i .dead)
 pre := fun xs L => Z1R e p (xs, L)
 res := fun xs L => Z0P e r .any (xs, L)
 post := fun xs L => Z0P e h [] (xs, L) }
attribute [push_cast] Z7w liftH
theorem Z29 {P : Program} {Γ : Env} (hΓ : Z06 P Γ) {f : FuncId} {fn : Func} (hf : P.funcs[f]? = some fn) (hb : fn.body.isNone = false) (hn : (fn.name == "runtime.NumGoroutine") = false) {α : Type} {deep : Bool} {e : α → List AV × Z01} {p : α → Prop} {r : α → AV} {h : α → Z01}
  (hi : ∀ a b, e a = e b → a = b) (hh : ∀ a, p a → Z09 P Γ fn (e a).1 (e a).2 (r a) (h a)) : Con P f (Z7w deep e p r h) := by
 refine Con.liftH_of_body hΓ hf hb hn fun xs L hx => ?_
 obtain ⟨a, ha, hp⟩ := hx
 simp only
 rw [ha, Z0e hi, Z0e hi]
 have h1 : xs = (e a).1 := by rw [← ha]
 have h2 : L = (e a).2 := by rw [← ha]
 rw [h1, h2]
 exact hh a hp
mutual
def Z2D : AV → List Nat
 | .ref id _ _ => [id]
 | .msl id _ _ _ => [id]
 | .csl id _ _ _ => [id]
 | .mp id => [id]
 | .fn _ a b => Z1w a ++ Z1w b
 | .agg cs => Z1w cs
 | .tup cs => Z1w cs
 | .ifc _ x => Z2D x
 | _ => []
def Z1w : List AV → List Nat
 | [] => []
 | x :: xs => Z2D x ++ Z1w xs
end
def Z10 (L : Z01) (id : Nat) : List Nat := match L[id]? with
 | some (.row cs _ _) => Z1w cs
 | _ => []
def Z0K (L : Z01) : Nat → List Nat → List Nat → List Nat
 | 0, is, _ => is
 | _ + 1, is, [] => is
 | n + 1, is, q :: qs => Z0K L n (Z0O is (Z10 L q)) (qs ++ Z1K is (Z10 L q))
def Z6A (xs : List AV) (L : Z01) : List Nat := Z0K L 16 (Z0O [] (Z1w xs)) (Z0O [] (Z1w xs))
theorem Zcr (xs : List AV) (L : Z01) : Z6A xs L = Z0K L 16 (Z0O [] (Z1w xs)) (Z0O [] (Z1w xs)) := rfl
theorem Z95 (L : Z01) (n : Nat) (is : List Nat) : Z0K L n is [] = is := by cases n <;> rfl
theorem ZaV (L : Z01) (is qs : List Nat) (q : Nat) : Z0K L 16 is (q :: qs) = Z0K L 15 (Z0O is (Z10 L q)) (qs ++ Z1K is (Z10 L q)) := rfl
theorem ZaW (L : Z01) (is qs : List Nat) (q : Nat) : Z0K L 15 is (q :: qs) = Z0K L 14 (Z0O is (Z10 L q)) (qs ++ Z1K is (Z10 L q)) := rfl
theorem ZaX (L : Z01) (is qs : List Nat) (q : Nat) : Z0K L 14 is (q :: qs) = Z0K L 13 (Z0O is (Z10 L q)) (qs ++ Z1K is (Z10 L q)) := rfl
theorem ZaY (L : Z01) (is qs : List Nat) (q : Nat) : Z0K L 13 is (q :: qs) = Z0K L 12 (Z0O is (Z10 L q)) (qs ++ Z1K is (Z10 L q)) := rfl
theorem ZaZ (L : Z01) (is qs : List Nat) (q : Nat) : Z0K L 12 is (q :: qs) = Z0K L 11 (Z0O is (Z10 L q)) (qs ++ Z1K is (Z10 L q)) := rfl
theorem Zb0 (L : Z01) (is qs : List Nat) (q : Nat) : Z0K L 11 is (q :: qs) = Z0K L 10 (Z0O is (Z10 L q)) (qs ++ Z1K is (Z10 L q)) := rfl
theorem Zb1 (L : Z01) (is qs : List Nat) (q : Nat) : Z0K L 10 is (q :: qs) = Z0K L 9 (Z0O is (Z10 L q)) (qs ++ Z1K is (Z10 L q)) := rfl
theorem Zcs (L : Z01) (is qs : List Nat) (q : Nat) : Z0K L 9 is (q :: qs) = Z0K L 8 (Z0O is (Z10 L q)) (qs ++ Z1K is (Z10 L q)) := rfl
theorem Zct (L : Z01) (is qs : List Nat) (q : Nat) : Z0K L 8 is (q :: qs) = Z0K L 7 (Z0O is (Z10 L q)) (qs ++ Z1K is (Z10 L q)) := rfl
theorem Zcu (L : Z01) (is qs : List Nat) (q : Nat) : Z0K L 7 is (q :: qs) = Z0K L 6 (Z0O is (Z10 L q)) (qs ++ Z1K is (Z10 L q)) := rfl
theorem Zcv (L : Z01) (is qs : List Nat) (q : Nat) : Z0K L 6 is (q :: qs) = Z0K L 5 (Z0O is (Z10 L q)) (qs ++ Z1K is (Z10 L q)) := rfl
theorem Zcw (L : Z01) (is qs : List Nat) (q : Nat) : Z0K L 5 is (q :: qs) = Z0K L 4 (Z0O is (Z10 L q)) (qs ++ Z1K is (Z10 L q)) := rfl
theorem Zcx (L : Z01) (is qs : List Nat) (q : Nat) : Z0K L 4 is (q :: qs) = Z0K L 3 (Z0O is (Z10 L q)) (qs ++ Z1K is (Z10 L q)) := rfl
theorem Zcy (L : Z01) (is qs : List Nat) (q : Nat) : Z0K L 3 is (q :: qs) = Z0K L 2 (Z0O is (Z10 L q)) (qs ++ Z1K is (Z10 L q)) := rfl
theorem Zcj (id v o : Nat) : Z2D (.ref id v o) = [id] := rfl
theorem Zck (a b c d : Nat) : Z2D (.msl a b c d) = [a] := rfl
theorem Zco (a b c d : Nat) : Z2D (.csl a b c d) = [a] := rfl
theorem ZfW (id : Nat) : Z2D (.mp id) = [id] := rfl
theorem Zcn (k : IntKind) (n : Int) : Z2D (.int k n) = [] := rfl
theorem Zci (l : List UInt8) : Z2D (.str l) = [] := rfl
theorem ZaR (b : Bool) : Z2D (.bool b) = [] := rfl
theorem Zcm (v : Value) : Z2D (.lit v) = [] := rfl
theorem Zcp : Z2D .any = [] := rfl
theorem ZfV (cs : List AV) (n : Nat) : Z2D (.sl cs n) = [] := by simp only [Z2D]
theorem Zcl (k : Option IntKind) (f : Key → Option Value) : Z2D (.mpr k f) = [] := rfl
theorem ZaS : Z1w [] = [] := rfl
theorem Z94 (x : AV) (xs : List AV) : Z1w (x :: xs) = Z2D x ++ Z1w xs := by simp only [Z1w]
theorem Z4A : ∀ xs ys : List AV, Z1w (xs ++ ys) = Z1w xs ++ Z1w ys
 | [], ys => rfl
 | x :: xs, ys => by simp only [List.cons_append, Z1w, Z4A xs ys, List.append_assoc]
mutual
theorem Z6C : ∀ x : AV, Z0r x = true → Z2D x = []
 | .agg cs, h => by simp only [Z0r, Z2D] at *; exact Z1I cs h
 | .tup cs, h => by simp only [Z0r, Z2D] at *; exact Z1I cs h
 | .fn _ a b, h => by simp only [Z0r, Z2D, Bool.and_eq_true] at *; rw [Z1I a h.1, Z1I b h.2]; rfl
 | .ifc _ x, h => by simp only [Z0r, Z2D] at *; exact Z6C x h
 | .sl .., _ => by simp only [Z2D]
 | .ip _, _ => by simp only [Z2D]
 | .int .., _ => rfl
 | .bool _, _ => rfl
 | .str _, _ => rfl
 | .lit _, _ => rfl
 | .mpr .., _ => rfl
 | .any, h => by simp [Z0r] at h
 | .msl .., h => by simp [Z0r] at h
 | .ref .., h => by simp [Z0r] at h
 | .when .., h => by simp [Z0r] at h
 | .alt .., h => by simp [Z0r] at h
 | .ub .., h => by simp [Z0r] at h
 | .csl .., h => by simp [Z0r] at h
 | .mp .., h => by simp [Z0r] at h
theorem Z1I : ∀ xs : List AV, Z1J xs = true → Z1w xs = []
 | [], _ => rfl
 | x :: xs, h => by simp only [Z1J, Z1w, Bool.and_eq_true] at *; rw [Z6C x h.1, Z1I xs h.2]; rfl
end
section
variable {α : Type} {f : α → AV} {g : α → List AV}
theorem ZaT [Z3T f] (xs : List α) : Z1w (xs.map f) = [] := Z1I _ (Z18 xs)
theorem Zcq [Z24 g] (xs : List α) : Z1w (xs.flatMap g) = [] := Z1I _ (Z2I xs)
end
attribute [push_cast] Zcr Z95 ZaV ZaW ZaX ZaY ZaZ Zb0 Zb1 Zcs Zct Zcu Zcv Zcw Zcx Zcy Zcj Zck Zco ZfW Zcn Zci ZaR Zcm Zcp ZfV Zcl ZaS Z94 Z4A Z10 ZaT Zcq
noncomputable def Z6q {α : Type} (e : α → List AV × Z01) (p : α → Prop) (r : α → AV) (h : α → Z01) : Z0n := liftH {
 ids := Z6A
 args := fun xs L => renL (fun j => Zfn (Z6A xs L) j) (xs.map (Z3O L (Z6A xs L)))
 start := fun xs L => (Z6A xs L).map fun i => Z1i (fun j => Zfn (Z6A xs L) j) (L.getD i .dead)
 pre := fun xs L => Z1R e p (xs, L)
 res := fun xs L => Z0P e r .any (xs, L)
 post := fun xs L => Z0P e h [] (xs, L) }
attribute [push_cast] Z6q
theorem Z28 {P : Program} {Γ : Env} (hΓ : Z06 P Γ) {f : FuncId} {fn : Func} (hf : P.funcs[f]? = some fn) (hb : fn.body.isNone = false) (hn : (fn.name == "runtime.NumGoroutine") = false) {α : Type} {e : α → List AV × Z01} {p : α → Prop} {r : α → AV} {h : α → Z01}
  (hi : ∀ a b, e a = e b → a = b) (hh : ∀ a, p a → Z09 P Γ fn (e a).1 (e a).2 (r a) (h a)) : Con P f (Z6q e p r h) := by
 refine Con.liftH_of_body hΓ hf hb hn fun xs L hx => ?_
 obtain ⟨a, ha, hp⟩ := hx
 simp only
 rw [ha, Z0e hi, Z0e hi]
 have h1 : xs = (e a).1 := by rw [← ha]
 have h2 : L = (e a).2 := by rw [← ha]
 rw [h1, h2]
 exact hh a hp
theorem Z1p : ∀ xs ys : List AV, Z1b (xs ++ ys) = Z1b xs ++ Z1b ys
 | [], ys => by simp only [Z1b, List.nil_append]
 | x :: xs, ys => by simp only [List.cons_append, Z1b, Z1p xs ys]
theorem Z7S : ∀ n : Nat, Z1b (List.replicate n .any) = List.replicate n .any
 | 0 => by simp only [List.replicate_zero, Z1b]
 | n + 1 => by simp only [List.replicate_succ, Z1b, Z7S n, Z3c]
theorem Z09.soft {P : Program} {Γ : Env} {fn : Func} {xs : List AV} {L L' : Z01} {res : AV} (h : Z09 P Γ fn (Z1b xs) L res L') : Z09 P Γ fn xs L res L' := by
 intro X h1 h2 h3 h4
 obtain ⟨c, hc, hh⟩ := h X h1 h2 h3 h4
 have e : Z4H (Z1b xs) fn.ntmps = Z1b (Z4H xs fn.ntmps) := by
  simp only [Z4H, Z1p, Z7S, Z3D]
 rw [e] at hh
 exact ⟨c, hc, Z02.weak (S := (Z1b (Z4H xs fn.ntmps), L)) (.soft (.refl (Z1b (Z4H xs fn.ntmps), L))) hh⟩
theorem Z02.frz {X : Cx} {k : List It} {fr : List AV} {L : Z01} (id : Nat) (hn : X.B.L.length ≤ id) (hok : Z2x L id) (h : Z02 X k (Z4u L id fr) (Z4W L id)) : Z02 X k fr L :=
 Z02.weak (S := (Z4u L id fr, Z4W L id)) (.frz id hn hok (.refl (Z4u L id fr, Z4W L id))) h
theorem Z02.soft {X : Cx} {k : List It} {fr : List AV} {L : Z01} (h : Z02 X k (Z1b fr) L) : Z02 X k fr L :=
 Z02.weak (S := (Z1b fr, L)) (.soft (.refl (Z1b fr, L))) h
end Go.Eng
end
section
namespace Go.Eng
open Go Go.RowKit
end Go.Eng
end
