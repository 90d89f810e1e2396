/- The engine, part 16: loops by the slots they turn; values that lead to no own row, and rows of them. The engine, part 19: regions that draw their order, again: quiet operations that stand ahead of all that turn the heap are read where they stand; of the last operation, which waits for all, nothing is asked of the class of heaps. The engine, part 20: contracts for functions that turn what their arguments lead to, over objects that lead to others; a nil cell of an own row becomes an own row; classes of heaps by a pattern. The engine, part 21: contracts for functions that turn all that their arguments lead to: own rows, objects and maps, as deep as they go. The engine, part 22: contracts of the library, proved over the model's own worlds, as contracts here. -/
import Derived.Test.YtbnnhffkbcekcaaGreatDoorFd
import Derived.RowKit2
set_option linter.unusedVariables false
set_option linter.unusedSimpArgs false
section
namespace Go.Eng
open Go
def ZnN (ws : List Nat) (fr : List AV) : List AV := ws.foldl (fun f i => f.set i .any) fr
def Zh9 (us : List (Nat × AV)) (fr : List AV) : List AV := us.foldl (fun f p => f.set p.1 p.2) fr
theorem Zh5 (fr : List AV) : ZnN [] fr = fr := rfl
theorem ZbP (i : Nat) (ws : List Nat) (fr : List AV) : ZnN (i :: ws) fr = ZnN ws (fr.set i .any) := rfl
theorem Zh8 (fr : List AV) : Zh9 [] fr = fr := rfl
theorem ZbU (p : Nat × AV) (us : List (Nat × AV)) (fr : List AV) : Zh9 (p :: us) fr = Zh9 us (fr.set p.1 p.2) := rfl
def Z5d : List Bool → List AV → List AV
 | true :: bs, x :: xs => x :: Z5d bs xs
 | false :: bs, _ :: xs => .any :: Z5d bs xs
 | _, _ => []
theorem Zk9 (bs : List Bool) (x : AV) (xs : List AV) : Z5d (true :: bs) (x :: xs) = x :: Z5d bs xs := rfl
theorem Zka (bs : List Bool) (x : AV) (xs : List AV) : Z5d (false :: bs) (x :: xs) = .any :: Z5d bs xs := rfl
theorem Zdu : Z5d [] [] = [] := rfl
theorem Z02.loopM {X : Cx} {b : Code} {k : List It} {fr : List AV} {L : Z01} {ι : Type} (ms : List Bool) (us : ι → List (Nat × AV)) (Lf : ι → Z01) (μ : ι → Nat) (i0 : ι)
  (h0 : Z08 X.B.L fr L (Zh9 (us i0) (Z5d ms fr), Lf i0))
  (h : ∀ i, Z02 X (.code b :: .chk (fun fr' L' => ∃ j, μ j < μ i ∧ Z08 X.B.L fr' L' (Zh9 (us j) (Z5d ms fr), Lf j)) :: k) (Zh9 (us i) (Z5d ms fr)) (Lf i)) : Z02 X (.code (.loop b) :: k) fr L :=
 Z02.loop (fun i => (Zh9 (us i) (Z5d ms fr), Lf i)) μ i0 h0 h
mutual
def Z0s : AV → Bool
 | .agg cs => Z1M cs
 | .tup cs => Z1M cs
 | .sl cs _ => Z1M cs
 | .ip cs => Z1M cs
 | .fn _ a b => Z1M a && Z1M b
 | .ifc _ x => Z0s x
 | .int .. => true
 | .bool _ => true
 | .str _ => true
 | .lit _ => true
 | .mpr .. => true
 | _ => false
def Z1M : List AV → Bool
 | [] => true
 | x :: xs => Z0s x && Z1M xs
end
theorem Z3M : ∀ xs : List AV, Z1M xs = xs.all Z0s
 | [] => rfl
 | x :: xs => by simp only [Z1M, List.all_cons, Z3M xs]
mutual
theorem Zaq (n : Nat) : ∀ x : AV, Z0s x = true → scp n x = true
 | .agg cs, h => by simp only [Z0s, scp] at *; exact Z0X n cs h
 | .tup cs, h => by simp only [Z0s, scp] at *; exact Z0X n cs h
 | .sl cs _, h => by simp only [Z0s, scp] at *; exact Z0X n cs h
 | .ip cs, h => by simp only [Z0s, scp] at *; exact Z0X n cs h
 | .fn _ a b, h => by simp only [Z0s, scp, Bool.and_eq_true] at *; exact ⟨Z0X n a h.1, Z0X n b h.2⟩
 | .ifc _ x, h => by simp only [Z0s, scp] at *; exact Zaq n x h
 | .int .., _ => rfl
 | .bool _, _ => rfl
 | .str _, _ => rfl
 | .lit _, _ => rfl
 | .mpr .., _ => rfl
 | .any, h => by simp [Z0s] at h
 | .msl .., h => by simp [Z0s] at h
 | .ref .., h => by simp [Z0s] at h
 | .when .., h => by simp [Z0s] at h
 | .alt .., h => by simp [Z0s] at h
 | .ub .., h => by simp [Z0s] at h
 | .csl .., h => by simp [Z0s] at h
 | .mp .., h => by simp [Z0s] at h
theorem Z0X (n : Nat) : ∀ xs : List AV, Z1M xs = true → Z1D n xs = true
 | [], _ => rfl
 | x :: xs, h => by simp only [Z1M, Z1D, Bool.and_eq_true] at *; exact ⟨Zaq n x h.1, Z0X n xs h.2⟩
end
mutual
theorem Zar (ρ : Nat → Nat) : ∀ x : AV, Z0s x = true → ren ρ x = x
 | .agg cs, h => by simp only [Z0s, ren] at *; rw [Z1F ρ cs h]
 | .tup cs, h => by simp only [Z0s, ren] at *; rw [Z1F ρ cs h]
 | .sl cs _, h => by simp only [Z0s, ren] at *; rw [Z1F ρ cs h]
 | .ip cs, h => by simp only [Z0s, ren] at *; rw [Z1F ρ cs h]
 | .fn _ a b, h => by simp only [Z0s, ren, Bool.and_eq_true] at *; rw [Z1F ρ a h.1, Z1F ρ b h.2]
 | .ifc _ x, h => by simp only [Z0s, ren] at *; rw [Zar ρ x h]
 | .int .., _ => rfl
 | .bool _, _ => rfl
 | .str _, _ => rfl
 | .lit _, _ => rfl
 | .mpr .., _ => rfl
 | .any, h => by simp [Z0s] at h
 | .msl .., h => by simp [Z0s] at h
 | .ref .., h => by simp [Z0s] at h
 | .when .., h => by simp [Z0s] at h
 | .alt .., h => by simp [Z0s] at h
 | .ub .., h => by simp [Z0s] at h
 | .csl .., h => by simp [Z0s] at h
 | .mp .., h => by simp [Z0s] at h
theorem Z1F (ρ : Nat → Nat) : ∀ xs : List AV, Z1M xs = true → renL ρ xs = xs
 | [], _ => rfl
 | x :: xs, h => by simp only [Z1M, renL, Bool.and_eq_true] at *; rw [Zar ρ x h.1, Z1F ρ xs h.2]
end
mutual
theorem Zap (L : Z01) (id v : Nat) : ∀ x : AV, Z0s x = true → Z4z L id v x = x
 | .agg cs, h => by simp only [Z0s, Z4z] at *; rw [Z28 L id v cs h]
 | .tup cs, h => by simp only [Z0s, Z4z] at *; rw [Z28 L id v cs h]
 | .sl cs _, h => by simp only [Z0s, Z4z] at *; rw [Z0X 0 cs h]; rfl
 | .ip cs, h => by simp only [Z0s, Z4z] at *; rw [Z0X 0 cs h]; rfl
 | .fn _ a b, h => by simp only [Z0s, Z4z, Bool.and_eq_true] at *; rw [Z28 L id v a h.1, Z28 L id v b h.2]
 | .ifc _ x, h => by simp only [Z0s, Z4z] at *; rw [Zap L id v x h]
 | .int .., _ => rfl
 | .bool _, _ => rfl
 | .str _, _ => rfl
 | .lit _, _ => rfl
 | .mpr .., _ => rfl
 | .any, h => by simp [Z0s] at h
 | .msl .., h => by simp [Z0s] at h
 | .ref .., h => by simp [Z0s] at h
 | .when .., h => by simp [Z0s] at h
 | .alt .., h => by simp [Z0s] at h
 | .ub .., h => by simp [Z0s] at h
 | .csl .., h => by simp [Z0s] at h
 | .mp .., h => by simp [Z0s] at h
theorem Z28 (L : Z01) (id v : Nat) : ∀ xs : List AV, Z1M xs = true → Z50 L id v xs = xs
 | [], _ => rfl
 | x :: xs, h => by simp only [Z1M, Z50, Bool.and_eq_true] at *; rw [Zap L id v x h.1, Z28 L id v xs h.2]
end
mutual
theorem Zas (L : Z01) (id : Nat) : ∀ x : AV, Z0s x = true → Z4A L id x = x
 | .agg cs, h => by simp only [Z0s, Z4A] at *; rw [Z36 L id cs h]
 | .tup cs, h => by simp only [Z0s, Z4A] at *; rw [Z36 L id cs h]
 | .sl cs _, h => by simp only [Z0s, Z4A] at *; rw [Z0X 0 cs h]; rfl
 | .ip cs, h => by simp only [Z0s, Z4A] at *; rw [Z0X 0 cs h]; rfl
 | .fn _ a b, h => by simp only [Z0s, Z4A, Bool.and_eq_true] at *; rw [Z0X 0 a h.1, Z0X 0 b h.2]; rfl
 | .ifc _ x, h => by simp only [Z0s, Z4A] at *; rw [Zas L id x h]
 | .int .., _ => rfl
 | .bool _, _ => rfl
 | .str _, _ => rfl
 | .lit _, _ => rfl
 | .mpr .., _ => rfl
 | .any, h => by simp [Z0s] at h
 | .msl .., h => by simp [Z0s] at h
 | .ref .., h => by simp [Z0s] at h
 | .when .., h => by simp [Z0s] at h
 | .alt .., h => by simp [Z0s] at h
 | .ub .., h => by simp [Z0s] at h
 | .csl .., h => by simp [Z0s] at h
 | .mp .., h => by simp [Z0s] at h
theorem Z36 (L : Z01) (id : Nat) : ∀ xs : List AV, Z1M xs = true → Z4B L id xs = xs
 | [], _ => rfl
 | x :: xs, h => by simp only [Z1M, Z4B, Bool.and_eq_true] at *; rw [Zas L id x h.1, Z36 L id xs h.2]
end
def Z2Z (L : Z01) (sub : AV → AV) (sl : AV → Prop) (sb : AV → Bool) : Prop := ∀ x, Z0s x = true → sub x = x ∧ sl x ∧ sb x = false
theorem Z2Z.zero (L : Z01) : Z2Z L Z73 ZdA Znc := fun x _ => ⟨rfl, trivial, rfl⟩
theorem Z2Z.list {L : Z01} {sub : AV → AV} {sl : AV → Prop} {sb : AV → Bool} (H : Z2Z L sub sl sb) {xs : List AV} (h : Z1M xs = true) : xs.map sub = xs ∧ (∀ x ∈ xs, sl x) ∧ xs.any sb = false := by
 rw [Z3M, List.all_eq_true] at h
 refine ⟨?_, fun x hx => (H x (h x hx)).2.1, ?_⟩
 ·conv => rhs; rw [← List.map_id xs]
  exact List.map_congr_left fun x hx => (H x (h x hx)).1
 ·rw [List.any_eq_false]; intro x hx; rw [(H x (h x hx)).2.2]; simp
theorem Z2Z.succ {L : Z01} {keep : Nat → Bool} {sub : AV → AV} {sl : AV → Prop} {sb : AV → Bool} (H : Z2Z L sub sl sb) : Z2Z L (Z0W L keep sub) (Z1o L keep sl) (Z3W L keep sb) := by
 intro x hx
 cases x <;> simp only [Z0s, Z0W, Z1o, Z3W, Bool.and_eq_true, Bool.false_eq_true] at * <;> try exact ⟨trivial, trivial, trivial⟩
 case agg cs => obtain ⟨h1, h2, h3⟩ := H.list hx; exact ⟨by rw [h1], h2, h3⟩
 case ifc t x => obtain ⟨h1, h2, h3⟩ := H x hx; exact ⟨by rw [h1], h2, h3⟩
 case fn f a b =>
  obtain ⟨h1, h2, h3⟩ := H.list hx.1
  obtain ⟨k1, k2, k3⟩ := H.list hx.2
  exact ⟨by rw [h1, k1], ⟨h2, k2⟩, by rw [h3, k3]; rfl⟩
theorem Z2Z.d1 (L : Z01) (k : Nat → Bool) : Z2Z L (d1 L k) (l1 L k) (b1 L k) := (Z2Z.zero L).succ
theorem Z2Z.d2 (L : Z01) (k : Nat → Bool) : Z2Z L (d2 L k) (l2 L k) (b2 L k) := (Z2Z.d1 L k).succ
theorem Z2Z.d3 (L : Z01) (k : Nat → Bool) : Z2Z L (d3 L k) (l3 L k) (b3 L k) := (Z2Z.d2 L k).succ
theorem Z2Z.d4 (L : Z01) (k : Nat → Bool) : Z2Z L (Z0W L k (Eng.d3 L k)) (Z1o L k (l3 L k)) (Z3W L k (b3 L k)) := (Z2Z.d3 L k).succ
class Z3Y {α : Type} (f : α → AV) : Prop where
 pure : ∀ x, Z0s (f x) = true
 one : ∀ x, Z0c [f x] = true
class Z25 {α : Type} (g : α → List AV) : Prop where
 pure : ∀ x, Z1M (g x) = true
 one : ∀ x, Z0c (g x) = true
class ZbJ {α : Type} (f : α → AV) : Prop where
 flat : ∀ x, flat (f x) = true
instance : Z3Y AV.str := ⟨fun _ => rfl, fun _ => rfl⟩
instance : Z3Y AV.bool := ⟨fun _ => rfl, fun _ => rfl⟩
instance (k : IntKind) : Z3Y (AV.int k) := ⟨fun _ => rfl, fun _ => rfl⟩
instance : Z3Y Z04 := ⟨fun _ => rfl, fun _ => rfl⟩
instance : ZbJ AV.str := ⟨fun _ => rfl⟩
instance : ZbJ AV.bool := ⟨fun _ => rfl⟩
instance (k : IntKind) : ZbJ (AV.int k) := ⟨fun _ => rfl⟩
instance : ZbJ Z04 := ⟨fun _ => rfl⟩
section
variable {α : Type} {f : α → AV} {g : α → List AV}
theorem Z1U : ∀ xs ys : List AV, Z0c xs = true → Z0c ys = true → Z0c (xs ++ ys) = true
 | [], ys, _, h => h
 | x :: xs, ys, h1, h2 => by
  cases x <;> simp only [Z0c, List.cons_append, Bool.and_eq_true, Bool.false_eq_true] at * <;> first | exact Z1U xs ys h1 h2 | exact ⟨h1.1, Z1U xs ys h1.2 h2⟩
theorem Z19 [Z3Y f] (xs : List α) : Z1M (xs.map f) = true := by rw [Z3M]; simp [Z3Y.pure]
theorem Z2M [Z25 g] (xs : List α) : Z1M (xs.flatMap g) = true := by
 rw [Z3M, List.all_eq_true]; intro x hx
 obtain ⟨a, _, ha⟩ := List.mem_flatMap.1 hx
 have := Z25.pure (g := g) a
 rw [Z3M, List.all_eq_true] at this
 exact this x ha
theorem Zhk [Z3Y f] (n : Nat) (xs : List α) : Z1D n (xs.map f) = true := Z0X n _ (Z19 xs)
theorem Zhq [Z3Y f] (ρ : Nat → Nat) (xs : List α) : renL ρ (xs.map f) = xs.map f := Z1F ρ _ (Z19 xs)
theorem Zh7 [Z3Y f] (L : Z01) (id v : Nat) (xs : List α) : Z50 L id v (xs.map f) = xs.map f := Z28 L id v _ (Z19 xs)
theorem Zis [Z3Y f] (L : Z01) (id : Nat) (xs : List α) : Z4B L id (xs.map f) = xs.map f := Z36 L id _ (Z19 xs)
theorem Z4u [Z3Y f] : ∀ xs : List α, Z0c (xs.map f) = true
 | [] => rfl
 | x :: xs => by
  have h1 := Z3Y.one (f := f) x
  exact Z1U [f x] (xs.map f) h1 (Z4u xs)
theorem Zn8 [Z3Y f] (L : Z01) (k : Nat → Bool) (xs : List α) : (xs.map f).map (d3 L k) = xs.map f := ((Z2Z.d3 L k).list (Z19 xs)).1
theorem Zmh [Z3Y f] (L : Z01) (k : Nat → Bool) (xs : List α) : (∀ y ∈ xs.map f, Z1o L k (l2 L k) y) = True := eq_true ((Z2Z.d3 L k).list (Z19 xs)).2.1
theorem ZjN [Z25 g] (n : Nat) (xs : List α) : Z1D n (xs.flatMap g) = true := Z0X n _ (Z2M xs)
theorem ZjU [Z25 g] (ρ : Nat → Nat) (xs : List α) : renL ρ (xs.flatMap g) = xs.flatMap g := Z1F ρ _ (Z2M xs)
theorem ZjI [Z25 g] (L : Z01) (id v : Nat) (xs : List α) : Z50 L id v (xs.flatMap g) = xs.flatMap g := Z28 L id v _ (Z2M xs)
theorem Zks [Z25 g] (L : Z01) (id : Nat) (xs : List α) : Z4B L id (xs.flatMap g) = xs.flatMap g := Z36 L id _ (Z2M xs)
theorem Z2O [Z25 g] : ∀ xs : List α, Z0c (xs.flatMap g) = true
 | [] => rfl
 | x :: xs => by rw [List.flatMap_cons]; exact Z1U (g x) _ (Z25.one x) (Z2O xs)
theorem ZlA [Z25 g] (n : Nat) (x : α) : Z1D n (g x) = true := Z0X n _ (Z25.pure x)
theorem ZlM [Z25 g] (ρ : Nat → Nat) (x : α) : renL ρ (g x) = g x := Z1F ρ _ (Z25.pure x)
theorem Zlu [Z25 g] (L : Z01) (id v : Nat) (x : α) : Z50 L id v (g x) = g x := Z28 L id v _ (Z25.pure x)
theorem ZmL [Z25 g] (L : Z01) (id : Nat) (x : α) : Z4B L id (g x) = g x := Z36 L id _ (Z25.pure x)
theorem ZoZ [Z25 g] (x : α) : Z0c (g x) = true := Z25.one x
theorem Z8g [ZbJ f] (xs : List α) : Z0Q (xs.map f) = true := Z8D (by simp [ZbJ.flat])
end
theorem Zbz (xs : List AV) (n j : Nat) (d : AV) : (xs.drop n).getD j d = xs.getD (n + j) d := by simp [List.getD]
class Z24 {α : Type} (g : α → List AV) (n : outParam Nat) : Prop where
 len : ∀ x, (g x).length = n
theorem Zkr {k : IntKind} (xs : List Int) (i : Nat) : (xs.map (AV.int k)).getD i (.int k 0) = .int k (xs.getD i default) := by
 by_cases h : i < xs.length <;> simp [List.getD, h]
theorem Zkq (xs : List UInt8) (i : Nat) : (xs.map Z04).getD i (.int .u8 0) = .int .u8 (xs.getD i 0).toNat := by
 by_cases h : i < xs.length <;> simp [List.getD, h, Z04]
theorem Zke {α : Type} {g : α → List AV} {n : Nat} [Z24 g n] (x : α) : (g x).length = n := Z24.len x
theorem Zlv {α : Type} {g : α → List AV} {n : Nat} [Z24 g n] (x : α) : (g x).take n = g x := List.take_of_length_le (by rw [Zke (g := g) x]; exact Nat.le_refl _)
theorem ZmR {α : Type} {g : α → List AV} {n : Nat} [Z24 g n] (x : α) : (g x).drop n = [] := List.drop_eq_nil_of_le (by rw [Zke (g := g) x]; exact Nat.le_refl _)
theorem Z3a {α : Type} {g : α → List AV} {n : Nat} [Z24 g n] (xs : List α) : (xs.flatMap g).length = xs.length * n := by
 induction xs with
 | nil => simp
 | cons x xs ih => rw [List.flatMap_cons, List.length_append, ih, Z24.len (g := g) x, List.length_cons, Nat.succ_mul]; omega
theorem Z13 {α : Type} {g : α → List AV} {n : Nat} [Z24 g n] (xs : List α) (i : Nat) : (xs.flatMap g).drop (i * n) = (xs.drop i).flatMap g := by
 induction xs generalizing i with
 | nil => simp
 | cons x xs ih =>
  cases i with
  | zero => simp
  | succ i =>
   rw [List.flatMap_cons, Nat.succ_mul, Nat.add_comm, List.drop_succ_cons, ← ih i, ← Z24.len (g := g) x, List.drop_append, List.drop_eq_nil_of_le (by omega)]
   simp
theorem Z1Y {α : Type} {g : α → List AV} {n : Nat} [Z24 g n] (xs : List α) (i : Nat) : (xs.flatMap g).take (i * n) = (xs.take i).flatMap g := by
 induction xs generalizing i with
 | nil => simp
 | cons x xs ih =>
  cases i with
  | zero => simp
  | succ i =>
   have hx := Z24.len (g := g) x
   rw [List.flatMap_cons, Nat.succ_mul, List.take_succ_cons, List.flatMap_cons, ← ih i, List.take_append, List.take_of_length_le (by omega)]
   congr 2; omega
theorem ZdV {α : Type} {xs : List α} {i : Nat} (h : i < xs.length) (d : α) : xs.drop i = xs.getD i d :: xs.drop (i + 1) := by
 rw [List.drop_eq_getElem_cons h]; simp [List.getD, h]
theorem Zkm {α : Type} {g : α → List AV} {n : Nat} [Z24 g n] (xs : List α) (i : Nat) (h : i < xs.length) (d : α) : ((xs.flatMap g).drop (i * n)).take n = g (xs.getD i d) := by
 rw [Z13, ZdV h d, List.flatMap_cons]
 have hx := Z24.len (g := g) (xs.getD i d)
 rw [List.take_append, List.take_of_length_le (by omega), hx, Nat.sub_self, List.take_zero, List.append_nil]
attribute [push_cast] Zk9 Zka Zdu Zh5 ZbP Zh8 ZbU Z19 Z2M Zhk Zhq Zh7 Zis Z4u Zn8 ZjN ZjU ZjI Zks Z2O ZlA ZlM Zlu ZmL ZoZ Z8g Zbz Zmh Z3a Zke Zlv ZmR Zkr Zkq
theorem Z07 (n : Int) (h : -9223372036854775808 ≤ n ∧ n ≤ 9223372036854775807) : IntKind.i64.wrap n = n := IntWalk.i64_in n h
theorem Z4O {α : Type} [Inhabited α] {g : α → List AV} {n : Nat} [Z24 g n] (xs : List α) (i : Nat) (h : i < xs.length) : ((xs.flatMap g).drop (i * n)).take n = g (xs.getD i default) := Zkm xs i h default
theorem Z2Y {α : Type} [Inhabited α] {g : α → List AV} {n : Nat} [Z24 g n] (xs : List α) (i j : Nat) (d : AV) (h : i < xs.length) (hj : j < n) : (xs.flatMap g).getD (i * n + j) d = (g (xs.getD i default)).getD j d := by
 have hx := Z24.len (g := g) (xs.getD i default)
 have e : (xs.flatMap g).getD (i * n + j) d = ((xs.flatMap g).drop (i * n)).getD j d := by simp [List.getD]
 rw [e, Z13, ZdV h default, List.flatMap_cons]
 simp only [List.getD]
 rw [List.getElem?_append_left (by simp only [List.getD] at hx; omega)]
theorem Z4c {α : Type} [Inhabited α] {g : α → List AV} {n : Nat} [Z24 g n] (xs : List α) (i : Nat) (d : AV) (h : i < xs.length) (hj : 0 < n) : (xs.flatMap g).getD (i * n) d = (g (xs.getD i default)).getD 0 d := Z2Y xs i 0 d h hj
theorem Zb4 (a : Nat) : ((a : Int) + 1).toNat = a + 1 := by omega
section
variable {α β : Type}
def Z5I (e : α → List AV) (p : α → Prop) (xs : List AV) : Prop := ∃ a, xs = e a ∧ p a
open Classical in
noncomputable def Z2m (e : α → List AV) (r : α → β) (d : β) (xs : List AV) : β := if h : ∃ a, xs = e a then r h.choose else d
theorem Z11 {e : α → List AV} (hi : ∀ a b, e a = e b → a = b) (p : α → Prop) (a : α) : Z5I e p (e a) = p a :=
 propext ⟨fun ⟨b, h1, h2⟩ => by rw [hi _ _ h1]; exact h2, fun h => ⟨a, rfl, h⟩⟩
theorem Z0u {e : α → List AV} (hi : ∀ a b, e a = e b → a = b) (r : α → β) (d : β) (a : α) : Z2m e r d (e a) = r a := by
 have h : ∃ b, e a = e b := ⟨a, rfl⟩
 unfold Z2m
 rw [dif_pos h, ← hi _ _ h.choose_spec]
noncomputable def Z5J (e : α → List AV) (p : α → Prop) (r : α → AV) (h : α → Z01) (q : Bool) : Z0n := Z6c (Z5I e p) (Z2m e r .any) (Z2m e h []) q
theorem Z0V {P : Program} {Γ : Env} (hΓ : Z03 P Γ) {f : FuncId} {fn : Func} (hf : P.funcs[f]? = some fn) (hb : fn.body.isNone = false) (hn : (fn.name == "runtime.NumGoroutine") = false) {e : α → List AV} {p : α → Prop} {r : α → AV} {h : α → Z01} {q : Bool}
  (hi : ∀ a b, e a = e b → a = b) (hq : q = true → ∀ a, h a = []) (hh : ∀ a, p a → Z09 P Γ fn (e a) [] (r a) (h a)) : Con P f (Z5J e p r h q) := by
 refine Con.of_body hΓ hf hb hn (fun hq' xs => ?_) fun xs hx => ?_
 ·unfold Z2m
  split
  ·exact hq hq' _
  ·rfl
 ·obtain ⟨a, rfl, ha⟩ := hx
  rw [Z0u hi, Z0u hi]
  exact hh a ha
end
attribute [push_cast] Z5J
def Z2w : Op → Bool
 | .move _ => true
 | .assign _ => true
 | .pick .. => true
 | .binOp .. => true
 | .unOp .. => true
 | .index .. => true
 | .indexAddr .. => true
 | .load .. => true
 | .field .. => true
 | .fieldAddr .. => true
 | .extract .. => true
 | .nilCheck _ => true
 | .sliceToArrayPointer _ _ => true
 | .slice .. => true
 | .lookup .. => true
 | .call { callee := .builtin .len, args := _, argTypes := _ } => true
 | _ => false
theorem ZgR (z : Rz) (p : Prop) : (z.also p).L = z.L := rfl
theorem Z7d {P : Program} {Γ : Env} {all : List Oper} {c : Bool} {fr : List AV} {L : Z01} {o : Oper} (h : Z2w o.op = true) : (stepA P Γ all c fr L o).L = L := by
  rcases Z1J P Γ all o with hst | ⟨t, len, parts, ho, hst⟩
  · rw [hst]
    obtain ⟨dst, op, ty, pos, after, guard⟩ := o
    simp only at h ⊢
    cases op <;> simp only [Z2w, Bool.false_eq_true] at h <;> simp only [Z16, ev, ZgR]
    case pick => unfold Zdc; split <;> rfl
    case binOp =>
      unfold Zlo; repeat' split
      all_goals first | rfl | (unfold ZnB; split <;> rfl) | (unfold Znw; split <;> rfl) | (unfold ZiZ; split <;> rfl) | (unfold Z8I; repeat' split) | skip
      all_goals first | rfl | skip
    case unOp => unfold unR; split <;> rfl
    case index => unfold Z6W; repeat' split
                  all_goals rfl
    case indexAddr => unfold Z2u; repeat' split
                      all_goals rfl
    case load => unfold Z8o; repeat' split
                 all_goals rfl
    case field => unfold Z71; repeat' split
                  all_goals rfl
    case fieldAddr => unfold Z2v; repeat' split
                      all_goals rfl
    case extract => unfold Z4f; repeat' split
                    all_goals rfl
    case nilCheck => unfold Z38; repeat' split
                     all_goals rfl
    case sliceToArrayPointer => unfold Z5h; repeat' split
                                all_goals rfl
    case slice => unfold Z6F; repeat' split
                  all_goals rfl
    case lookup => unfold Zbu; repeat' split
                   all_goals rfl
    case call c =>
      obtain ⟨callee, args, ts⟩ := c
      cases callee with
      | value f => simp [Z2w] at h
      | invoke r n => simp [Z2w] at h
      | builtin b =>
        cases b <;> simp only [Z2w, Bool.false_eq_true] at h
        simp only [Z16, ev, Z4h]
        split <;> first | rfl | (rw [ZgR]; unfold Zlh; repeat' split) | (rw [ZgR]; unfold ZgY; repeat' split) | contradiction | skip
        all_goals first | rfl | contradiction | skip
  · rw [ho] at h; simp [Z2w] at h
section
variable {P : Program} {Γ : Env} {ops : Array Oper}
def Zmy (o : Oper) : Bool := match o.op, o.guard with
 | .alloc _, none => true
 | _, _ => false
theorem Zld {o : Oper} (h : Zmy o = true) : ∃ ob q, ∀ fr L, stepA P Γ ops.toList (Z0h ops.toList fr o.guard) fr L o = ⟨q, .ref L.length 0 0, L ++ [ob]⟩ ∧ (∀ c, mkV o.guard c (.ref L.length 0 0) = .ref L.length 0 0) := by
 obtain ⟨dst, op, ty, pos, after, guard⟩ := o
 unfold Zmy at h
 simp only at h
 split at h
 ·rename_i t
  cases hb : lkT tyB t with
  | none =>
   refine ⟨.row (zeroA P t).cells (zeroA P t).cells.length 0, true = true ∧ Z1b P t, fun fr L => ?_⟩
   rcases Z1J P Γ ops.toList ⟨dst, .alloc t, ty, pos, after, none⟩ with hst | ⟨t', len, parts, ho, hst⟩
   ·rw [hst]; exact ⟨by simp only [Z16, ev, Z6v, hb, Z0h], fun _ => rfl⟩
   ·cases ho
  | some e =>
   refine ⟨.raw (.bld t e []), true = true ∧ Z1b P t ∧ zeroA P t = .agg [.lit (.pointer none), .lit (.slice none 0 0)], fun fr L => ?_⟩
   rcases Z1J P Γ ops.toList ⟨dst, .alloc t, ty, pos, after, none⟩ with hst | ⟨t', len, parts, ho, hst⟩
   ·rw [hst]; exact ⟨by simp only [Z16, ev, Z6v, hb, Z0h], fun _ => rfl⟩
   ·cases ho
 ·cases h
def Z7f (P : Program) (Γ : Env) (all : List Oper) (c : Bool) (fr : List AV) (L : Z01) (o : Oper) : Prop := (stepA P Γ all c fr L o).L.length = L.length ∧
 ∀ A, (stepA P Γ all c fr (L ++ A) o).pre ∧ (stepA P Γ all c fr (L ++ A) o).v = (stepA P Γ all c fr L o).v ∧ (stepA P Γ all c fr (L ++ A) o).L = (stepA P Γ all c fr L o).L ++ A
def Ye (P : Program) (Γ : Env) (ops : Array Oper) (H : Z01 → Prop) (mk la al st : Bool) (o : Oper) (fr : List AV) (L : Z01) (v : AV) (L' : Z01) : Prop :=
 Z1A ops.toList fr o.guard ∧
 if al then Zmy o = true ∧ (stepA P Γ ops.toList (Z0h ops.toList fr o.guard) fr L o).pre ∧ v = mkV o.guard (Z0h ops.toList fr o.guard) (stepA P Γ ops.toList (Z0h ops.toList fr o.guard) fr L o).v ∧
   L' = (stepA P Γ ops.toList (Z0h ops.toList fr o.guard) fr L o).L ∧ H L'
 else if mk then (stepA P Γ ops.toList (Z0h ops.toList fr o.guard) fr L o).pre ∧ v = mkV o.guard (Z0h ops.toList fr o.guard) (stepA P Γ ops.toList (Z0h ops.toList fr o.guard) fr L o).v ∧
   L' = (stepA P Γ ops.toList (Z0h ops.toList fr o.guard) fr L o).L ∧ (la = false → H L') ∧ (st = true → Z7f P Γ ops.toList (Z0h ops.toList fr o.guard) fr L o)
 else L' = L ∧ ∀ G, H G → (stepA P Γ ops.toList (Z0h ops.toList fr o.guard) fr G o).pre ∧ (stepA P Γ ops.toList (Z0h ops.toList fr o.guard) fr G o).L = G ∧
   v = mkV o.guard (Z0h ops.toList fr o.guard) (stepA P Γ ops.toList (Z0h ops.toList fr o.guard) fr G o).v
theorem Ye.swap {H : Z01 → Prop} {mi mj ai aj si sj : Bool} {oi oj : Oper} {fr : List AV} {L L1 L2 : Z01} {v u : AV} (hH : aj = true → ∀ G A, H G → H (G ++ A)) (hL : H L) (hi : Ye P Γ ops H mi false ai si oi fr L v L1) (hj : Ye P Γ ops H mj false aj sj oj (Z1O fr oi.dst v) L1 u L2)
  (hap : oi.apart ops oj = true) (hm : (ai = false ∧ aj = false ∧ (¬ (mi = true ∧ mj = true) ∨ (Z2w oi.op = true ∧ Z2w oj.op = true))) ∨ (ai = false ∧ aj = true ∧ (mi = true → si = true)) ∨ (ai = true ∧ aj = false ∧ mj = false)) :
  ∃ L3, H L3 ∧ Ye P Γ ops H mj false aj sj oj fr L u L3 ∧ Ye P Γ ops H mi false ai si oi (Z1O fr oj.dst u) L3 v L2 := by
 obtain ⟨h1, h2, h3⟩ := Oper.apart_spec hap
 unfold Ye at hi hj ⊢
 have e1 : ∀ c G, stepA P Γ ops.toList c (Z1O fr oi.dst v) G oj = stepA P Γ ops.toList c fr G oj := fun c G => ZaT (o := oj) h1
 have e2 : ∀ c G, stepA P Γ ops.toList c (Z1O fr oj.dst u) G oi = stepA P Γ ops.toList c fr G oi := fun c G => ZaT (o := oi) h3
 obtain ⟨g1, g2⟩ := Z4Q (fr := fr) (o := oj) (dst := oi.dst) (x := v) h1
 obtain ⟨g3, g4⟩ := Z4Q (fr := fr) (o := oi) (dst := oj.dst) (x := u) h3
 have s1 : ∀ c G, Z7f P Γ ops.toList c (Z1O fr oi.dst v) G oj = Z7f P Γ ops.toList c fr G oj := fun c G => by unfold Z7f; simp only [e1]
 have s2 : ∀ c G, Z7f P Γ ops.toList c (Z1O fr oj.dst u) G oi = Z7f P Γ ops.toList c fr G oi := fun c G => by unfold Z7f; simp only [e2]
 rw [g1, g2] at hj
 simp only [e1, s1] at hj
 rw [g3, g4]
 simp only [e2, s2]
 obtain ⟨hgi, hi⟩ := hi
 obtain ⟨hgj, hj⟩ := hj
 rcases hm with ⟨rfl, rfl, hm⟩ | ⟨rfl, rfl, hm⟩ | ⟨rfl, rfl, rfl⟩
 ·simp only [Bool.false_eq_true, if_false] at hi hj ⊢
  cases mi <;> cases mj
  ·simp only [Bool.false_eq_true, if_false] at hi hj
   obtain ⟨rfl, hi⟩ := hi
   obtain ⟨rfl, hj⟩ := hj
   refine ⟨L2, hL, ?_⟩
   simp only [Bool.false_eq_true, if_false]
   exact ⟨⟨hgj, trivial, hj⟩, hgi, trivial, hi⟩
  ·simp only [Bool.false_eq_true, if_false, if_true] at hi hj
   obtain ⟨rfl, hi⟩ := hi
   refine ⟨L2, hj.2.2.2.1 trivial, ?_⟩
   simp only [Bool.false_eq_true, if_false, if_true]
   exact ⟨⟨hgj, hj⟩, hgi, trivial, hi⟩
  ·simp only [Bool.false_eq_true, if_false, if_true] at hi hj
   obtain ⟨rfl, hj⟩ := hj
   refine ⟨L, hL, ?_⟩
   simp only [Bool.false_eq_true, if_false, if_true]
   exact ⟨⟨hgj, trivial, hj⟩, hgi, hi⟩
  ·rcases hm with hm | ⟨q1, q2⟩
   ·exact absurd ⟨rfl, rfl⟩ hm
   simp only [if_true, Z7d q1, Z7d q2] at hi hj
   obtain ⟨a1, a2, rfl, a3, a4⟩ := hi
   obtain ⟨b1, b2, rfl, b3, b4⟩ := hj
   refine ⟨L2, hL, ?_⟩
   simp only [if_true, Z7d q1, Z7d q2]
   exact ⟨⟨hgj, b1, b2, trivial, b3, b4⟩, hgi, a1, a2, trivial, a3, a4⟩
 ·simp only [Bool.false_eq_true, if_false, if_true] at hi hj ⊢
  obtain ⟨b0, b1, b2, rfl, b3⟩ := hj
  obtain ⟨ob, q, hal⟩ := Zld (P := P) (Γ := Γ) (ops := ops) b0
  cases mi with
  | false =>
   simp only [Bool.false_eq_true, if_false] at hi ⊢
   obtain ⟨rfl, hi⟩ := hi
   exact ⟨_, b3, ⟨hgj, b0, b1, b2, rfl, b3⟩, hgi, rfl, hi⟩
  | true =>
   simp only [if_true] at hi ⊢
   obtain ⟨a1, a2, rfl, a3, a4⟩ := hi
   have hst := a4 (hm rfl)
   obtain ⟨t1, t2⟩ := hst
   have q1 := fun L => (hal fr L).1
   have q2 := fun L => (hal fr L).2
   simp only [q1, q2] at b1 b2 b3 ⊢
   rw [t1] at b2
   refine ⟨L ++ [ob], hH rfl _ _ hL, ⟨hgj, b0, b1, b2, rfl, hH rfl _ _ hL⟩, ?_⟩
   ·obtain ⟨t3, t4, t5⟩ := t2 [ob]
    refine ⟨hgi, t3, by rw [t4]; exact a2, t5.symm, fun _ => b3, fun _ => ?_⟩
    refine ⟨by rw [t5]; simp [t1], fun A => ?_⟩
    obtain ⟨r3, r4, r5⟩ := t2 ([ob] ++ A)
    rw [← List.append_assoc] at r3 r4 r5
    exact ⟨r3, by rw [r4, t4], by rw [r5, t5, List.append_assoc]⟩
 ·simp only [Bool.false_eq_true, if_false, if_true] at hi hj ⊢
  obtain ⟨rfl, hj⟩ := hj
  exact ⟨L, hL, ⟨hgj, rfl, hj⟩, hgi, hi⟩
theorem Ye.keeps {H : Z01 → Prop} {mk al st : Bool} {o : Oper} {fr : List AV} {L L' : Z01} {v : AV} (hL : H L) (h : Ye P Γ ops H mk false al st o fr L v L') : H L' := by
 unfold Ye at h
 cases al
 ·cases mk
  ·simp only [Bool.false_eq_true, if_false] at h; rw [h.2.1]; exact hL
  ·simp only [Bool.false_eq_true, if_false, if_true] at h; exact h.2.2.2.2.1 trivial
 ·simp only [if_true] at h; exact h.2.2.2.2.2
variable {md : Region.Mode}
def opE (P : Program) (Γ : Env) (ops : Array Oper) (H : Z01 → Prop) (mk la al st : Nat → Bool) (i : Nat) (nd : Prop) (K : List AV → Z01 → Prop) (fr : List AV) (L : Z01) : Prop :=
 match ops[i]? with
 | none => K fr L
 | some o => ∃ v L', Ye P Γ ops H (mk i) (la i) (al i) (st i) o fr L v L' ∧ (la i = true → nd) ∧ K (Z1O fr o.dst v) L'
def Zns (P : Program) (Γ : Env) (md : Region.Mode) (ops : Array Oper) (H : Z01 → Prop) (mk la al st : Nat → Bool) (K : List AV → Z01 → Prop) : Nat → Array Bool → List AV → Z01 → Prop
 | 0, listed, fr, L => Region.ready md ops listed = [] ∧ K fr L
 | fuel + 1, listed, fr, L => (Region.ready md ops listed = [] → K fr L) ∧
  ∀ i ∈ Region.ready md ops listed, opE P Γ ops H mk la al st i (Region.ready md ops (listed.setIfInBounds i true) = []) (Zns P Γ md ops H mk la al st K fuel (listed.setIfInBounds i true)) fr L
def Zm8 (mk al st : Nat → Bool) (i j : Nat) (oi oj : Oper) : Prop := (al i = false ∧ al j = false ∧ (¬ (mk i = true ∧ mk j = true) ∨ (Z2w oi.op = true ∧ Z2w oj.op = true))) ∨ (al i = false ∧ al j = true ∧ (mk i = true → st i = true)) ∨ (al i = true ∧ al j = false ∧ mk j = false)
def ZdQ (ops : Array Oper) (md : Region.Mode) (mk al st : Nat → Bool) (listed : Array Bool) (i : Nat) (oi : Oper) : Prop :=
 ∀ j oj, ops[j]? = some oj → j ≠ i → listed.getD j true = false → (∀ e ∈ oj.after, Region.binds md e = true → e.on ≠ i) → oi.apart ops oj = true ∧ (TW ops md i j ∨ Zm8 mk al st i j oi oj)
def Z40 (ops : Array Oper) (md : Region.Mode) (listed : Array Bool) : Prop := ∀ j k, listed.getD j true = false → TW ops md j k → listed.getD k true = false
theorem Z40.set {listed : Array Bool} (h : Z40 ops md listed) {j : Nat} (hj : j ∈ Region.ready md ops listed) : Z40 ops md (listed.setIfInBounds j true) := by
 obtain ⟨hjun, oj, hoj, hall⟩ := mem_ready.1 hj
 intro a b ha hab
 have haj : j ≠ a := by
  intro e; subst e
  rcases Nat.lt_or_ge j listed.size with h' | h'
  ·simp [h'] at ha
  ·simp [Array.getElem?_eq_none h'] at ha
 rw [getD_set_ne true haj] at ha
 by_cases hbj : j = b
 ·subst hbj
  obtain ⟨o', e, ho', he, hb, hlt, h3⟩ := hab.step
  rw [hoj] at ho'
  obtain rfl := Option.some.inj ho'
  have h5 := hall e he hb
  have hlt' : e.on < listed.size := by
   rcases Nat.lt_or_ge j listed.size with h' | h'
   ·omega
   ·simp [Array.getElem?_eq_none h'] at hjun
  rcases h3 with h3 | h3
  ·rw [h3] at h5 hlt'; simp [hlt'] at h5 ha; rw [ha] at h5; cases h5
  ·have h6 := h _ _ ha h3
   simp [hlt'] at h5 h6; rw [h6] at h5; cases h5
 ·rw [getD_set_ne true hbj]; exact h _ _ ha hab
theorem Z40.late {listed : Array Bool} (h : Z40 ops md listed) {i j : Nat} (hi : listed.getD i true = false) (hij : TW ops md i j) : j ∉ Region.ready md ops listed := by
 intro hj
 obtain ⟨hjun, oj, hoj, hall⟩ := mem_ready.1 hj
 obtain ⟨o', e, ho', he, hb, hlt, h3⟩ := hij.step
 rw [hoj] at ho'
 obtain rfl := Option.some.inj ho'
 have h5 := hall e he hb
 have hlt' : e.on < listed.size := by
  rcases Nat.lt_or_ge j listed.size with h' | h'
  ·omega
  ·simp [Array.getElem?_eq_none h'] at hjun
 rcases h3 with h3 | h3
 ·rw [h3] at h5 hlt'; simp [hlt'] at h5 hi; rw [hi] at h5; cases h5
 ·have h6 := h _ _ hi h3
  simp [hlt'] at h5 h6; rw [h6] at h5; cases h5
def Zj2 (ops : Array Oper) (md : Region.Mode) (la : Nat → Bool) : Prop := ∀ i, la i = true → ∀ j, j < ops.size → j ≠ i → TW ops md j i
theorem Z5l {H : Z01 → Prop} {mk la al st : Nat → Bool} {K : List AV → Z01 → Prop} (hla : Zj2 ops md la) (hHa : (∃ i, al i = true) → ∀ G A, H G → H (G ++ A)) {i : Nat} {oi : Oper} {v : AV} (hi : ops[i]? = some oi) :
  ∀ (fuel : Nat) (listed : Array Bool) (fr : List AV) (L L1 : Z01), ZdQ ops md mk al st listed i oi → Z40 ops md listed → i ∈ Region.ready md ops listed → H L → Ye P Γ ops H (mk i) (la i) (al i) (st i) oi fr L v L1 →
   (la i = true → Region.ready md ops (listed.setIfInBounds i true) = []) →
   Zns P Γ md ops H mk la al st K fuel (listed.setIfInBounds i true) (Z1O fr oi.dst v) L1 → Zns P Γ md ops H mk la al st K (fuel + 1) listed fr L := by
 intro fuel
 induction fuel with
 | zero =>
  intro listed fr L L1 _ _ hr hL hy hnd hH
  refine ⟨fun h => (by rw [h] at hr; cases hr), fun j hj => ?_⟩
  by_cases hji : j = i
  ·subst hji; unfold opE; rw [hi]; exact ⟨v, L1, hy, hnd, hH⟩
  ·have := ready_mono hj hji
   rw [hH.1] at this
   cases this
 | succ fuel ih =>
  intro listed fr L L1 hfree hcl hr hL hy hnd hH
  refine ⟨fun h => (by rw [h] at hr; cases hr), fun j hj => ?_⟩
  by_cases hji : j = i
  ·subst hji; unfold opE; rw [hi]; exact ⟨v, L1, hy, hnd, hH⟩
  ·have h1 := hH.2 j (ready_mono hj hji)
   obtain ⟨hjun, oj, hoj, hall⟩ := mem_ready.1 hj
   have hiun := (mem_ready.1 hr).1
   have hjs : j < ops.size := (Array.getElem?_eq_some_iff.1 hoj).1
   have his : i < ops.size := (Array.getElem?_eq_some_iff.1 hi).1
   have hntw : ¬ TW ops md i j := fun ht => hcl.late hiun ht hj
   have hntw' : ¬ TW ops md j i := fun ht => hcl.late hjun ht hr
   have hli : la i = false := by
    cases h : la i with
    | false => rfl
    | true => exact absurd (hla i h j hjs hji) hntw'
   have hlj : la j = false := by
    cases h : la j with
    | false => rfl
    | true => exact absurd (hla j h i his (Ne.symm hji)) hntw
   have hnot : ∀ e ∈ oj.after, Region.binds md e = true → e.on ≠ i := fun e he hb heq => by
    have h1 := hall e he hb
    rw [heq] at h1
    rcases Nat.lt_or_ge i listed.size with h' | h'
    ·simp [h'] at hiun h1; rw [hiun] at h1; cases h1
    ·simp [Array.getElem?_eq_none h'] at h1
   obtain ⟨hap, hmm⟩ := hfree j oj hoj hji hjun hnot
   have hmm := hmm.resolve_left hntw
   unfold opE at h1 ⊢
   rw [hoj] at h1 ⊢
   obtain ⟨u, L2, hyj, hndj, h2⟩ := h1
   rw [hli] at hy
   rw [hlj] at hyj
   obtain ⟨L3, hL3, k1, k2⟩ := hy.swap (fun h => hHa ⟨j, h⟩) hL hyj hap hmm
   refine ⟨u, L3, by rw [hlj]; exact k1, fun h => (by rw [hlj] at h; cases h), ?_⟩
   have hfree' : ZdQ ops md mk al st (listed.setIfInBounds j true) i oi := fun k ok hk hki hun hno => by
    refine hfree k ok hk hki ?_ hno
    by_cases hjk : j = k
    ·subst hjk; exact hjun
    ·rw [getD_set_ne true hjk] at hun; exact hun
   refine ih (listed.setIfInBounds j true) _ _ _ hfree' (hcl.set hj) (ready_mono hr (Ne.symm hji)) hL3 (by rw [hli]; exact k2) (fun h => by rw [hli] at h; cases h) ?_
   rw [Array.setIfInBounds_comm _ _ hji, ← Z62 fr v u (Oper.apart_spec hap).2.1]
   exact h2
def Z55 (ops : Array Oper) (i : Nat) : Bool := match ops[i]? with | some o => Z2w o.op | none => false
def Zlg (ops : Array Oper) (md : Region.Mode) (ms as ss : List Nat) : Bool := (ms ++ as).all fun i => (ms ++ as).all fun j => decide (j ≤ i) || (!as.contains i && !as.contains j && (Z55 ops i && Z55 ops j)) || (!as.contains i && as.contains j && ss.contains i) || twB ops md ms i 12 j
def ZdD (ops : Array Oper) (md : Region.Mode) (lst : Bool) : Bool := !lst || (List.range (ops.size - 1)).all fun j => twB ops md [] j 12 (ops.size - 1)
def laF (ops : Array Oper) (lst : Bool) (i : Nat) : Bool := lst && decide (i + 1 = ops.size)
theorem Z9B {lst : Bool} (h : ZdD ops md lst = true) : Zj2 ops md (laF ops lst) := by
 intro i hi j hj hji
 simp only [laF, Bool.and_eq_true, decide_eq_true_eq] at hi
 obtain ⟨rfl, hi⟩ := hi
 simp only [ZdD, Bool.not_true, Bool.false_or, List.all_eq_true, List.mem_range] at h
 have := h j (by omega)
 rw [show ops.size - 1 = i by omega] at this
 exact ⟨[], 12, this⟩
theorem Z6Z {ms as ss : List Nat} (hm : Zlg ops md ms as ss = true) {i : Nat} {oi : Oper} {listed : Array Bool} (hi : ops[i]? = some oi) (hl : ∀ j, j < i → listed.getD j true = true) (h : Region.free md ops listed i = true) :
  ZdQ ops md (ms.contains ·) (as.contains ·) (ss.contains ·) listed i oi := by
 intro j oj hj hji hun hno
 refine ⟨Region.free_spec hi h j oj hj hji hun hno, ?_⟩
 have hlt : ¬ j ≤ i := fun hle => by have := hl j (by omega); rw [this] at hun; cases hun
 have key : i ∈ ms ++ as → j ∈ ms ++ as → (as.contains i = false ∧ as.contains j = false ∧ Z55 ops i = true ∧ Z55 ops j = true) ∨ (as.contains i = false ∧ as.contains j = true ∧ ss.contains i = true) ∨ TW ops md i j := by
  intro h1 h2
  simp only [Zlg, List.all_eq_true, Bool.or_eq_true, decide_eq_true_eq, Bool.and_eq_true, Bool.not_eq_true'] at hm
  rcases hm i h1 j h2 with ((h3 | h3) | h3) | h3
  ·exact absurd h3 hlt
  ·exact .inl ⟨h3.1.1, h3.1.2, h3.2.1, h3.2.2⟩
  ·exact .inr (.inl ⟨h3.1.1, h3.1.2, h3.2⟩)
  ·exact .inr (.inr ⟨ms, 12, h3⟩)
 have hmem : ∀ k, (ms.contains k = true ∨ as.contains k = true) → k ∈ ms ++ as := fun k hk => by simpa [List.contains_iff_mem] using hk
 unfold Zm8
 have ff : ∀ {b : Bool}, b = true → b = false → False := fun h1 h2 => by rw [h1] at h2; cases h2
 cases hai : as.contains i <;> cases haj : as.contains j
 ·by_cases hmm : ms.contains i = true ∧ ms.contains j = true
  ·rcases key (hmem i (.inl hmm.1)) (hmem j (.inl hmm.2)) with k | k | k
   ·exact .inr (.inl ⟨hai, haj, .inr ⟨by simpa [Z55, hi] using k.2.2.1, by simpa [Z55, hj] using k.2.2.2⟩⟩)
   ·exact (ff k.2.1 haj).elim
   ·exact .inl k
  ·exact .inr (.inl ⟨hai, haj, .inl hmm⟩)
 ·by_cases hmi : ms.contains i = true
  ·rcases key (hmem i (.inl hmi)) (hmem j (.inr haj)) with k | k | k
   ·exact (ff haj k.2.1).elim
   ·exact .inr (.inr (.inl ⟨hai, haj, fun _ => k.2.2⟩))
   ·exact .inl k
  ·exact .inr (.inr (.inl ⟨hai, haj, fun h => absurd h hmi⟩))
 ·by_cases hmj : ms.contains j = true
  ·rcases key (hmem i (.inr hai)) (hmem j (.inl hmj)) with k | k | k
   ·exact (ff hai k.1).elim
   ·exact (ff hai k.1).elim
   ·exact .inl k
  ·exact .inr (.inr (.inr ⟨hai, haj, by simpa using hmj⟩))
 ·rcases key (hmem i (.inr hai)) (hmem j (.inr haj)) with k | k | k
  ·exact (ff hai k.1).elim
  ·exact (ff hai k.1).elim
  ·exact .inl k
def Z6S (lst : Bool) (r : List Oper) (p : Prop) : Prop := match lst, r with
 | true, [] => True
 | _, _ => p
theorem Zax (r : List Oper) (p : Prop) : Z6S false r p = p := by cases r <;> rfl
theorem ZhW (l : Bool) (o : Oper) (r : List Oper) (p : Prop) : Z6S l (o :: r) p = p := by cases l <;> rfl
theorem ZhV (p : Prop) : Z6S true [] p = True := rfl
theorem Z6R {l : Bool} {r : List Oper} {p : Prop} (h : Z6S l r p) : (l && r.isEmpty) = false → p := by
 cases l <;> cases r <;> simp_all [Z6S]
def evE (P : Program) (Γ : Env) (all : List Oper) (H : Z01 → Prop) (ms as ss : List Nat) (lst : Bool) : Nat → List Oper → List AV → Z01 → (List AV → Z01 → Prop) → Prop
 | _, [], fr, L, K => K fr L
 | k, o :: r, fr, L, K =>
  Z1A all fr o.guard ∧
  if as.contains k then Zmy o = true ∧ (stepA P Γ all (Z0h all fr o.guard) fr L o).pre ∧ H (stepA P Γ all (Z0h all fr o.guard) fr L o).L ∧
   evE P Γ all H ms as ss lst (k + 1) r (Z1O fr o.dst (mkV o.guard (Z0h all fr o.guard) (stepA P Γ all (Z0h all fr o.guard) fr L o).v)) (stepA P Γ all (Z0h all fr o.guard) fr L o).L K
  else if ms.contains k then (stepA P Γ all (Z0h all fr o.guard) fr L o).pre ∧ (if ss.contains k then Z7f P Γ all (Z0h all fr o.guard) fr L o else True) ∧ Z6S lst r (H (stepA P Γ all (Z0h all fr o.guard) fr L o).L) ∧
   evE P Γ all H ms as ss lst (k + 1) r (Z1O fr o.dst (mkV o.guard (Z0h all fr o.guard) (stepA P Γ all (Z0h all fr o.guard) fr L o).v)) (stepA P Γ all (Z0h all fr o.guard) fr L o).L K
  else qob H (fun G => (stepA P Γ all (Z0h all fr o.guard) fr G o).pre ∧ (stepA P Γ all (Z0h all fr o.guard) fr G o).L = G ∧ (stepA P Γ all (Z0h all fr o.guard) fr G o).v = (stepA P Γ all (Z0h all fr o.guard) fr L o).v) ∧
   evE P Γ all H ms as ss lst (k + 1) r (Z1O fr o.dst (mkV o.guard (Z0h all fr o.guard) (stepA P Γ all (Z0h all fr o.guard) fr L o).v)) L K
theorem Z4Y {H : Z01 → Prop} {ms as ss : List Nat} {lst : Bool} {K : List AV → Z01 → Prop} (hH : (∃ i, as.contains i = true) → ∀ G A, H G → H (G ++ A)) (hm : Zlg ops md ms as ss = true) (hla : ZdD ops md lst = true) : ∀ (l : List Oper) (k : Nat) (listed : Array Bool) (fr : List AV) (L : Z01), (∀ j, l[j]? = ops[k + j]?) → k + l.length = ops.size → (∀ j, j < k → listed.getD j true = true) → (∀ j o, k ≤ j → ops[j]? = some o → listed.getD j true = false) →
  Region.lexFrom md ops l.length k listed = true → (l = [] ∨ H L) → evE P Γ ops.toList H ms as ss lst k l fr L K → Zns P Γ md ops H (ms.contains ·) (laF ops lst) (as.contains ·) (ss.contains ·) K l.length listed fr L
 | [], _, _, _, _, _, _, _, _, hB, _, h => ⟨by simpa [Region.lexFrom] using hB, h⟩
 | o :: l, k, listed, fr, L, hl, hn, hk, hu, hB, hL, h => by
  have hL : H L := by rcases hL with hL | hL; cases hL; exact hL
  have h0 : ops[k]? = some o := by simpa using (hl 0).symm
  simp only [List.length_cons, Region.lexFrom, Bool.and_eq_true] at hB
  obtain ⟨⟨hr, hf⟩, hB'⟩ := hB
  obtain ⟨hg, h⟩ := h
  have hk' : ∀ j, j < k + 1 → (listed.setIfInBounds k true).getD j true = true := fun j hj => by
   by_cases hjk : k = j
   ·subst hjk
    rcases Nat.lt_or_ge k listed.size with h' | h'
    ·simp [h']
    ·simp [Array.getElem?_eq_none h']
   ·rw [getD_set_ne true hjk]; exact hk j (by omega)
  have hu' : ∀ j o, k + 1 ≤ j → ops[j]? = some o → (listed.setIfInBounds k true).getD j true = false := fun j o' hj ho => by
   rw [getD_set_ne true (show k ≠ j by omega)]; exact hu j o' (by omega) ho
  have hcl : Z40 ops md listed := fun a b ha hab => by
   obtain ⟨o', e, ho', _⟩ := hab.step
   refine hu b o' ?_ ho'
   rcases Nat.lt_or_ge a k with h' | h'
   ·rw [hk a h'] at ha; cases ha
   ·have := hab.lt; omega
  have hl' : ∀ j, l[j]? = ops[k + 1 + j]? := fun j => by have := hl (j + 1); simpa [Nat.add_assoc, Nat.add_comm 1 j] using this
  have hn' : k + 1 + l.length = ops.size := by simp only [List.length_cons] at hn; omega
  have hlk : laF ops lst k = (lst && l.isEmpty) := by
   unfold laF
   cases l with
   | nil => simp only [List.length_nil] at hn'; simp [show k + 1 = ops.size by omega]
   | cons a l => simp only [List.length_cons] at hn'; simp [show ¬ k + 1 = ops.size by omega]
  have hnd : laF ops lst k = true → Region.ready md ops (listed.setIfInBounds k true) = [] := fun hlast => by
   rw [hlk, Bool.and_eq_true] at hlast
   obtain rfl : l = [] := by simpa using hlast.2
   simpa [Region.lexFrom] using hB'
  cases hak : as.contains k with
  | true =>
   rw [hak] at h
   simp only [if_true] at h
   have hlk' : laF ops lst k = true → l = [] := fun hh => by
    rw [hlk, Bool.and_eq_true] at hh; simpa using hh.2
   exact Z5l (Z9B hla) hH h0 l.length listed fr L _ (Z6Z hm h0 hk hf) hcl (by simpa using hr) hL (by unfold Ye; rw [hak]; exact ⟨hg, by simp only [if_true]; exact ⟨h.1, h.2.1, trivial, trivial, h.2.2.1⟩⟩) hnd
    (Z4Y hH hm hla l (k + 1) _ _ _ hl' hn' hk' hu' hB' (.inr h.2.2.1) h.2.2.2)
  | false =>
   rw [hak] at h
   simp only [Bool.false_eq_true, if_false] at h
   cases hmk : ms.contains k with
   | true =>
    rw [hmk] at h
    simp only [if_true] at h
    refine Z5l (Z9B hla) hH h0 l.length listed fr L _ (Z6Z hm h0 hk hf) hcl (by simpa using hr) hL (by
      unfold Ye; rw [hmk, hlk, hak]
      refine ⟨hg, ?_⟩
      simp only [Bool.false_eq_true, if_false, if_true]
      exact ⟨h.1, trivial, trivial, Z6R h.2.2.1, fun hs => by have := h.2.1; rw [hs] at this; simpa using this⟩) hnd
     (Z4Y hH hm hla l (k + 1) _ _ _ hl' hn' hk' hu' hB' ?_ h.2.2.2)
    cases l with
    | nil => exact .inl rfl
    | cons a l => exact .inr (Z6R h.2.2.1 (by simp))
   | false =>
    rw [hmk] at h
    simp only [Bool.false_eq_true, if_false] at h
    exact Z5l (Z9B hla) hH h0 l.length listed fr L L (Z6Z hm h0 hk hf) hcl (by simpa using hr) hL (by
      unfold Ye; rw [hmk, hak]
      refine ⟨hg, ?_⟩
      simp only [Bool.false_eq_true, if_false, true_and]
      exact fun G hG => ⟨(h.1 G hG).1, (h.1 G hG).2.1, by rw [(h.1 G hG).2.2]⟩) hnd
     (Z4Y hH hm hla l (k + 1) _ _ _ hl' hn' hk' hu' hB' (.inr hL) h.2)
theorem Z8j {R : Option Nat} (hΓ : Z03 P Γ) {B : Z7T} {H : Z01 → Prop} {mk la al st : Nat → Bool} {i : Nat} {nd : Prop} {K : List AV → Z01 → Prop} {K' : Act → World → Prop} {Q : Exit → Act → World → Prop} (hK : ∀ fr L m a w, H L ∨ nd → K fr L → RS B fr L m a w → K' a w)
  {fr : List AV} {L : Z01} {m : Mem} {a : Act} {w : World} (hL : H L) (h : opE P Γ ops H mk la al st i nd K fr L) (hR : RS B fr L m a w) : wpOpIn (Z1m R) 0 P ops Q i K' a w := by
 unfold opE at h
 unfold wpOpIn
 split
 ·rename_i ho; rw [ho] at h; exact hK _ _ _ _ _ (.inl hL) h hR
 ·rename_i o ho
  rw [ho] at h
  obtain ⟨v, L', hy, hnd, h⟩ := h
  have hL' : H L' ∨ nd := by
   cases hl : la i with
   | true => exact .inr (hnd hl)
   | false => rw [hl] at hy; exact .inl (hy.keeps hL)
  unfold Ye at hy
  obtain ⟨hg, hy⟩ := hy
  have hstep : (stepA P Γ ops.toList (Z0h ops.toList fr o.guard) fr L o).pre ∧ L' = (stepA P Γ ops.toList (Z0h ops.toList fr o.guard) fr L o).L ∧ v = mkV o.guard (Z0h ops.toList fr o.guard) (stepA P Γ ops.toList (Z0h ops.toList fr o.guard) fr L o).v := by
   cases ha : al i with
   | true => rw [ha] at hy; simp only [if_true] at hy; exact ⟨hy.2.1, hy.2.2.2.1, hy.2.2.1⟩
   | false =>
    rw [ha] at hy; simp only [Bool.false_eq_true, if_false] at hy
    cases hm : mk i with
    | true => rw [hm] at hy; simp only [if_true] at hy; exact ⟨hy.1, hy.2.2.1, hy.2.1⟩
    | false =>
     rw [hm] at hy; simp only [Bool.false_eq_true, if_false] at hy
     obtain ⟨h1, h2, h3⟩ := hy.2 L hL
     exact ⟨h1, by rw [h2]; exact hy.1, h3⟩
  obtain ⟨hp, rfl, rfl⟩ := hstep
  have := Z44 (P := P) (Γ := Γ) (R := R) hΓ hR.wrel hR.frel ops o (next := K') (Q := Q) hg hp fun a' w' m' k1 k2 k3 k4 => hK _ _ _ _ _ hL' h ⟨k1, k2, hR.ext.trans k3, by rw [k4, hR.defers]⟩
  split
  ·rename_i hw; rw [if_pos hw] at this; exact this
  ·rename_i hw; rw [if_neg hw] at this; exact this
theorem Z5k {R : Option Nat} (hΓ : Z03 P Γ) {B : Z7T} {H : Z01 → Prop} {mk la al st : Nat → Bool} {K : List AV → Z01 → Prop} {Q : Exit → Act → World → Prop} (hK : ∀ fr L m a w, K fr L → RS B fr L m a w → Q .normal a w) :
  ∀ (fuel : Nat) (listed : Array Bool) (fr : List AV) (L : Z01) (m : Mem) (a : Act) (w : World), H L ∨ Region.ready md ops listed = [] → Zns P Γ md ops H mk la al st K fuel listed fr L → RS B fr L m a w → wpAnyIn (Z1m R) 0 P md ops Q fuel listed a w
 | 0, _, _, _, _, _, _, _, h, hR => ⟨h.1, hK _ _ _ _ _ h.2 hR⟩
 | fuel + 1, listed, _, L, _, _, _, hL, h, hR => by
  refine ⟨fun h0 => hK _ _ _ _ _ (h.1 h0) hR, fun i hi => ?_⟩
  rcases hL with hL | hL
  ·exact Z8j hΓ (fun fr' L' m' a' w' hL' h' hR' => Z5k hΓ hK fuel _ fr' L' m' a' w' hL' h' hR') hL (h.2 i hi) hR
  ·rw [hL] at hi; cases hi
end
theorem Z02.drawnE {X : Cx} {id : Nat} {ops : Array Oper} {k : List It} {fr : List AV} {L : Z01} (H : Z01 → Prop) (ms as ss : List Nat) (lst : Bool) (hm : X.P.follows .mixedOrders = true) (hB : Region.lexB .any ops = true) (ho : Zlg ops .any ms as ss = true) (hla : ZdD ops .any lst = true) (hH : as = [] ∨ ∀ G A, H G → H (G ++ A)) (hL : H L)
  (h : evE X.P X.Γ ops.toList H ms as ss lst 0 ops.toList fr L (Z02 X k)) : Z02 X (.code (.region id ops true) :: k) fr L := by
 intro m a w hR
 simp only [W]
 simp only [Region.lexB, Bool.and_eq_true] at hB
 refine wpIn_region_any hm ?_
 have hR' : RS X.B fr L m a { w with drawn := w.drawn + 1 } := hR.drew
 have := Z4Y (P := X.P) (Γ := X.Γ) (md := .any) (ops := ops) (K := Z02 X k) (fun ⟨i, hi⟩ => by rcases hH with hH | hH; subst hH; simp at hi; exact hH) ho hla ops.toList 0 (Array.replicate ops.size false) fr L (by simp) (by simp) (fun j hj => by omega) (fun j o hj ho => by have := (Array.getElem?_eq_some_iff.1 ho).1; simp [this]) (by simpa using hB.2) (.inr hL) h
 have h2 := Z5k (R := X.R) (md := .any) (Q := W X.P X.R X.B X.Q k) X.ok (fun fr L m a w hk hR => hk m a w hR) _ _ fr L m a _ (.inl hL) this hR'
 simpa using h2
attribute [push_cast] evE Z7f Zmy Zax ZhW ZhV
mutual
def Z3h : AV → AV
 | .lit (.slice none 0 0) => .sl [] 0
 | .agg cs => .agg (Z1d cs)
 | .tup cs => .tup (Z1d cs)
 | x => x
def Z1d : List AV → List AV
 | [] => []
 | x :: xs => Z3h x :: Z1d xs
end
mutual
theorem Z05.soft {m : Mem} {L : Z01} : ∀ (x : AV) (u : Value), Z05 m L x u → Z05 m L (Z3h x) u
 | .lit v, u, h => by
  by_cases hv : v = .slice none 0 0
  ·subst hv
   simp only [Z05, Z3h] at *
   exact ⟨none, 0, h, Nat.le_refl _, [], Z0b.nil _ _, .inl rfl⟩
  ·have e : Z3h (.lit v) = .lit v := by
    unfold Z3h
    split <;> simp_all
   rw [e]; exact h
 | .agg cs, u, h => by
  simp only [Z05, Z3h] at *
  obtain ⟨us, rfl, hc⟩ := h
  exact ⟨us, rfl, Z0b.soft cs us hc⟩
 | .tup cs, u, h => by
  simp only [Z05, Z3h] at *
  obtain ⟨us, rfl, hc⟩ := h
  exact ⟨us, rfl, Z0b.soft cs us hc⟩
 | .any, _, h => h
 | .int .., _, h => h
 | .bool _, _, h => h
 | .str _, _, h => h
 | .sl .., _, h => h
 | .msl .., _, h => h
 | .ref .., _, h => h
 | .ip _, _, h => h
 | .fn .., _, h => h
 | .ifc .., _, h => h
 | .when .., _, h => h
 | .alt .., _, h => h
 | .ub .., _, h => h
 | .csl .., _, h => h
 | .mp .., _, h => h
 | .mpr .., _, h => h
theorem Z0b.soft {m : Mem} {L : Z01} : ∀ (cs : List AV) (us : List Value), Z0b m L cs us → Z0b m L (Z1d cs) us
 | [], _, h => by simpa only [Z1d] using h
 | c :: cs, us, h => by
  simp only [Z0b, Z1d] at *
  obtain ⟨u, us', rfl, h1, h2⟩ := h
  exact ⟨u, us', rfl, Z05.soft c u h1, Z0b.soft cs us' h2⟩
end
theorem Z3I : ∀ cs : List AV, (Z1d cs).length = cs.length
 | [] => by simp only [Z1d]
 | c :: cs => by simp only [Z1d, List.length_cons, Z3I cs]
theorem Zc8 : Z3h (.lit (.slice none 0 0)) = .sl [] 0 := by simp only [Z3h]
theorem Zc7 (cs : List AV) : Z3h (.tup cs) = .tup (Z1d cs) := by simp only [Z3h]
theorem Zc9 (k : IntKind) (n : Int) : Z3h (.int k n) = .int k n := by simp only [Z3h]
theorem Zca : Z1d [] = [] := by simp only [Z1d]
theorem Zb6 (x : AV) (xs : List AV) : Z1d (x :: xs) = Z3h x :: Z1d xs := by simp only [Z1d]
theorem Z0o.soft {L0 : Z01} {fr : List AV} {L : Z01} {S : List AV × Z01} (h : Z0o L0 (Z1d fr) L S) : Z0o L0 fr L S := .sem (fun m us => Z0b.soft fr us) h
theorem Z0o.softH {L0 : Z01} {fr : List AV} {L : Z01} {S : List AV × Z01} (id : Nat) {cs : List AV} {sz v : Nat} (hL : L[id]? = some (.row cs sz v)) (h : Z0o L0 fr (L.set id (.row (Z1d cs) sz v)) S) : Z0o L0 fr L S := .recell id (Z1d cs) hL (Z3I cs) (fun m us => Z0b.soft cs us) h
attribute [push_cast] Zc8 Zc7 Zc9 Zca Zb6
theorem Z02.recell {X : Cx} {k : List It} {fr : List AV} {L : Z01} (id : Nat) (cs' : List AV) {cs : List AV} {sz v : Nat} (hL : L[id]? = some (.row cs sz v)) (hl : cs'.length = cs.length) (hc : ∀ m us, Z0b m L cs us → Z0b m L cs' us)
  (h : Z02 X k fr (L.set id (.row cs' sz v))) : Z02 X k fr L := fun m a w hR =>
 h m a w ⟨hR.wrel.recell hL hl (hc m), Z0b.mono (Z20 hL hl) _ _ hR.frel, hR.ext.recell hL hl, hR.defers⟩
theorem Z02.nilH {X : Cx} {k : List It} {fr : List AV} {L : Z01} (id j sz' : Nat) {cs : List AV} {sz v : Nat} (hL : L[id]? = some (.row cs sz v)) (hj : cs.getD j .any = .lit (.slice none 0 0))
  (h : Z02 X k fr (L.set id (.row (cs.set j (.msl L.length 0 0 0)) sz v) ++ [.row [] sz' 0])) : Z02 X k fr L := by
 intro m a w hR
 have hlt := (List.getElem?_eq_some_iff.1 hL).1
 have hL1 : (L ++ [Z0T.row [] sz' 0])[id]? = some (.row cs sz v) := by rw [List.getElem?_append_left hlt]; exact hL
 have e : L.set id (.row (cs.set j (.msl L.length 0 0 0)) sz v) ++ [Z0T.row [] sz' 0] = (L ++ [Z0T.row [] sz' 0]).set id (.row (cs.set j (.msl L.length 0 0 0)) sz v) := by
  rw [List.set_append_left _ _ hlt]
 rw [e] at h
 have hjl : j < cs.length := by
  rcases Nat.lt_or_ge j cs.length with h' | h'
  ·exact h'
  ·simp [List.getD, List.getElem?_eq_none h'] at hj
 have hW1 := hR.wrel.nil (sz := sz')
 have hE1 := hR.ext.nil (sz := sz')
 have hc1 := Z0b.mono (Z4a (m := m) (L := L) (sz := sz')) _ _ hR.frel
 have hv : Z05 (Z51 m L.length) (L ++ [Z0T.row [] sz' 0]) (.msl L.length 0 0 0) (.slice none 0 0) := by
  simp only [Z05]
  exact ⟨[], sz', 0, by simp, Nat.le_refl _, ⟨none, 0, 0, rfl⟩, fun _ => ⟨by simp, by simp, none, by simp [Z51], .inl (by simp [Z51])⟩⟩
 have hcell : ∀ us, Z0b (Z51 m L.length) (L ++ [Z0T.row [] sz' 0]) cs us → Z0b (Z51 m L.length) (L ++ [Z0T.row [] sz' 0]) (cs.set j (.msl L.length 0 0 0)) us := by
  intro us hcs
  refine Z0b.mk (by simp [hcs.length]) fun i c u hi hu => ?_
  rw [List.getElem?_set] at hi
  by_cases hij : j = i
  ·subst hij
   simp [hjl] at hi
   subst hi
   have := hcs.getD j
   rw [hj] at this
   simp only [Z05] at this
   simp [List.getD, hu] at this
   rw [this]; exact hv
  ·simp [hij] at hi
   obtain ⟨u1, hu1, hr1⟩ := hcs.get i c hi
   rw [hu] at hu1; obtain rfl := Option.some.inj hu1; exact hr1
 exact h _ a w ⟨hW1.recell hL1 (by simp) hcell, Z0b.mono (Z20 hL1 (by simp)) _ _ hc1, hE1.recell hL1 (by simp), hR.defers⟩
inductive Pt where
 | fix (o : Z0T)
 | row (sz ver : Nat)
 | len (n sz ver : Nat)
 | any
def Z1t : List Pt → Z01 → Prop
 | [], _ => True
 | .fix o :: ps, G => ∃ G', G = o :: G' ∧ Z1t ps G'
 | .row sz v :: ps, G => ∃ cs G', G = .row cs sz v :: G' ∧ Z1t ps G'
 | .len n sz v :: ps, G => ∃ cs G', cs.length = n ∧ G = .row cs sz v :: G' ∧ Z1t ps G'
 | .any :: ps, G => ∃ o G', G = o :: G' ∧ Z1t ps G'
theorem ZlV (f : Z01 → Prop) : qob (Z1t []) f = ∀ A, f A := propext ⟨fun h A => h A trivial, fun h A _ => h A⟩
theorem ZlU (o : Z0T) (ps : List Pt) (f : Z01 → Prop) : qob (Z1t (.fix o :: ps)) f = qob (Z1t ps) (fun G => f (o :: G)) := propext ⟨fun h G hG => h _ ⟨G, rfl, hG⟩, fun h G ⟨G', e, hG⟩ => e ▸ h G' hG⟩
theorem ZlT (sz v : Nat) (ps : List Pt) (f : Z01 → Prop) : qob (Z1t (.row sz v :: ps)) f = ∀ cs, qob (Z1t ps) (fun G => f (.row cs sz v :: G)) := propext ⟨fun h cs G hG => h _ ⟨cs, G, rfl, hG⟩, fun h G ⟨cs, G', e, hG⟩ => e ▸ h cs G' hG⟩
theorem ZlS (ps : List Pt) (f : Z01 → Prop) : qob (Z1t (.any :: ps)) f = ∀ o, qob (Z1t ps) (fun G => f (o :: G)) := propext ⟨fun h o G hG => h _ ⟨o, G, rfl, hG⟩, fun h G ⟨o, G', e, hG⟩ => e ▸ h o G' hG⟩
theorem Zm3 (o : Z0T) (ps : List Pt) (G : Z01) : Z1t (.any :: ps) (o :: G) = Z1t ps G := propext ⟨fun ⟨_, _, h, h'⟩ => by cases h; exact h', fun h => ⟨_, _, rfl, h⟩⟩
theorem Zm7 (G : Z01) : Z1t [] G = True := rfl
theorem Zm6 (o : Z0T) (ps : List Pt) (G : Z01) : Z1t (.fix o :: ps) (o :: G) = Z1t ps G := by simp [Z1t]
theorem Zm5 (cs : List AV) (sz v : Nat) (ps : List Pt) (G : Z01) : Z1t (.row sz v :: ps) (.row cs sz v :: G) = Z1t ps G := propext ⟨fun ⟨_, _, h, h'⟩ => by cases h; exact h', fun h => ⟨_, _, rfl, h⟩⟩
theorem Zm4 (n : Nat) (cs : List AV) (sz v : Nat) (ps : List Pt) (G : Z01) : Z1t (.len n sz v :: ps) (.row cs sz v :: G) = (cs.length = n ∧ Z1t ps G) := propext ⟨fun ⟨_, _, hl, h, h'⟩ => by cases h; exact ⟨hl, h'⟩, fun h => ⟨_, _, h.1, rfl, h.2⟩⟩
theorem Z4J : ∀ (ps : List Pt) {G : Z01} (A : Z01), Z1t ps G → Z1t ps (G ++ A)
 | [], _, _, _ => trivial
 | .fix o :: ps, _, A, ⟨G', e, h⟩ => ⟨G' ++ A, by rw [e]; rfl, Z4J ps A h⟩
 | .row sz v :: ps, _, A, ⟨cs, G', e, h⟩ => ⟨cs, G' ++ A, by rw [e]; rfl, Z4J ps A h⟩
 | .len n sz v :: ps, _, A, ⟨cs, G', hl, e, h⟩ => ⟨cs, G' ++ A, hl, by rw [e]; rfl, Z4J ps A h⟩
 | .any :: ps, _, A, ⟨o, G', e, h⟩ => ⟨o, G' ++ A, by rw [e]; rfl, Z4J ps A h⟩
attribute [push_cast] ZlV ZlU ZlT ZlS Zm7 Zm6 Zm5 Zm4 Zm3
structure Zle where
 ids : List AV → Z01 → List Nat
 args : List AV → Z01 → List AV
 start : List AV → Z01 → Z01
 pre : List AV → Z01 → Prop
 res : List AV → Z01 → AV
 post : List AV → Z01 → Z01
def liftH (g : Zle) : Z0n where
 pre xs L := (∀ x ∈ xs, Zih L (g.ids xs L) x) ∧ (g.ids xs L).Nodup ∧ xs.map (Z3T L (g.ids xs L)) = renL (fun j => (g.ids xs L).getD j j) (g.args xs L) ∧
  ((g.ids xs L).map fun i => L[i]?) = ((g.start xs L).map fun o => some (Z1k (fun j => (g.ids xs L).getD j j) o)) ∧ Z1D (g.start xs L).length (g.args xs L) = true ∧ (g.start xs L).all (Z3K (g.start xs L).length) = true ∧
  g.pre (g.args xs L) (g.start xs L) ∧ (xs.any (Z4l L (g.ids xs L)) = true → Z3m (g.res (g.args xs L) (g.start xs L)) = true ∧ (g.post (g.args xs L) (g.start xs L)).all Z47 = true)
 res xs L := ren (Zho (g.ids xs L) L.length) (g.res (g.args xs L) (g.start xs L))
 post xs L := Z8f (g.ids xs L) L (g.post (g.args xs L) (g.start xs L))
 quiet := false
section
variable {P : Program} {Γ : Env}
open Classical in
theorem Con.liftH {f : FuncId} (hfn : ∃ fn, P.funcs[f]? = some fn ∧ fn.body.isNone = false ∧ (fn.name == "runtime.NumGoroutine") = false) {g : Zle}
  (h : ∀ (m : Mem) (L : Z01) (w : World) (xs : List AV) (vs : List Value), Z0D m L w → Z0b m L xs vs → g.pre xs L → Calls P f vs.toArray w (ZgW m L w (g.res xs L) (g.post xs L))) : Con P f (Eng.liftH g) where
 quiet hq := by cases hq
 runs := .inl ⟨hfn, fun m L w xs vs hW hx hp => by
  obtain ⟨h1, h2, h3, h4, h5, h6, h7, h8⟩ := hp
  obtain ⟨ids, hids⟩ : ∃ ids, ids = g.ids xs L := ⟨_, rfl⟩
  rw [← hids] at h1 h2 h3 h4 h8
  obtain ⟨mp, hmp⟩ : ∃ mp : Mem, mp = if xs.any (Z4l L ids) = true then { m with pobj := fun g => if (∃ i ∈ ids, Own m L i ∧ m.blk i = g) ∨ (∃ i ∈ ids, Hid m L i g) then none else w.heap[g]? } else m := ⟨_, rfl⟩
  have hpin : ∀ g o, m.pobj g = some o → mp.pobj g = some o := by
   intro g o hv
   rw [hmp]
   split
   ·simp only
    rw [if_neg]
    ·exact hW.pobjs _ _ hv
    ·rintro (⟨i, hi, ho, rfl⟩ | ⟨i, hi, hk⟩)
     ·have := hW.freeo i ho
      rw [hv] at this; cases this
     ·have := hW.hid.free i _ hk
      rw [hv] at this; cases this
   ·exact hv
  have hblk : mp.blk = m.blk ∧ mp.cap = m.cap := by rw [hmp]; split <;> exact ⟨rfl, rfl⟩
  have hpins : ∀ g o, mp.pobj g = some o → w.heap[g]? = some o := by
   intro g o hv
   rw [hmp] at hv
   split at hv
   ·simp only at hv
    split at hv
    ·cases hv
    ·exact hv
   ·exact hW.pobjs _ _ hv
  have hfree : ∀ i ∈ ids, Own m L i → mp.pobj (m.blk i) = none := by
   intro i hi ho
   rw [hmp]
   split
   ·simp only
    rw [if_pos (.inl ⟨i, hi, ho, rfl⟩)]
   ·exact hW.freeo i ho
  have M : Z4x m L mp L := ⟨hpin, fun id cs sz ver h => ⟨cs, ver, h, Nat.le_refl _, fun _ => ⟨rfl, by rw [hblk.1], by rw [hblk.2]⟩⟩, fun id r h => ⟨r, h, by rw [hblk.1]⟩⟩
  have hx' : Z0b mp L (xs.map (Z3T L ids)) vs := (Znv hW M (keep := Z3r ids) (full := xs.any (Z4l L ids) = true) fun hf g hno hnh => by
   rw [hmp, if_pos hf]
   simp only
   rw [if_neg]
   rintro (⟨i, hi, ho, he⟩ | ⟨i, hi, hk⟩)
   ·exact hno i (by simp [Z3r, hi]) ho he
   ·exact hnh i (by simp [Z3r, hi]) hk).list hx h1 (fun h => h)
  have hw : ZbO 0 ids (xs.map (Z3T L ids)) L (g.args xs L) (g.start xs L) := ⟨by rw [h3]; exact Z1g _, h4, h2, rfl, h5, h6⟩
  have H := hw.renamed mp
  have hc0 := Z0b.ren H _ _ (by rw [← h3]; exact hx') h5
  obtain ⟨mb, hmb⟩ : ∃ mb : Mem, mb = { mp with blk := fun i => mp.blk (ids.getD i i), cap := fun i => mp.cap (ids.getD i i) } := ⟨_, rfl⟩
  rw [← hmb] at H hc0
  have hgd : ∀ j, j < ids.length → ids.getD j j = ids.getD j 0 := fun j hj => by simp [List.getD, hj]
  have HL : Z9Y m mb L (g.start xs L) ids := ⟨h2, h4, fun j hj => by rw [hmb]; simp only [hblk.1, hgd j hj], fun j hj => by rw [hmb]; simp only [hblk.2, hgd j hj], fun g o hv => by rw [hmb]; exact hpin g o hv⟩
  have hfreeH : ∀ i ∈ ids, ∀ g, Hid m L i g → mp.pobj g = none := by
   intro i hi g hk
   rw [hmp]
   split
   ·simp only
    rw [if_pos (.inr ⟨i, hi, hk⟩)]
   ·exact hW.hid.free i g hk
  have hW0 : Z0D mb (g.start xs L) w := by
   have hs' : ∀ o ∈ g.start xs L, Z3K (g.start xs L).length o = true := by simpa [List.all_eq_true] using h6
   refine ⟨hW.glob.mono fun g o hv => by rw [hmb]; exact hpin g o hv, fun g o hv => hpins g o (by rw [hmb] at hv; exact hv), fun j cs sz ver hL hc => ?_, fun j cs sz ver hL hc => ?_, fun j r hL => ?_, fun i j hi hj he => ?_, fun j ho => ?_, ⟨fun j T e l hL => ?_, fun j g k => ?_, fun j g k i hi => ?_, fun i j g k1 k2 => ?_⟩⟩
   ·obtain ⟨k1, k2⟩ := HL.at hL
    rw [HL.cap j k1] at hc ⊢
    obtain ⟨us, rest, elem, lo, hi, q1, q2, q3, q4⟩ := hW.rows _ _ _ _ k2 hc
    have hscp := hs' _ (List.mem_of_getElem? hL)
    exact ⟨us, rest, elem, lo, hi, by rw [HL.blk j k1]; exact q1, Z0b.ren H _ _ (Z0b.mono M _ _ q2) (by simpa [Z3K] using hscp), q3, q4⟩
   ·obtain ⟨k1, k2⟩ := HL.at hL
    rw [HL.cap j k1] at hc
    have := hW.nils _ _ _ _ k2 hc
    rw [Z2f] at this
    simpa using this
   ·obtain ⟨k1, k2⟩ := HL.at hL
    rw [HL.blk j k1]; exact hW.iters _ _ k2
   ·obtain ⟨a1, a2, a3⟩ := HL.own hi
    obtain ⟨b1, b2, b3⟩ := HL.own hj
    exact Z4S h2 a1 b1 (hW.inj _ _ a2 b2 (by omega))
   ·obtain ⟨a1, a2, a3⟩ := HL.own ho
    rw [a3, hmb]
    exact hfree _ (Z1l a1) a2
   ·obtain ⟨k1, k2⟩ := HL.at hL
    rw [HL.blk j k1, HL.cap j k1]; exact hW.hid.at_ _ _ _ _ k2
   ·obtain ⟨a1, a2⟩ := HL.hid k
    rw [hmb]; exact hfreeH _ (Z1l a1) g a2
   ·obtain ⟨a1, a2⟩ := HL.hid k
    obtain ⟨b1, b2, b3⟩ := HL.own hi
    rw [b3]; exact hW.hid.own _ _ a2 _ b2
   ·obtain ⟨a1, a2⟩ := HL.hid k1
    obtain ⟨b1, b2⟩ := HL.hid k2
    exact Z4S h2 a1 b1 (hW.hid.inj _ _ _ a2 b2)
  have := (h mb (g.start xs L) w (g.args xs L) vs hW0 hc0 h7).mono fun e w' hpost => Z6Q hW HL (xs.any (Z4l L ids)) (fun hf => by rw [hmb, hmp, hf]; rfl) hpost h8
  rw [hids] at this
  exact this⟩
theorem Con.liftH_of_body (hΓ : Z03 P Γ) {f : FuncId} {fn : Func} (hf : P.funcs[f]? = some fn) (hb : fn.body.isNone = false) (hn : (fn.name == "runtime.NumGoroutine") = false) {g : Zle}
  (h : ∀ xs L, g.pre xs L → Z09 P Γ fn xs L (g.res xs L) (g.post xs L)) : Con P f (Eng.liftH g) :=
 Con.liftH ⟨fn, hf, hb, hn⟩ fun m L w xs vs hW hx hp => Z3x hΓ hf (h xs L hp) hW hx
end
mutual
def Z2T : AV → List Nat
 | .ref id _ _ => [id]
 | .fn _ a b => Z3D a ++ Z3D b
 | .agg cs => Z3D cs
 | _ => []
def Z3D : List AV → List Nat
 | [] => []
 | x :: xs => Z2T x ++ Z3D xs
end
def Z1W : List AV → List Nat
 | [] => []
 | .msl id _ _ _ :: xs => id :: Z1W xs
 | .ref id _ _ :: xs => id :: Z1W xs
 | .mp id :: xs => id :: Z1W xs
 | _ :: xs => Z1W xs
def Z2U (deep : Bool) (L : Z01) (id : Nat) : List Nat := match L[id]? with
 | some (.row cs _ _) => cond deep (Z1W cs) (Z3D cs)
 | _ => []
def inL : List Nat → Nat → Bool
 | [], _ => false
 | i :: is, j => i == j || inL is j
def Z0R : List Nat → List Nat → List Nat
 | is, [] => is
 | is, j :: js => cond (inL is j) (Z0R is js) (Z0R (is ++ [j]) js)
def Z1N : List Nat → List Nat → List Nat
 | _, [] => []
 | is, j :: js => cond (inL is j) (Z1N is js) (j :: Z1N is js)
def ZgZ : List Nat → Nat → Nat
 | [], _ => 0
 | i :: is, j => cond (i == j) 0 (ZgZ is j + 1)
def Z1r (deep : Bool) (L : Z01) : Nat → List Nat → List Nat → List Nat
 | 0, is, _ => is
 | _ + 1, is, [] => is
 | n + 1, is, q :: qs => Z1r deep L n (Z0R is (Z2U deep L q)) (qs ++ Z1N is (Z2U deep L q))
def Z60 (deep : Bool) (xs : List AV) (L : Z01) : List Nat := Z1r deep L 9 (Z0R [] (Z3D xs)) (Z0R [] (Z3D xs))
theorem Zki (j : Nat) : inL [] j = false := rfl
theorem Zik (i j : Nat) (is : List Nat) : inL (i :: is) j = (i == j || inL is j) := rfl
theorem ZbG (is : List Nat) : Z0R is [] = is := rfl
theorem Z9W (is js : List Nat) (j : Nat) : Z0R is (j :: js) = cond (inL is j) (Z0R is js) (Z0R (is ++ [j]) js) := rfl
theorem Zdo (is : List Nat) : Z1N is [] = [] := rfl
theorem Zbr (is js : List Nat) (j : Nat) : Z1N is (j :: js) = cond (inL is j) (Z1N is js) (j :: Z1N is js) := rfl
theorem Zim (j : Nat) : ZgZ [] j = 0 := rfl
theorem ZdF (i j : Nat) (is : List Nat) : ZgZ (i :: is) j = cond (i == j) 0 (ZgZ is j + 1) := rfl
theorem ZhB (deep : Bool) (xs : List AV) (L : Z01) : Z60 deep xs L = Z1r deep L 9 (Z0R [] (Z3D xs)) (Z0R [] (Z3D xs)) := rfl
theorem Zbd (deep : Bool) (L : Z01) (n : Nat) (is : List Nat) : Z1r deep L n is [] = is := by cases n <;> rfl
theorem ZhC (deep : Bool) (L : Z01) (is qs : List Nat) (q : Nat) : Z1r deep L 9 is (q :: qs) = Z1r deep L 8 (Z0R is (Z2U deep L q)) (qs ++ Z1N is (Z2U deep L q)) := rfl
theorem ZhD (deep : Bool) (L : Z01) (is qs : List Nat) (q : Nat) : Z1r deep L 8 is (q :: qs) = Z1r deep L 7 (Z0R is (Z2U deep L q)) (qs ++ Z1N is (Z2U deep L q)) := rfl
theorem ZhE (deep : Bool) (L : Z01) (is qs : List Nat) (q : Nat) : Z1r deep L 7 is (q :: qs) = Z1r deep L 6 (Z0R is (Z2U deep L q)) (qs ++ Z1N is (Z2U deep L q)) := rfl
theorem ZhF (deep : Bool) (L : Z01) (is qs : List Nat) (q : Nat) : Z1r deep L 6 is (q :: qs) = Z1r deep L 5 (Z0R is (Z2U deep L q)) (qs ++ Z1N is (Z2U deep L q)) := rfl
theorem ZhG (deep : Bool) (L : Z01) (is qs : List Nat) (q : Nat) : Z1r deep L 5 is (q :: qs) = Z1r deep L 4 (Z0R is (Z2U deep L q)) (qs ++ Z1N is (Z2U deep L q)) := rfl
theorem ZhH (deep : Bool) (L : Z01) (is qs : List Nat) (q : Nat) : Z1r deep L 4 is (q :: qs) = Z1r deep L 3 (Z0R is (Z2U deep L q)) (qs ++ Z1N is (Z2U deep L q)) := rfl
theorem ZhI (deep : Bool) (L : Z01) (is qs : List Nat) (q : Nat) : Z1r deep L 3 is (q :: qs) = Z1r deep L 2 (Z0R is (Z2U deep L q)) (qs ++ Z1N is (Z2U deep L q)) := rfl
theorem Zcx (id v o : Nat) : Z2T (.ref id v o) = [id] := rfl
theorem ZcC (cs : List AV) : Z2T (.agg cs) = Z3D cs := by simp only [Z2T]
theorem ZcB (k : IntKind) (n : Int) : Z2T (.int k n) = [] := rfl
theorem Zcw (l : List UInt8) : Z2T (.str l) = [] := rfl
theorem Zb8 (b : Bool) : Z2T (.bool b) = [] := rfl
theorem ZcA (v : Value) : Z2T (.lit v) = [] := rfl
theorem Zhv (cs : List AV) (n : Nat) : Z2T (.sl cs n) = [] := by simp only [Z2T]
theorem Zcy (a b c d : Nat) : Z2T (.msl a b c d) = [] := rfl
theorem Zcz (k : Option IntKind) (f : Key → Option Value) : Z2T (.mpr k f) = [] := rfl
theorem Zhw (id : Nat) : Z2T (.mp id) = [] := rfl
theorem ZcD : Z3D [] = [] := rfl
theorem Zb9 (x : AV) (xs : List AV) : Z3D (x :: xs) = Z2T x ++ Z3D xs := by simp only [Z3D]
theorem Zcr : Z1W [] = [] := rfl
theorem Zcs (id v o n : Nat) (xs : List AV) : Z1W (.msl id v o n :: xs) = id :: Z1W xs := rfl
theorem Zcq (id v o : Nat) (xs : List AV) : Z1W (.ref id v o :: xs) = id :: Z1W xs := rfl
theorem Zhs (id : Nat) (xs : List AV) : Z1W (.mp id :: xs) = id :: Z1W xs := rfl
theorem Zcv (k : IntKind) (n : Int) (xs : List AV) : Z1W (.int k n :: xs) = Z1W xs := rfl
theorem Zcp (l : List UInt8) (xs : List AV) : Z1W (.str l :: xs) = Z1W xs := rfl
theorem Zb7 (b : Bool) (xs : List AV) : Z1W (.bool b :: xs) = Z1W xs := rfl
theorem Zcu (v : Value) (xs : List AV) : Z1W (.lit v :: xs) = Z1W xs := rfl
theorem Zhr (cs : List AV) (n : Nat) (xs : List AV) : Z1W (.sl cs n :: xs) = Z1W xs := rfl
theorem Zht (cs : List AV) (xs : List AV) : Z1W (.ip cs :: xs) = Z1W xs := rfl
mutual
theorem Zd4 : ∀ x : AV, Z0s x = true → Z2T x = []
 | .agg cs, h => by simp only [Z0s, Z2T] at *; exact Z2t cs h
 | .fn _ a b, h => by simp only [Z0s, Z2T, Bool.and_eq_true] at *; rw [Z2t a h.1, Z2t b h.2]; rfl
 | .tup _, _ => by simp only [Z2T]
 | .sl .., _ => by simp only [Z2T]
 | .ip _, _ => by simp only [Z2T]
 | .ifc .., _ => by simp only [Z2T]
 | .int .., _ => rfl
 | .bool _, _ => rfl
 | .str _, _ => rfl
 | .lit _, _ => rfl
 | .mpr .., _ => rfl
 | .any, h => by simp [Z0s] at h
 | .msl .., h => by simp [Z0s] at h
 | .ref .., h => by simp [Z0s] at h
 | .when .., h => by simp [Z0s] at h
 | .alt .., h => by simp [Z0s] at h
 | .ub .., h => by simp [Z0s] at h
 | .csl .., h => by simp [Z0s] at h
 | .mp .., h => by simp [Z0s] at h
theorem Z2t : ∀ xs : List AV, Z1M xs = true → Z3D xs = []
 | [], _ => rfl
 | x :: xs, h => by simp only [Z1M, Z3D, Bool.and_eq_true] at *; rw [Zd4 x h.1, Z2t xs h.2]; rfl
end
theorem Z58 : ∀ xs : List AV, Z1M xs = true → Z1W xs = []
 | [], _ => rfl
 | x :: xs, h => by
  simp only [Z1M, Bool.and_eq_true] at h
  have := Z58 xs h.2
  cases x <;> simp only [Z1W, this] <;> simp [Z0s] at h
section
variable {α : Type} {f : α → AV} {g : α → List AV}
theorem ZcE [Z3Y f] (xs : List α) : Z3D (xs.map f) = [] := Z2t _ (Z19 xs)
theorem Zhx [Z25 g] (xs : List α) : Z3D (xs.flatMap g) = [] := Z2t _ (Z2M xs)
theorem Zct [Z3Y f] (xs : List α) : Z1W (xs.map f) = [] := Z58 _ (Z19 xs)
theorem Zhu [Z25 g] (xs : List α) : Z1W (xs.flatMap g) = [] := Z58 _ (Z2M xs)
end
attribute [push_cast] Zki Zik ZbG Z9W Zdo Zbr Zim ZdF ZhB Zbd ZhC ZhD ZhE ZhF ZhG ZhH ZhI Zcx ZcC ZcB Zcw Zb8 ZcA Zhv Zcy Zcz Zhw ZcD Zb9 Zcr Zhs Zcs Zcq Zcv Zcp Zb7 Zcu Zhr Zht Z2U ZcE Zhx Zct Zhu
open Classical in
noncomputable def Z0S {α β κ : Type} (e : α → κ) (r : α → β) (d : β) (x : κ) : β := if h : ∃ a, x = e a then r h.choose else d
theorem Z0e {α β κ : Type} {e : α → κ} (hi : ∀ a b, e a = e b → a = b) (r : α → β) (d : β) (a : α) : Z0S e r d (e a) = r a := by
 have h : ∃ b, e a = e b := ⟨a, rfl⟩
 unfold Z0S
 rw [dif_pos h, ← hi _ _ h.choose_spec]
def Z1T {α κ : Type} (e : α → κ) (p : α → Prop) (x : κ) : Prop := ∃ a, x = e a ∧ p a
theorem Z0J {α κ : Type} {e : α → κ} (hi : ∀ a b, e a = e b → a = b) (p : α → Prop) (a : α) : Z1T e p (e a) = p a :=
 propext ⟨fun ⟨b, h1, h2⟩ => by rw [hi _ _ h1]; exact h2, fun h => ⟨a, rfl, h⟩⟩
noncomputable def Z7C {α : Type} (deep : Bool) (e : α → List AV × Z01) (p : α → Prop) (r : α → AV) (h : α → Z01) : Z0n := liftH {
 ids := Z60 deep
 args := fun xs L => renL (fun j => ZgZ (Z60 deep xs L) j) (xs.map (Z3T L (Z60 deep xs L)))
 start := fun xs L => (Z60 deep xs L).map fun i => Z1k (fun j => ZgZ (Z60 deep xs L) j) (L.getD i .dead)
 pre := fun xs L => Z1T e p (xs, L)
 res := fun xs L => Z0S e r .any (xs, L)
 post := fun xs L => Z0S e h [] (xs, L) }
attribute [push_cast] Z7C liftH
theorem Z2c {P : Program} {Γ : Env} (hΓ : Z03 P Γ) {f : FuncId} {fn : Func} (hf : P.funcs[f]? = some fn) (hb : fn.body.isNone = false) (hn : (fn.name == "runtime.NumGoroutine") = false) {α : Type} {deep : Bool} {e : α → List AV × Z01} {p : α → Prop} {r : α → AV} {h : α → Z01}
  (hi : ∀ a b, e a = e b → a = b) (hh : ∀ a, p a → Z09 P Γ fn (e a).1 (e a).2 (r a) (h a)) : Con P f (Z7C deep e p r h) := by
 refine Con.liftH_of_body hΓ hf hb hn fun xs L hx => ?_
 obtain ⟨a, ha, hp⟩ := hx
 simp only
 rw [ha, Z0e hi, Z0e hi]
 have h1 : xs = (e a).1 := by rw [← ha]
 have h2 : L = (e a).2 := by rw [← ha]
 rw [h1, h2]
 exact hh a hp
mutual
def Z2I : AV → List Nat
 | .ref id _ _ => [id]
 | .msl id _ _ _ => [id]
 | .csl id _ _ _ => [id]
 | .mp id => [id]
 | .fn _ a b => Z1x a ++ Z1x b
 | .agg cs => Z1x cs
 | .tup cs => Z1x cs
 | .ifc _ x => Z2I x
 | _ => []
def Z1x : List AV → List Nat
 | [] => []
 | x :: xs => Z2I x ++ Z1x xs
end
def Z10 (L : Z01) (id : Nat) : List Nat := match L[id]? with
 | some (.row cs _ _) => Z1x cs
 | _ => []
def Z0M (L : Z01) : Nat → List Nat → List Nat → List Nat
 | 0, is, _ => is
 | _ + 1, is, [] => is
 | n + 1, is, q :: qs => Z0M L n (Z0R is (Z10 L q)) (qs ++ Z1N is (Z10 L q))
def Z6K (xs : List AV) (L : Z01) : List Nat := Z0M L 16 (Z0R [] (Z1x xs)) (Z0R [] (Z1x xs))
theorem ZcO (xs : List AV) (L : Z01) : Z6K xs L = Z0M L 16 (Z0R [] (Z1x xs)) (Z0R [] (Z1x xs)) := rfl
theorem Z9i (L : Z01) (n : Nat) (is : List Nat) : Z0M L n is [] = is := by cases n <;> rfl
theorem Zbe (L : Z01) (is qs : List Nat) (q : Nat) : Z0M L 16 is (q :: qs) = Z0M L 15 (Z0R is (Z10 L q)) (qs ++ Z1N is (Z10 L q)) := rfl
theorem Zbf (L : Z01) (is qs : List Nat) (q : Nat) : Z0M L 15 is (q :: qs) = Z0M L 14 (Z0R is (Z10 L q)) (qs ++ Z1N is (Z10 L q)) := rfl
theorem Zbg (L : Z01) (is qs : List Nat) (q : Nat) : Z0M L 14 is (q :: qs) = Z0M L 13 (Z0R is (Z10 L q)) (qs ++ Z1N is (Z10 L q)) := rfl
theorem Zbh (L : Z01) (is qs : List Nat) (q : Nat) : Z0M L 13 is (q :: qs) = Z0M L 12 (Z0R is (Z10 L q)) (qs ++ Z1N is (Z10 L q)) := rfl
theorem Zbi (L : Z01) (is qs : List Nat) (q : Nat) : Z0M L 12 is (q :: qs) = Z0M L 11 (Z0R is (Z10 L q)) (qs ++ Z1N is (Z10 L q)) := rfl
theorem Zbj (L : Z01) (is qs : List Nat) (q : Nat) : Z0M L 11 is (q :: qs) = Z0M L 10 (Z0R is (Z10 L q)) (qs ++ Z1N is (Z10 L q)) := rfl
theorem Zbk (L : Z01) (is qs : List Nat) (q : Nat) : Z0M L 10 is (q :: qs) = Z0M L 9 (Z0R is (Z10 L q)) (qs ++ Z1N is (Z10 L q)) := rfl
theorem ZcP (L : Z01) (is qs : List Nat) (q : Nat) : Z0M L 9 is (q :: qs) = Z0M L 8 (Z0R is (Z10 L q)) (qs ++ Z1N is (Z10 L q)) := rfl
theorem ZcQ (L : Z01) (is qs : List Nat) (q : Nat) : Z0M L 8 is (q :: qs) = Z0M L 7 (Z0R is (Z10 L q)) (qs ++ Z1N is (Z10 L q)) := rfl
theorem ZcR (L : Z01) (is qs : List Nat) (q : Nat) : Z0M L 7 is (q :: qs) = Z0M L 6 (Z0R is (Z10 L q)) (qs ++ Z1N is (Z10 L q)) := rfl
theorem ZcS (L : Z01) (is qs : List Nat) (q : Nat) : Z0M L 6 is (q :: qs) = Z0M L 5 (Z0R is (Z10 L q)) (qs ++ Z1N is (Z10 L q)) := rfl
theorem ZcT (L : Z01) (is qs : List Nat) (q : Nat) : Z0M L 5 is (q :: qs) = Z0M L 4 (Z0R is (Z10 L q)) (qs ++ Z1N is (Z10 L q)) := rfl
theorem ZcU (L : Z01) (is qs : List Nat) (q : Nat) : Z0M L 4 is (q :: qs) = Z0M L 3 (Z0R is (Z10 L q)) (qs ++ Z1N is (Z10 L q)) := rfl
theorem ZcV (L : Z01) (is qs : List Nat) (q : Nat) : Z0M L 3 is (q :: qs) = Z0M L 2 (Z0R is (Z10 L q)) (qs ++ Z1N is (Z10 L q)) := rfl
theorem ZcG (id v o : Nat) : Z2I (.ref id v o) = [id] := rfl
theorem ZcH (a b c d : Nat) : Z2I (.msl a b c d) = [a] := rfl
theorem ZcL (a b c d : Nat) : Z2I (.csl a b c d) = [a] := rfl
theorem Zhz (id : Nat) : Z2I (.mp id) = [id] := rfl
theorem ZcK (k : IntKind) (n : Int) : Z2I (.int k n) = [] := rfl
theorem ZcF (l : List UInt8) : Z2I (.str l) = [] := rfl
theorem Zba (b : Bool) : Z2I (.bool b) = [] := rfl
theorem ZcJ (v : Value) : Z2I (.lit v) = [] := rfl
theorem ZcM : Z2I .any = [] := rfl
theorem Zhy (cs : List AV) (n : Nat) : Z2I (.sl cs n) = [] := by simp only [Z2I]
theorem ZcI (k : Option IntKind) (f : Key → Option Value) : Z2I (.mpr k f) = [] := rfl
theorem Zbb : Z1x [] = [] := rfl
theorem Z9h (x : AV) (xs : List AV) : Z1x (x :: xs) = Z2I x ++ Z1x xs := by simp only [Z1x]
theorem Z4H : ∀ xs ys : List AV, Z1x (xs ++ ys) = Z1x xs ++ Z1x ys
 | [], ys => rfl
 | x :: xs, ys => by simp only [List.cons_append, Z1x, Z4H xs ys, List.append_assoc]
mutual
theorem Z6M : ∀ x : AV, Z0s x = true → Z2I x = []
 | .agg cs, h => by simp only [Z0s, Z2I] at *; exact Z1L cs h
 | .tup cs, h => by simp only [Z0s, Z2I] at *; exact Z1L cs h
 | .fn _ a b, h => by simp only [Z0s, Z2I, Bool.and_eq_true] at *; rw [Z1L a h.1, Z1L b h.2]; rfl
 | .ifc _ x, h => by simp only [Z0s, Z2I] at *; exact Z6M x h
 | .sl .., _ => by simp only [Z2I]
 | .ip _, _ => by simp only [Z2I]
 | .int .., _ => rfl
 | .bool _, _ => rfl
 | .str _, _ => rfl
 | .lit _, _ => rfl
 | .mpr .., _ => rfl
 | .any, h => by simp [Z0s] at h
 | .msl .., h => by simp [Z0s] at h
 | .ref .., h => by simp [Z0s] at h
 | .when .., h => by simp [Z0s] at h
 | .alt .., h => by simp [Z0s] at h
 | .ub .., h => by simp [Z0s] at h
 | .csl .., h => by simp [Z0s] at h
 | .mp .., h => by simp [Z0s] at h
theorem Z1L : ∀ xs : List AV, Z1M xs = true → Z1x xs = []
 | [], _ => rfl
 | x :: xs, h => by simp only [Z1M, Z1x, Bool.and_eq_true] at *; rw [Z6M x h.1, Z1L xs h.2]; rfl
end
section
variable {α : Type} {f : α → AV} {g : α → List AV}
theorem Zbc [Z3Y f] (xs : List α) : Z1x (xs.map f) = [] := Z1L _ (Z19 xs)
theorem ZcN [Z25 g] (xs : List α) : Z1x (xs.flatMap g) = [] := Z1L _ (Z2M xs)
end
attribute [push_cast] ZcO Z9i Zbe Zbf Zbg Zbh Zbi Zbj Zbk ZcP ZcQ ZcR ZcS ZcT ZcU ZcV ZcG ZcH ZcL Zhz ZcK ZcF Zba ZcJ ZcM Zhy ZcI Zbb Z9h Z4H Z10 Zbc ZcN
noncomputable def Z6C {α : Type} (e : α → List AV × Z01) (p : α → Prop) (r : α → AV) (h : α → Z01) : Z0n := liftH {
 ids := Z6K
 args := fun xs L => renL (fun j => ZgZ (Z6K xs L) j) (xs.map (Z3T L (Z6K xs L)))
 start := fun xs L => (Z6K xs L).map fun i => Z1k (fun j => ZgZ (Z6K xs L) j) (L.getD i .dead)
 pre := fun xs L => Z1T e p (xs, L)
 res := fun xs L => Z0S e r .any (xs, L)
 post := fun xs L => Z0S e h [] (xs, L) }
attribute [push_cast] Z6C
theorem Z2b {P : Program} {Γ : Env} (hΓ : Z03 P Γ) {f : FuncId} {fn : Func} (hf : P.funcs[f]? = some fn) (hb : fn.body.isNone = false) (hn : (fn.name == "runtime.NumGoroutine") = false) {α : Type} {e : α → List AV × Z01} {p : α → Prop} {r : α → AV} {h : α → Z01}
  (hi : ∀ a b, e a = e b → a = b) (hh : ∀ a, p a → Z09 P Γ fn (e a).1 (e a).2 (r a) (h a)) : Con P f (Z6C e p r h) := by
 refine Con.liftH_of_body hΓ hf hb hn fun xs L hx => ?_
 obtain ⟨a, ha, hp⟩ := hx
 simp only
 rw [ha, Z0e hi, Z0e hi]
 have h1 : xs = (e a).1 := by rw [← ha]
 have h2 : L = (e a).2 := by rw [← ha]
 rw [h1, h2]
 exact hh a hp
theorem Z1q : ∀ xs ys : List AV, Z1d (xs ++ ys) = Z1d xs ++ Z1d ys
 | [], ys => by simp only [Z1d, List.nil_append]
 | x :: xs, ys => by simp only [List.cons_append, Z1d, Z1q xs ys]
theorem Z80 : ∀ n : Nat, Z1d (List.replicate n .any) = List.replicate n .any
 | 0 => by simp only [List.replicate_zero, Z1d]
 | n + 1 => by simp only [List.replicate_succ, Z1d, Z80 n, Z3h]
theorem Z09.soft {P : Program} {Γ : Env} {fn : Func} {xs : List AV} {L L' : Z01} {res : AV} (h : Z09 P Γ fn (Z1d xs) L res L') : Z09 P Γ fn xs L res L' := by
 intro X h1 h2 h3 h4
 obtain ⟨c, hc, hh⟩ := h X h1 h2 h3 h4
 have e : Z4N (Z1d xs) fn.ntmps = Z1d (Z4N xs fn.ntmps) := by
  simp only [Z4N, Z1q, Z80, Z3I]
 rw [e] at hh
 exact ⟨c, hc, Z02.weak (S := (Z1d (Z4N xs fn.ntmps), L)) (.soft (.refl (Z1d (Z4N xs fn.ntmps), L))) hh⟩
theorem Z02.frz {X : Cx} {k : List It} {fr : List AV} {L : Z01} (id : Nat) (hn : X.B.L.length ≤ id) (hok : Z2D L id) (h : Z02 X k (Z4B L id fr) (Z52 L id)) : Z02 X k fr L :=
 Z02.weak (S := (Z4B L id fr, Z52 L id)) (.frz id hn hok (.refl (Z4B L id fr, Z52 L id))) h
theorem Z02.soft {X : Cx} {k : List It} {fr : List AV} {L : Z01} (h : Z02 X k (Z1d fr) L) : Z02 X k fr L :=
 Z02.weak (S := (Z1d fr, L)) (.soft (.refl (Z1d fr, L))) h
end Go.Eng
end
section
namespace Go.Eng
open Go Go.RowKit
end Go.Eng
end
