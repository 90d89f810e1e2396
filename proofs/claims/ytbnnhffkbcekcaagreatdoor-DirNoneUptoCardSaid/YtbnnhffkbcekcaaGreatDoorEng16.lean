/- The engine, part 16: loops by the slots they turn; values that lead to no own row, and rows of them. -/
import Derived.Test.YtbnnhffkbcekcaaGreatDoorEng15
namespace Go.Eng
open Go
set_option linter.unusedVariables false
set_option linter.unusedSimpArgs false

/-! loops: the slots that the body turns are forgotten, but for those that are told -/
def wipe (ws : List Nat) (fr : List AV) : List AV := ws.foldl (fun f i => f.set i .any) fr
def updF (us : List (Nat × AV)) (fr : List AV) : List AV := us.foldl (fun f p => f.set p.1 p.2) fr
theorem wipe_nil (fr : List AV) : wipe [] fr = fr := rfl
theorem wipe_cons (i : Nat) (ws : List Nat) (fr : List AV) : wipe (i :: ws) fr = wipe ws (fr.set i .any) := rfl
theorem updF_nil (fr : List AV) : updF [] fr = fr := rfl
theorem updF_cons (p : Nat × AV) (us : List (Nat × AV)) (fr : List AV) : updF (p :: us) fr = updF us (fr.set p.1 p.2) := rfl

theorem Holds.loopW {X : Cx} {b : Code} {k : List It} {fr : List AV} {L : Heap} {ι : Type} (ws : List Nat) (us : ι → List (Nat × AV)) (Lf : ι → Heap) (μ : ι → Nat) (i0 : ι)
    (h0 : Into X.B.L fr L (updF (us i0) (wipe ws fr), Lf i0))
    (h : ∀ i, Holds X (.code b :: .chk (fun fr' L' => ∃ j, μ j < μ i ∧ Into X.B.L fr' L' (updF (us j) (wipe ws fr), Lf j)) :: k) (updF (us i) (wipe ws fr)) (Lf i)) : Holds X (.code (.loop b) :: k) fr L :=
  Holds.loop (fun i => (updF (us i) (wipe ws fr), Lf i)) μ i0 h0 h

/-- a frame, but for slots that are not looked at any more -/
def maskF : List Bool → List AV → List AV
  | true :: bs, x :: xs => x :: maskF bs xs
  | false :: bs, _ :: xs => .any :: maskF bs xs
  | _, _ => []
theorem maskF_t (bs : List Bool) (x : AV) (xs : List AV) : maskF (true :: bs) (x :: xs) = x :: maskF bs xs := rfl
theorem maskF_f (bs : List Bool) (x : AV) (xs : List AV) : maskF (false :: bs) (x :: xs) = .any :: maskF bs xs := rfl
theorem maskF_nil : maskF [] [] = [] := rfl
theorem Holds.loopM {X : Cx} {b : Code} {k : List It} {fr : List AV} {L : Heap} {ι : Type} (ms : List Bool) (us : ι → List (Nat × AV)) (Lf : ι → Heap) (μ : ι → Nat) (i0 : ι)
    (h0 : Into X.B.L fr L (updF (us i0) (maskF ms fr), Lf i0))
    (h : ∀ i, Holds X (.code b :: .chk (fun fr' L' => ∃ j, μ j < μ i ∧ Into X.B.L fr' L' (updF (us j) (maskF ms fr), Lf j)) :: k) (updF (us i) (maskF ms fr)) (Lf i)) : Holds X (.code (.loop b) :: k) fr L :=
  Holds.loop (fun i => (updF (us i) (maskF ms fr), Lf i)) μ i0 h0 h

mutual
/-- a value that leads to no own row -/
def pureA : AV → Bool
  | .agg cs => pureL cs
  | .tup cs => pureL cs
  | .sl cs _ => pureL cs
  | .ip cs => pureL cs
  | .fn _ a b => pureL a && pureL b
  | .ifc _ x => pureA x
  | .int .. => true
  | .bool _ => true
  | .str _ => true
  | .lit _ => true
  | .mpr .. => true
  | _ => false
def pureL : List AV → Bool
  | [] => true
  | x :: xs => pureA x && pureL xs
end
theorem pureL_iff : ∀ xs : List AV, pureL xs = xs.all pureA
  | [] => rfl
  | x :: xs => by simp only [pureL, List.all_cons, pureL_iff xs]
mutual
theorem pure_scp (n : Nat) : ∀ x : AV, pureA x = true → scp n x = true
  | .agg cs, h => by simp only [pureA, scp] at *; exact pure_scpL n cs h
  | .tup cs, h => by simp only [pureA, scp] at *; exact pure_scpL n cs h
  | .sl cs _, h => by simp only [pureA, scp] at *; exact pure_scpL n cs h
  | .ip cs, h => by simp only [pureA, scp] at *; exact pure_scpL n cs h
  | .fn _ a b, h => by simp only [pureA, scp, Bool.and_eq_true] at *; exact ⟨pure_scpL n a h.1, pure_scpL n b h.2⟩
  | .ifc _ x, h => by simp only [pureA, scp] at *; exact pure_scp n x h
  | .int .., _ => rfl
  | .bool _, _ => rfl
  | .str _, _ => rfl
  | .lit _, _ => rfl
  | .mpr .., _ => rfl
  | .any, h => by simp [pureA] at h
  | .msl .., h => by simp [pureA] at h
  | .ref .., h => by simp [pureA] at h
  | .when .., h => by simp [pureA] at h
  | .alt .., h => by simp [pureA] at h
  | .ub .., h => by simp [pureA] at h
  | .csl .., h => by simp [pureA] at h
  | .mp .., h => by simp [pureA] at h
theorem pure_scpL (n : Nat) : ∀ xs : List AV, pureL xs = true → scpL n xs = true
  | [], _ => rfl
  | x :: xs, h => by simp only [pureL, scpL, Bool.and_eq_true] at *; exact ⟨pure_scp n x h.1, pure_scpL n xs h.2⟩
end
mutual
theorem pure_ren (ρ : Nat → Nat) : ∀ x : AV, pureA x = true → ren ρ x = x
  | .agg cs, h => by simp only [pureA, ren] at *; rw [pure_renL ρ cs h]
  | .tup cs, h => by simp only [pureA, ren] at *; rw [pure_renL ρ cs h]
  | .sl cs _, h => by simp only [pureA, ren] at *; rw [pure_renL ρ cs h]
  | .ip cs, h => by simp only [pureA, ren] at *; rw [pure_renL ρ cs h]
  | .fn _ a b, h => by simp only [pureA, ren, Bool.and_eq_true] at *; rw [pure_renL ρ a h.1, pure_renL ρ b h.2]
  | .ifc _ x, h => by simp only [pureA, ren] at *; rw [pure_ren ρ x h]
  | .int .., _ => rfl
  | .bool _, _ => rfl
  | .str _, _ => rfl
  | .lit _, _ => rfl
  | .mpr .., _ => rfl
  | .any, h => by simp [pureA] at h
  | .msl .., h => by simp [pureA] at h
  | .ref .., h => by simp [pureA] at h
  | .when .., h => by simp [pureA] at h
  | .alt .., h => by simp [pureA] at h
  | .ub .., h => by simp [pureA] at h
  | .csl .., h => by simp [pureA] at h
  | .mp .., h => by simp [pureA] at h
theorem pure_renL (ρ : Nat → Nat) : ∀ xs : List AV, pureL xs = true → renL ρ xs = xs
  | [], _ => rfl
  | x :: xs, h => by simp only [pureL, renL, Bool.and_eq_true] at *; rw [pure_ren ρ x h.1, pure_renL ρ xs h.2]
end
mutual
theorem pure_ver (L : Heap) (id v : Nat) : ∀ x : AV, pureA x = true → verV L id v x = x
  | .agg cs, h => by simp only [pureA, verV] at *; rw [pure_verL L id v cs h]
  | .tup cs, h => by simp only [pureA, verV] at *; rw [pure_verL L id v cs h]
  | .sl cs _, h => by simp only [pureA, verV] at *; rw [pure_scpL 0 cs h]; rfl
  | .ip cs, h => by simp only [pureA, verV] at *; rw [pure_scpL 0 cs h]; rfl
  | .fn _ a b, h => by simp only [pureA, verV, Bool.and_eq_true] at *; rw [pure_verL L id v a h.1, pure_verL L id v b h.2]
  | .ifc _ x, h => by simp only [pureA, verV] at *; rw [pure_ver L id v x h]
  | .int .., _ => rfl
  | .bool _, _ => rfl
  | .str _, _ => rfl
  | .lit _, _ => rfl
  | .mpr .., _ => rfl
  | .any, h => by simp [pureA] at h
  | .msl .., h => by simp [pureA] at h
  | .ref .., h => by simp [pureA] at h
  | .when .., h => by simp [pureA] at h
  | .alt .., h => by simp [pureA] at h
  | .ub .., h => by simp [pureA] at h
  | .csl .., h => by simp [pureA] at h
  | .mp .., h => by simp [pureA] at h
theorem pure_verL (L : Heap) (id v : Nat) : ∀ xs : List AV, pureL xs = true → verL L id v xs = xs
  | [], _ => rfl
  | x :: xs, h => by simp only [pureL, verL, Bool.and_eq_true] at *; rw [pure_ver L id v x h.1, pure_verL L id v xs h.2]
end
mutual
theorem pure_frz (L : Heap) (id : Nat) : ∀ x : AV, pureA x = true → frzV L id x = x
  | .agg cs, h => by simp only [pureA, frzV] at *; rw [pure_frzL L id cs h]
  | .tup cs, h => by simp only [pureA, frzV] at *; rw [pure_frzL L id cs h]
  | .sl cs _, h => by simp only [pureA, frzV] at *; rw [pure_scpL 0 cs h]; rfl
  | .ip cs, h => by simp only [pureA, frzV] at *; rw [pure_scpL 0 cs h]; rfl
  | .fn _ a b, h => by simp only [pureA, frzV, Bool.and_eq_true] at *; rw [pure_scpL 0 a h.1, pure_scpL 0 b h.2]; rfl
  | .ifc _ x, h => by simp only [pureA, frzV] at *; rw [pure_frz L id x h]
  | .int .., _ => rfl
  | .bool _, _ => rfl
  | .str _, _ => rfl
  | .lit _, _ => rfl
  | .mpr .., _ => rfl
  | .any, h => by simp [pureA] at h
  | .msl .., h => by simp [pureA] at h
  | .ref .., h => by simp [pureA] at h
  | .when .., h => by simp [pureA] at h
  | .alt .., h => by simp [pureA] at h
  | .ub .., h => by simp [pureA] at h
  | .csl .., h => by simp [pureA] at h
  | .mp .., h => by simp [pureA] at h
theorem pure_frzL (L : Heap) (id : Nat) : ∀ xs : List AV, pureL xs = true → frzL L id xs = xs
  | [], _ => rfl
  | x :: xs, h => by simp only [pureL, frzL, Bool.and_eq_true] at *; rw [pure_frz L id x h.1, pure_frzL L id xs h.2]
end

/-- a reading that leaves pure values as they are -/
def IdSub (L : Heap) (sub : AV → AV) (sl : AV → Prop) (sb : AV → Bool) : Prop := ∀ x, pureA x = true → sub x = x ∧ sl x ∧ sb x = false
theorem IdSub.zero (L : Heap) : IdSub L deref0 lent0 bor0 := fun x _ => ⟨rfl, trivial, rfl⟩
theorem IdSub.list {L : Heap} {sub : AV → AV} {sl : AV → Prop} {sb : AV → Bool} (H : IdSub L sub sl sb) {xs : List AV} (h : pureL xs = true) : xs.map sub = xs ∧ (∀ x ∈ xs, sl x) ∧ xs.any sb = false := by
  rw [pureL_iff, List.all_eq_true] at h
  refine ⟨?_, fun x hx => (H x (h x hx)).2.1, ?_⟩
  · conv => rhs; rw [← List.map_id xs]
    exact List.map_congr_left fun x hx => (H x (h x hx)).1
  · rw [List.any_eq_false]; intro x hx; rw [(H x (h x hx)).2.2]; simp
theorem IdSub.succ {L : Heap} {keep : Nat → Bool} {sub : AV → AV} {sl : AV → Prop} {sb : AV → Bool} (H : IdSub L sub sl sb) : IdSub L (derefC L keep sub) (lentC L keep sl) (borC L keep sb) := by
  intro x hx
  cases x <;> simp only [pureA, derefC, lentC, borC, Bool.and_eq_true, Bool.false_eq_true] at * <;> try exact ⟨trivial, trivial, trivial⟩
  case agg cs => obtain ⟨h1, h2, h3⟩ := H.list hx; exact ⟨by rw [h1], h2, h3⟩
  case ifc t x => obtain ⟨h1, h2, h3⟩ := H x hx; exact ⟨by rw [h1], h2, h3⟩
  case fn f a b =>
    obtain ⟨h1, h2, h3⟩ := H.list hx.1
    obtain ⟨k1, k2, k3⟩ := H.list hx.2
    exact ⟨by rw [h1, k1], ⟨h2, k2⟩, by rw [h3, k3]; rfl⟩
theorem IdSub.d1 (L : Heap) (k : Nat → Bool) : IdSub L (d1 L k) (l1 L k) (b1 L k) := (IdSub.zero L).succ
theorem IdSub.d2 (L : Heap) (k : Nat → Bool) : IdSub L (d2 L k) (l2 L k) (b2 L k) := (IdSub.d1 L k).succ
theorem IdSub.d3 (L : Heap) (k : Nat → Bool) : IdSub L (d3 L k) (l3 L k) (b3 L k) := (IdSub.d2 L k).succ
theorem IdSub.d4 (L : Heap) (k : Nat → Bool) : IdSub L (derefC L k (Eng.d3 L k)) (lentC L k (l3 L k)) (borC L k (b3 L k)) := (IdSub.d3 L k).succ

/-- rows of pure values of one cell -/
class PureF {α : Type} (f : α → AV) : Prop where
  pure : ∀ x, pureA (f x) = true
  one : ∀ x, oneCells [f x] = true
/-- rows of pure structs -/
class PureC {α : Type} (g : α → List AV) : Prop where
  pure : ∀ x, pureL (g x) = true
  one : ∀ x, oneCells (g x) = true
class FlatF {α : Type} (f : α → AV) : Prop where
  flat : ∀ x, flat (f x) = true
instance : PureF AV.str := ⟨fun _ => rfl, fun _ => rfl⟩
instance : PureF AV.bool := ⟨fun _ => rfl, fun _ => rfl⟩
instance (k : IntKind) : PureF (AV.int k) := ⟨fun _ => rfl, fun _ => rfl⟩
instance : PureF byteAV := ⟨fun _ => rfl, fun _ => rfl⟩
instance : FlatF AV.str := ⟨fun _ => rfl⟩
instance : FlatF AV.bool := ⟨fun _ => rfl⟩
instance (k : IntKind) : FlatF (AV.int k) := ⟨fun _ => rfl⟩
instance : FlatF byteAV := ⟨fun _ => rfl⟩
section
variable {α : Type} {f : α → AV} {g : α → List AV}
theorem oneCells_append : ∀ xs ys : List AV, oneCells xs = true → oneCells ys = true → oneCells (xs ++ ys) = true
  | [], ys, _, h => h
  | x :: xs, ys, h1, h2 => by
    cases x <;> simp only [oneCells, List.cons_append, Bool.and_eq_true, Bool.false_eq_true] at * <;> first | exact oneCells_append xs ys h1 h2 | exact ⟨h1.1, oneCells_append xs ys h1.2 h2⟩
theorem pureL_map [PureF f] (xs : List α) : pureL (xs.map f) = true := by rw [pureL_iff]; simp [PureF.pure]
theorem pureL_fm [PureC g] (xs : List α) : pureL (xs.flatMap g) = true := by
  rw [pureL_iff, List.all_eq_true]; intro x hx
  obtain ⟨a, _, ha⟩ := List.mem_flatMap.1 hx
  have := PureC.pure (g := g) a
  rw [pureL_iff, List.all_eq_true] at this
  exact this x ha
theorem pureL_append (xs ys : List AV) : pureL (xs ++ ys) = (pureL xs && pureL ys) := by simp [pureL_iff]
theorem pureL_at [PureC g] (x : α) : pureL (g x) = true := PureC.pure x
theorem pureA_at [PureF f] (x : α) : pureA (f x) = true := PureF.pure x
theorem scpL_map [PureF f] (n : Nat) (xs : List α) : scpL n (xs.map f) = true := pure_scpL n _ (pureL_map xs)
theorem renL_map [PureF f] (ρ : Nat → Nat) (xs : List α) : renL ρ (xs.map f) = xs.map f := pure_renL ρ _ (pureL_map xs)
theorem verL_map [PureF f] (L : Heap) (id v : Nat) (xs : List α) : verL L id v (xs.map f) = xs.map f := pure_verL L id v _ (pureL_map xs)
theorem frzL_map [PureF f] (L : Heap) (id : Nat) (xs : List α) : frzL L id (xs.map f) = xs.map f := pure_frzL L id _ (pureL_map xs)
theorem one_map [PureF f] : ∀ xs : List α, oneCells (xs.map f) = true
  | [] => rfl
  | x :: xs => by
    have h1 := PureF.one (f := f) x
    exact oneCells_append [f x] (xs.map f) h1 (one_map xs)
theorem d1_map [PureF f] (L : Heap) (k : Nat → Bool) (xs : List α) : (xs.map f).map (d1 L k) = xs.map f := ((IdSub.d1 L k).list (pureL_map xs)).1
theorem d2_map [PureF f] (L : Heap) (k : Nat → Bool) (xs : List α) : (xs.map f).map (d2 L k) = xs.map f := ((IdSub.d2 L k).list (pureL_map xs)).1
theorem d3_map [PureF f] (L : Heap) (k : Nat → Bool) (xs : List α) : (xs.map f).map (d3 L k) = xs.map f := ((IdSub.d3 L k).list (pureL_map xs)).1
theorem l1_map [PureF f] (L : Heap) (k : Nat → Bool) (xs : List α) : (∀ x ∈ xs.map f, l1 L k x) = True := eq_true ((IdSub.d1 L k).list (pureL_map xs)).2.1
theorem l2_map [PureF f] (L : Heap) (k : Nat → Bool) (xs : List α) : (∀ x ∈ xs.map f, l2 L k x) = True := eq_true ((IdSub.d2 L k).list (pureL_map xs)).2.1
theorem l3_map [PureF f] (L : Heap) (k : Nat → Bool) (xs : List α) : (∀ x ∈ xs.map f, l3 L k x) = True := eq_true ((IdSub.d3 L k).list (pureL_map xs)).2.1
theorem l0_list (xs : List AV) : (∀ x ∈ xs, lent0 x) = True := eq_true fun _ _ => trivial
theorem d1_fm [PureC g] (L : Heap) (k : Nat → Bool) (xs : List α) : (xs.flatMap g).map (d1 L k) = xs.flatMap g := ((IdSub.d1 L k).list (pureL_fm xs)).1
theorem d2_fm [PureC g] (L : Heap) (k : Nat → Bool) (xs : List α) : (xs.flatMap g).map (d2 L k) = xs.flatMap g := ((IdSub.d2 L k).list (pureL_fm xs)).1
theorem d3_fm [PureC g] (L : Heap) (k : Nat → Bool) (xs : List α) : (xs.flatMap g).map (d3 L k) = xs.flatMap g := ((IdSub.d3 L k).list (pureL_fm xs)).1
theorem l1_fm [PureC g] (L : Heap) (k : Nat → Bool) (xs : List α) : (∀ x ∈ xs.flatMap g, l1 L k x) = True := eq_true ((IdSub.d1 L k).list (pureL_fm xs)).2.1
theorem l2_fm [PureC g] (L : Heap) (k : Nat → Bool) (xs : List α) : (∀ x ∈ xs.flatMap g, l2 L k x) = True := eq_true ((IdSub.d2 L k).list (pureL_fm xs)).2.1
theorem l3_fm [PureC g] (L : Heap) (k : Nat → Bool) (xs : List α) : (∀ x ∈ xs.flatMap g, l3 L k x) = True := eq_true ((IdSub.d3 L k).list (pureL_fm xs)).2.1
theorem d1_c [PureC g] (L : Heap) (k : Nat → Bool) (x : α) : (g x).map (d1 L k) = g x := ((IdSub.d1 L k).list (PureC.pure x)).1
theorem d2_c [PureC g] (L : Heap) (k : Nat → Bool) (x : α) : (g x).map (d2 L k) = g x := ((IdSub.d2 L k).list (PureC.pure x)).1
theorem d3_c [PureC g] (L : Heap) (k : Nat → Bool) (x : α) : (g x).map (d3 L k) = g x := ((IdSub.d3 L k).list (PureC.pure x)).1
theorem l1_c [PureC g] (L : Heap) (k : Nat → Bool) (x : α) : (∀ y ∈ g x, l1 L k y) = True := eq_true ((IdSub.d1 L k).list (PureC.pure x)).2.1
theorem l2_c [PureC g] (L : Heap) (k : Nat → Bool) (x : α) : (∀ y ∈ g x, l2 L k y) = True := eq_true ((IdSub.d2 L k).list (PureC.pure x)).2.1
theorem l3_c [PureC g] (L : Heap) (k : Nat → Bool) (x : α) : (∀ y ∈ g x, l3 L k y) = True := eq_true ((IdSub.d3 L k).list (PureC.pure x)).2.1
theorem b1_c [PureC g] (L : Heap) (k : Nat → Bool) (x : α) : (g x).any (b1 L k) = false := ((IdSub.d1 L k).list (PureC.pure x)).2.2
theorem b2_c [PureC g] (L : Heap) (k : Nat → Bool) (x : α) : (g x).any (b2 L k) = false := ((IdSub.d2 L k).list (PureC.pure x)).2.2
theorem b3_c [PureC g] (L : Heap) (k : Nat → Bool) (x : α) : (g x).any (b3 L k) = false := ((IdSub.d3 L k).list (PureC.pure x)).2.2
theorem m1_c [PureC g] (L : Heap) (k : Nat → Bool) (x : α) : (∀ y ∈ g x, lentC L k lent0 y) = True := eq_true ((IdSub.d1 L k).list (PureC.pure x)).2.1
theorem m1_map [PureF f] (L : Heap) (k : Nat → Bool) (xs : List α) : (∀ y ∈ xs.map f, lentC L k lent0 y) = True := eq_true ((IdSub.d1 L k).list (pureL_map xs)).2.1
theorem m1_fm [PureC g] (L : Heap) (k : Nat → Bool) (xs : List α) : (∀ y ∈ xs.flatMap g, lentC L k lent0 y) = True := eq_true ((IdSub.d1 L k).list (pureL_fm xs)).2.1
theorem m2_c [PureC g] (L : Heap) (k : Nat → Bool) (x : α) : (∀ y ∈ g x, lentC L k (l1 L k) y) = True := eq_true ((IdSub.d2 L k).list (PureC.pure x)).2.1
theorem m2_map [PureF f] (L : Heap) (k : Nat → Bool) (xs : List α) : (∀ y ∈ xs.map f, lentC L k (l1 L k) y) = True := eq_true ((IdSub.d2 L k).list (pureL_map xs)).2.1
theorem m2_fm [PureC g] (L : Heap) (k : Nat → Bool) (xs : List α) : (∀ y ∈ xs.flatMap g, lentC L k (l1 L k) y) = True := eq_true ((IdSub.d2 L k).list (pureL_fm xs)).2.1
theorem m3_c [PureC g] (L : Heap) (k : Nat → Bool) (x : α) : (∀ y ∈ g x, lentC L k (l2 L k) y) = True := eq_true ((IdSub.d3 L k).list (PureC.pure x)).2.1
theorem m3_map [PureF f] (L : Heap) (k : Nat → Bool) (xs : List α) : (∀ y ∈ xs.map f, lentC L k (l2 L k) y) = True := eq_true ((IdSub.d3 L k).list (pureL_map xs)).2.1
theorem m3_fm [PureC g] (L : Heap) (k : Nat → Bool) (xs : List α) : (∀ y ∈ xs.flatMap g, lentC L k (l2 L k) y) = True := eq_true ((IdSub.d3 L k).list (pureL_fm xs)).2.1
theorem m4_c [PureC g] (L : Heap) (k : Nat → Bool) (x : α) : (∀ y ∈ g x, lentC L k (l3 L k) y) = True := eq_true ((IdSub.d4 L k).list (PureC.pure x)).2.1
theorem m4_map [PureF f] (L : Heap) (k : Nat → Bool) (xs : List α) : (∀ y ∈ xs.map f, lentC L k (l3 L k) y) = True := eq_true ((IdSub.d4 L k).list (pureL_map xs)).2.1
theorem m4_fm [PureC g] (L : Heap) (k : Nat → Bool) (xs : List α) : (∀ y ∈ xs.flatMap g, lentC L k (l3 L k) y) = True := eq_true ((IdSub.d4 L k).list (pureL_fm xs)).2.1
theorem scpL_fm [PureC g] (n : Nat) (xs : List α) : scpL n (xs.flatMap g) = true := pure_scpL n _ (pureL_fm xs)
theorem renL_fm [PureC g] (ρ : Nat → Nat) (xs : List α) : renL ρ (xs.flatMap g) = xs.flatMap g := pure_renL ρ _ (pureL_fm xs)
theorem verL_fm [PureC g] (L : Heap) (id v : Nat) (xs : List α) : verL L id v (xs.flatMap g) = xs.flatMap g := pure_verL L id v _ (pureL_fm xs)
theorem frzL_fm [PureC g] (L : Heap) (id : Nat) (xs : List α) : frzL L id (xs.flatMap g) = xs.flatMap g := pure_frzL L id _ (pureL_fm xs)
theorem one_fm [PureC g] : ∀ xs : List α, oneCells (xs.flatMap g) = true
  | [] => rfl
  | x :: xs => by rw [List.flatMap_cons]; exact oneCells_append (g x) _ (PureC.one x) (one_fm xs)
theorem scpL_c [PureC g] (n : Nat) (x : α) : scpL n (g x) = true := pure_scpL n _ (PureC.pure x)
theorem renL_c [PureC g] (ρ : Nat → Nat) (x : α) : renL ρ (g x) = g x := pure_renL ρ _ (PureC.pure x)
theorem verL_c [PureC g] (L : Heap) (id v : Nat) (x : α) : verL L id v (g x) = g x := pure_verL L id v _ (PureC.pure x)
theorem frzL_c [PureC g] (L : Heap) (id : Nat) (x : α) : frzL L id (g x) = g x := pure_frzL L id _ (PureC.pure x)
theorem one_c [PureC g] (x : α) : oneCells (g x) = true := PureC.one x
theorem pinfreeL_map [FlatF f] (xs : List α) : pinfreeL (xs.map f) = true := flat_pinfree (by simp [FlatF.flat])
end

/-! rows of structs: the cells at a place -/
theorem getD_drop' (xs : List AV) (n j : Nat) (d : AV) : (xs.drop n).getD j d = xs.getD (n + j) d := by simp [List.getD]
theorem getD_map {α : Type} (f : α → AV) (xs : List α) (i : Nat) (h : i < xs.length) (d : AV) (e : α) : (xs.map f).getD i d = f (xs.getD i e) := by simp [List.getD, h]
/-- structs' cells: each has n -/
class Width {α : Type} (g : α → List AV) (n : outParam Nat) : Prop where
  len : ∀ x, (g x).length = n
theorem getD_zi {k : IntKind} (xs : List Int) (i : Nat) : (xs.map (AV.int k)).getD i (.int k 0) = .int k (xs.getD i default) := by
  by_cases h : i < xs.length <;> simp [List.getD, h]
theorem getD_zs (xs : List (List UInt8)) (i : Nat) : (xs.map AV.str).getD i (.str []) = .str (xs.getD i default) := by
  by_cases h : i < xs.length <;> simp [List.getD, h]
  rfl
theorem getD_zb (xs : List Bool) (i : Nat) : (xs.map AV.bool).getD i (.bool false) = .bool (xs.getD i default) := by
  by_cases h : i < xs.length <;> simp [List.getD, h]
theorem getD_zy (xs : List UInt8) (i : Nat) : (xs.map byteAV).getD i (.int .u8 0) = .int .u8 (xs.getD i 0).toNat := by
  by_cases h : i < xs.length <;> simp [List.getD, h, byteAV]
theorem len_c {α : Type} {g : α → List AV} {n : Nat} [Width g n] (x : α) : (g x).length = n := Width.len x
theorem take_c {α : Type} {g : α → List AV} {n : Nat} [Width g n] (x : α) : (g x).take n = g x := List.take_of_length_le (by rw [len_c (g := g) x]; exact Nat.le_refl _)
theorem drop_c {α : Type} {g : α → List AV} {n : Nat} [Width g n] (x : α) : (g x).drop n = [] := List.drop_eq_nil_of_le (by rw [len_c (g := g) x]; exact Nat.le_refl _)
theorem len_fm {α : Type} {g : α → List AV} {n : Nat} [Width g n] (xs : List α) : (xs.flatMap g).length = xs.length * n := by
  induction xs with
  | nil => simp
  | cons x xs ih => rw [List.flatMap_cons, List.length_append, ih, Width.len (g := g) x, List.length_cons, Nat.succ_mul]; omega
theorem drop_fm {α : Type} {g : α → List AV} {n : Nat} [Width g n] (xs : List α) (i : Nat) : (xs.flatMap g).drop (i * n) = (xs.drop i).flatMap g := by
  induction xs generalizing i with
  | nil => simp
  | cons x xs ih =>
    cases i with
    | zero => simp
    | succ i =>
      rw [List.flatMap_cons, Nat.succ_mul, Nat.add_comm, List.drop_succ_cons, ← ih i, ← Width.len (g := g) x, List.drop_append, List.drop_eq_nil_of_le (by omega)]
      simp
theorem take_fm {α : Type} {g : α → List AV} {n : Nat} [Width g n] (xs : List α) (i : Nat) : (xs.flatMap g).take (i * n) = (xs.take i).flatMap g := by
  induction xs generalizing i with
  | nil => simp
  | cons x xs ih =>
    cases i with
    | zero => simp
    | succ i =>
      have hx := Width.len (g := g) x
      rw [List.flatMap_cons, Nat.succ_mul, List.take_succ_cons, List.flatMap_cons, ← ih i, List.take_append, List.take_of_length_le (by omega)]
      congr 2; omega
theorem drop_at {α : Type} {xs : List α} {i : Nat} (h : i < xs.length) (d : α) : xs.drop i = xs.getD i d :: xs.drop (i + 1) := by
  rw [List.drop_eq_getElem_cons h]; simp [List.getD, h]
theorem head_fm {α : Type} {g : α → List AV} {n : Nat} [Width g n] (xs : List α) (i : Nat) (h : i < xs.length) (d : α) : ((xs.flatMap g).drop (i * n)).take n = g (xs.getD i d) := by
  rw [drop_fm, drop_at h d, List.flatMap_cons]
  have hx := Width.len (g := g) (xs.getD i d)
  rw [List.take_append, List.take_of_length_le (by omega), hx, Nat.sub_self, List.take_zero, List.append_nil]

attribute [push_cast] maskF_t maskF_f maskF_nil wipe_nil wipe_cons updF_nil updF_cons pureL_map pureL_fm pureL_append pureL_at pureA_at scpL_map renL_map verL_map frzL_map one_map d1_map d2_map d3_map l1_map l2_map l3_map l0_list d1_fm d2_fm d3_fm l1_fm l2_fm l3_fm d1_c d2_c d3_c l1_c l2_c l3_c b1_c b2_c b3_c scpL_fm renL_fm verL_fm frzL_fm one_fm scpL_c renL_c verL_c frzL_c one_c pinfreeL_map getD_drop' m1_c m1_map m1_fm m2_c m2_map m2_fm m3_c m3_map m3_fm m4_c m4_map m4_fm len_fm len_c take_c drop_c getD_zi getD_zs getD_zb getD_zy

/-! facts with conditions -/
theorem wr_i64 (n : Int) (h : -9223372036854775808 ≤ n ∧ n ≤ 9223372036854775807) : IntKind.i64.wrap n = n := IntWalk.i64_in n h
theorem wr_nn (k : IntKind) (n : Nat) (h : n < 2 ^ (k.bits - 1)) : k.wrap (n : Int) = n := by
  cases k <;> simp [IntKind.wrap, IntKind.bits, IntKind.signed] at * <;> omega
theorem getD_mp {α : Type} [Inhabited α] (f : α → AV) (xs : List α) (i : Nat) (d : AV) (h : i < xs.length) : (xs.map f).getD i d = f (xs.getD i default) := getD_map f xs i h d default
theorem head_fm' {α : Type} [Inhabited α] {g : α → List AV} {n : Nat} [Width g n] (xs : List α) (i : Nat) (h : i < xs.length) : ((xs.flatMap g).drop (i * n)).take n = g (xs.getD i default) := head_fm xs i h default
theorem getD_fm {α : Type} [Inhabited α] {g : α → List AV} {n : Nat} [Width g n] (xs : List α) (i j : Nat) (d : AV) (h : i < xs.length) (hj : j < n) : (xs.flatMap g).getD (i * n + j) d = (g (xs.getD i default)).getD j d := by
  have hx := Width.len (g := g) (xs.getD i default)
  have e : (xs.flatMap g).getD (i * n + j) d = ((xs.flatMap g).drop (i * n)).getD j d := by simp [List.getD]
  rw [e, drop_fm, drop_at h default, List.flatMap_cons]
  simp only [List.getD]
  rw [List.getElem?_append_left (by simp only [List.getD] at hx; omega)]
theorem getD_fm0 {α : Type} [Inhabited α] {g : α → List AV} {n : Nat} [Width g n] (xs : List α) (i : Nat) (d : AV) (h : i < xs.length) (hj : 0 < n) : (xs.flatMap g).getD (i * n) d = (g (xs.getD i default)).getD 0 d := getD_fm xs i 0 d h hj
theorem dec_t {p : Prop} [Decidable p] (h : p) : decide p = true := decide_eq_true h
theorem toNat_add (a : Nat) (b : Nat) : ((a : Int) + (b : Int)).toNat = a + b := by omega
theorem toNat_add1 (a : Nat) : ((a : Int) + 1).toNat = a + 1 := by omega
theorem toNat_sub1 (a : Nat) : ((a : Int) - 1).toNat = a - 1 := by omega
theorem toNat_sub (a : Nat) (b : Nat) : ((a : Int) - (b : Int)).toNat = a - b := by omega
/-! contracts by what comes in -/
section
variable {α β : Type}
def psel (e : α → List AV) (p : α → Prop) (xs : List AV) : Prop := ∃ a, xs = e a ∧ p a
open Classical in
noncomputable def rsel (e : α → List AV) (r : α → β) (d : β) (xs : List AV) : β := if h : ∃ a, xs = e a then r h.choose else d
theorem psel_at {e : α → List AV} (hi : ∀ a b, e a = e b → a = b) (p : α → Prop) (a : α) : psel e p (e a) = p a :=
  propext ⟨fun ⟨b, h1, h2⟩ => by rw [hi _ _ h1]; exact h2, fun h => ⟨a, rfl, h⟩⟩
theorem rsel_at {e : α → List AV} (hi : ∀ a b, e a = e b → a = b) (r : α → β) (d : β) (a : α) : rsel e r d (e a) = r a := by
  have h : ∃ b, e a = e b := ⟨a, rfl⟩
  unfold rsel
  rw [dif_pos h, ← hi _ _ h.choose_spec]
noncomputable def funS (e : α → List AV) (p : α → Prop) (r : α → AV) (h : α → Heap) (q : Bool) : FSpec := lift0 (psel e p) (rsel e r .any) (rsel e h []) q
theorem funS_con {P : Program} {Γ : Env} (hΓ : EnvOk P Γ) {f : FuncId} {fn : Func} (hf : P.funcs[f]? = some fn) (hb : fn.body.isNone = false) (hn : (fn.name == "runtime.NumGoroutine") = false) {e : α → List AV} {p : α → Prop} {r : α → AV} {h : α → Heap} {q : Bool}
    (hi : ∀ a b, e a = e b → a = b) (hq : q = true → ∀ a, h a = []) (hh : ∀ a, p a → BodyOk P Γ fn (e a) [] (r a) (h a)) : Con P f (funS e p r h q) := by
  refine Con.of_body hΓ hf hb hn (fun hq' xs => ?_) fun xs hx => ?_
  · unfold rsel
    split
    · exact hq hq' _
    · rfl
  · obtain ⟨a, rfl, ha⟩ := hx
    rw [rsel_at hi, rsel_at hi]
    exact hh a ha
end
attribute [push_cast] funS
/-! drawn regions in which the first object is turned, and new ones come -/
def modH (T : Heap) : Heap → Prop := fun G => ∃ o A, G = o :: (T ++ A)
theorem qob_mod (T : Heap) (f : Heap → Prop) : qob (modH T) f = ∀ o A, f (o :: (T ++ A)) := propext ⟨fun h o A => h _ ⟨o, A, rfl⟩, fun h G ⟨o, A, hA⟩ => hA ▸ h o A⟩
theorem modH_at (T G : Heap) (o : AObj) : modH T (o :: G) = extH T G := propext ⟨fun ⟨o', A, h⟩ => by cases h; exact ⟨A, rfl⟩, fun ⟨A, h⟩ => ⟨o, A, by rw [h]⟩⟩
theorem extH_nil (L : Heap) : extH [] L = True := by simp [extH]
theorem extH_cons (o : AObj) (L L' : Heap) : extH (o :: L) (o :: L') = extH L L' := by simp [extH]
attribute [push_cast] qob_mod modH_at extH_nil extH_cons
/-- only the second object stays -/
theorem Into.pick1 {fr fr' : List AV} {a o : AObj} {G : Heap} (h : leF fr (renL (fun i => [1].getD i i) fr')) (ho : renO (fun i => [1].getD i i) o = o) (hs : scpL 1 fr' = true) (hc : scpO 1 o = true) : Into [] fr (a :: o :: G) (fr', [o]) :=
  IntoF.base [1] ⟨h, by simpa using ho.symm, by simp, by simp, hs, by simp [hc]⟩ (by simp)
theorem Into.pick2 {fr fr' : List AV} {a b o : AObj} {G : Heap} (h : leF fr (renL (fun i => [2].getD i i) fr')) (ho : renO (fun i => [2].getD i i) o = o) (hs : scpL 1 fr' = true) (hc : scpO 1 o = true) : Into [] fr (a :: b :: o :: G) (fr', [o]) :=
  IntoF.base [2] ⟨h, by simpa using ho.symm, by simp, by simp, hs, by simp [hc]⟩ (by simp)
theorem own_row (l : List UInt8) : ∃ l' : List UInt8, l.map byteAV = l'.map byteAV ∧ l.length = l'.length := ⟨l, rfl, rfl⟩
theorem own_row' {cs : List AV} {n : Nat} (l : List UInt8) (h1 : cs = l.map byteAV) (h2 : n = l.length) : ∃ l' : List UInt8, cs = l'.map byteAV ∧ n = l'.length := ⟨l, h1, h2⟩
theorem ite_hh {α : Type} (c : Prop) [Decidable c] (x : α) : (if c then x else x) = x := by split <;> rfl
end Go.Eng
