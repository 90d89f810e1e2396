/- The engine, part 23: small helpers for its use at rows. -/
import Derived.Test.YtbnnhffkbcekcaaGreatDoorEng22
import Derived.Test.YtbnnhffkbcekcaaGreatDoorAr
namespace Go.Eng
open Go
set_option linter.unusedVariables false
set_option linter.unusedSimpArgs false
attribute [push_cast] List.append_eq getD_fm getD_fm0 head_fm' toNat_add1 toNat_sub1 Int.natCast_nonneg
theorem inj_map {α β : Type} {f : α → β} (hf : ∀ a b, f a = f b → a = b) : ∀ {xs ys : List α}, xs.map f = ys.map f → xs = ys
  | [], [], _ => rfl
  | [], _ :: _, h => by simp at h
  | _ :: _, [], h => by simp at h
  | a :: xs, b :: ys, h => by
    simp only [List.map_cons, List.cons.injEq] at h
    rw [hf _ _ h.1, inj_map hf h.2]
theorem mi_iff {k : IntKind} {xs ys : List Int} : xs.map (AV.int k) = ys.map (AV.int k) ↔ xs = ys := ⟨inj_map fun a b h => by injection h, fun h => by rw [h]⟩
theorem ms_iff {xs ys : List (List UInt8)} : xs.map AV.str = ys.map AV.str ↔ xs = ys := ⟨inj_map fun a b h => by injection h, fun h => by rw [h]⟩
theorem mb_iff {xs ys : List Bool} : xs.map AV.bool = ys.map AV.bool ↔ xs = ys := ⟨inj_map fun a b h => by injection h, fun h => by rw [h]⟩
theorem my_iff {xs ys : List UInt8} : xs.map byteAV = ys.map byteAV ↔ xs = ys := ⟨inj_map fun a b h => by
  simp only [byteAV, AV.int.injEq, true_and] at h
  exact UInt8.toNat.inj (by omega), fun h => by rw [h]⟩
theorem inj_fm {α β : Type} {g : α → List β} {n : Nat} (hg : ∀ a b, g a = g b → a = b) (hw : ∀ a, (g a).length = n) (hn : 0 < n) : ∀ {xs ys : List α}, xs.flatMap g = ys.flatMap g → xs = ys
  | [], [], _ => rfl
  | [], b :: ys, h => by have := congrArg List.length h; simp [hw] at this; omega
  | a :: xs, [], h => by have := congrArg List.length h; simp [hw] at this; omega
  | a :: xs, b :: ys, h => by
    simp only [List.flatMap_cons] at h
    obtain ⟨h1, h2⟩ := List.append_inj h (by rw [hw, hw])
    rw [hg _ _ h1, inj_fm hg hw hn h2]
theorem tk_map {α β : Type} (f : α → β) (l : List α) : List.take l.length (l.map f) = l.map f := List.take_of_length_le (by simp)
theorem tk_fm {α : Type} {g : α → List AV} {w : Nat} [Width g w] (l : List α) : List.take (l.length * w) (l.flatMap g) = l.flatMap g := List.take_of_length_le (by rw [len_fm (g := g)]; omega)
theorem oc_nil : (Value.slice none 0 0).oneCell' = true := rfl
attribute [push_cast] oc_nil
theorem IntoF.tupW {L0 : Heap} {cs ds : List AV} {L : Heap} {S : List AV × Heap} (h : leF cs ds) (h' : IntoF L0 [.tup ds] L S) : IntoF L0 [.tup cs] L S :=
  .sem (fun m us hc => by
    simp only [CRel, VRel] at hc ⊢
    obtain ⟨u, us', rfl, ⟨vs, rfl, hv⟩, rfl⟩ := hc
    exact ⟨_, _, rfl, ⟨vs, rfl, leF_rel h hv⟩, rfl⟩) h'
/-- a row of results, of which less is said -/
theorem Into.tup0 {cs ds : List AV} {G : Heap} (h : leF cs ds := by simp only [leF, true_and, and_true, and_self]) (hs : scpL 0 ds = true := by (simp only [push_cast, reduceCtorEq, Nat.reduceAdd, Nat.reduceMul, Nat.reduceSub, Nat.reduceBEq, Nat.reduceGT, Nat.reduceLT, Int.toNat_zero, Nat.reduceLeDiff, Int.reduceEq, Int.reduceLT, Int.reduceLE]; done)) : Into [] [.tup cs] G ([.tup ds], []) :=
  .tupW h (Into.one rfl (by simpa [scp] using hs))
end Go.Eng
