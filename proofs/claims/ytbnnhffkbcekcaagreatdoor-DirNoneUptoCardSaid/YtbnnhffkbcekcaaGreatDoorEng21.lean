/- The engine, part 21: contracts for functions that turn all that their arguments lead to: own rows, objects and maps, as deep as they go. -/
import Derived.Test.YtbnnhffkbcekcaaGreatDoorEng20
namespace Go.Eng
open Go
set_option linter.unusedVariables false
set_option linter.unusedSimpArgs false
mutual
def refsA : AV → List Nat
  | .ref id _ _ => [id]
  | .msl id _ _ _ => [id]
  | .csl id _ _ _ => [id]
  | .mp id => [id]
  | .fn _ a b => refsAL a ++ refsAL b
  | .agg cs => refsAL cs
  | .tup cs => refsAL cs
  | .ifc _ x => refsA x
  | _ => []
def refsAL : List AV → List Nat
  | [] => []
  | x :: xs => refsA x ++ refsAL xs
end
def refsAO (L : Heap) (id : Nat) : List Nat := match L[id]? with
  | some (.row cs _ _) => refsAL cs
  | _ => []
/-- ids so far, those not looked into yet -/
def reachAF (L : Heap) : Nat → List Nat → List Nat → List Nat
  | 0, is, _ => is
  | _ + 1, is, [] => is
  | n + 1, is, q :: qs => reachAF L n (addNew is (refsAO L q)) (qs ++ newOf is (refsAO L q))
def reachA (xs : List AV) (L : Heap) : List Nat := reachAF L 16 (addNew [] (refsAL xs)) (addNew [] (refsAL xs))
theorem reachA_at (xs : List AV) (L : Heap) : reachA xs L = reachAF L 16 (addNew [] (refsAL xs)) (addNew [] (refsAL xs)) := rfl
theorem reachAF_nil (L : Heap) (n : Nat) (is : List Nat) : reachAF L n is [] = is := by cases n <;> rfl
theorem reachAF_16 (L : Heap) (is qs : List Nat) (q : Nat) : reachAF L 16 is (q :: qs) = reachAF L 15 (addNew is (refsAO L q)) (qs ++ newOf is (refsAO L q)) := rfl
theorem reachAF_15 (L : Heap) (is qs : List Nat) (q : Nat) : reachAF L 15 is (q :: qs) = reachAF L 14 (addNew is (refsAO L q)) (qs ++ newOf is (refsAO L q)) := rfl
theorem reachAF_14 (L : Heap) (is qs : List Nat) (q : Nat) : reachAF L 14 is (q :: qs) = reachAF L 13 (addNew is (refsAO L q)) (qs ++ newOf is (refsAO L q)) := rfl
theorem reachAF_13 (L : Heap) (is qs : List Nat) (q : Nat) : reachAF L 13 is (q :: qs) = reachAF L 12 (addNew is (refsAO L q)) (qs ++ newOf is (refsAO L q)) := rfl
theorem reachAF_12 (L : Heap) (is qs : List Nat) (q : Nat) : reachAF L 12 is (q :: qs) = reachAF L 11 (addNew is (refsAO L q)) (qs ++ newOf is (refsAO L q)) := rfl
theorem reachAF_11 (L : Heap) (is qs : List Nat) (q : Nat) : reachAF L 11 is (q :: qs) = reachAF L 10 (addNew is (refsAO L q)) (qs ++ newOf is (refsAO L q)) := rfl
theorem reachAF_10 (L : Heap) (is qs : List Nat) (q : Nat) : reachAF L 10 is (q :: qs) = reachAF L 9 (addNew is (refsAO L q)) (qs ++ newOf is (refsAO L q)) := rfl
theorem reachAF_9 (L : Heap) (is qs : List Nat) (q : Nat) : reachAF L 9 is (q :: qs) = reachAF L 8 (addNew is (refsAO L q)) (qs ++ newOf is (refsAO L q)) := rfl
theorem reachAF_8 (L : Heap) (is qs : List Nat) (q : Nat) : reachAF L 8 is (q :: qs) = reachAF L 7 (addNew is (refsAO L q)) (qs ++ newOf is (refsAO L q)) := rfl
theorem reachAF_7 (L : Heap) (is qs : List Nat) (q : Nat) : reachAF L 7 is (q :: qs) = reachAF L 6 (addNew is (refsAO L q)) (qs ++ newOf is (refsAO L q)) := rfl
theorem reachAF_6 (L : Heap) (is qs : List Nat) (q : Nat) : reachAF L 6 is (q :: qs) = reachAF L 5 (addNew is (refsAO L q)) (qs ++ newOf is (refsAO L q)) := rfl
theorem reachAF_5 (L : Heap) (is qs : List Nat) (q : Nat) : reachAF L 5 is (q :: qs) = reachAF L 4 (addNew is (refsAO L q)) (qs ++ newOf is (refsAO L q)) := rfl
theorem reachAF_4 (L : Heap) (is qs : List Nat) (q : Nat) : reachAF L 4 is (q :: qs) = reachAF L 3 (addNew is (refsAO L q)) (qs ++ newOf is (refsAO L q)) := rfl
theorem reachAF_3 (L : Heap) (is qs : List Nat) (q : Nat) : reachAF L 3 is (q :: qs) = reachAF L 2 (addNew is (refsAO L q)) (qs ++ newOf is (refsAO L q)) := rfl
theorem refsA_ref (id v o : Nat) : refsA (.ref id v o) = [id] := rfl
theorem refsA_msl (a b c d : Nat) : refsA (.msl a b c d) = [a] := rfl
theorem refsA_csl (a b c d : Nat) : refsA (.csl a b c d) = [a] := rfl
theorem refsA_mp (id : Nat) : refsA (.mp id) = [id] := rfl
theorem refsA_fn (f : Fn) (a b : List AV) : refsA (.fn f a b) = refsAL a ++ refsAL b := by simp only [refsA]
theorem refsA_agg (cs : List AV) : refsA (.agg cs) = refsAL cs := by simp only [refsA]
theorem refsA_tup (cs : List AV) : refsA (.tup cs) = refsAL cs := by simp only [refsA]
theorem refsA_ifc (t : TypeId) (x : AV) : refsA (.ifc t x) = refsA x := by simp only [refsA]
theorem refsA_int (k : IntKind) (n : Int) : refsA (.int k n) = [] := rfl
theorem refsA_str (l : List UInt8) : refsA (.str l) = [] := rfl
theorem refsA_bool (b : Bool) : refsA (.bool b) = [] := rfl
theorem refsA_lit (v : Value) : refsA (.lit v) = [] := rfl
theorem refsA_any : refsA .any = [] := rfl
theorem refsA_sl (cs : List AV) (n : Nat) : refsA (.sl cs n) = [] := by simp only [refsA]
theorem refsA_ip (cs : List AV) : refsA (.ip cs) = [] := by simp only [refsA]
theorem refsA_mpr (k : Option IntKind) (f : Key → Option Value) : refsA (.mpr k f) = [] := rfl
theorem refsAL_nil : refsAL [] = [] := rfl
theorem refsAL_cons (x : AV) (xs : List AV) : refsAL (x :: xs) = refsA x ++ refsAL xs := by simp only [refsAL]
theorem refsAL_append : ∀ xs ys : List AV, refsAL (xs ++ ys) = refsAL xs ++ refsAL ys
  | [], ys => rfl
  | x :: xs, ys => by simp only [List.cons_append, refsAL, refsAL_append xs ys, List.append_assoc]
mutual
theorem pure_refsA : ∀ x : AV, pureA x = true → refsA x = []
  | .agg cs, h => by simp only [pureA, refsA] at *; exact pure_refsAL cs h
  | .tup cs, h => by simp only [pureA, refsA] at *; exact pure_refsAL cs h
  | .fn _ a b, h => by simp only [pureA, refsA, Bool.and_eq_true] at *; rw [pure_refsAL a h.1, pure_refsAL b h.2]; rfl
  | .ifc _ x, h => by simp only [pureA, refsA] at *; exact pure_refsA x h
  | .sl .., _ => by simp only [refsA]
  | .ip _, _ => by simp only [refsA]
  | .int .., _ => rfl
  | .bool _, _ => rfl
  | .str _, _ => rfl
  | .lit _, _ => rfl
  | .mpr .., _ => rfl
  | .any, h => by simp [pureA] at h
  | .msl .., h => by simp [pureA] at h
  | .ref .., h => by simp [pureA] at h
  | .when .., h => by simp [pureA] at h
  | .alt .., h => by simp [pureA] at h
  | .ub .., h => by simp [pureA] at h
  | .csl .., h => by simp [pureA] at h
  | .mp .., h => by simp [pureA] at h
theorem pure_refsAL : ∀ xs : List AV, pureL xs = true → refsAL xs = []
  | [], _ => rfl
  | x :: xs, h => by simp only [pureL, refsAL, Bool.and_eq_true] at *; rw [pure_refsA x h.1, pure_refsAL xs h.2]; rfl
end
section
variable {α : Type} {f : α → AV} {g : α → List AV}
theorem refsAL_map [PureF f] (xs : List α) : refsAL (xs.map f) = [] := pure_refsAL _ (pureL_map xs)
theorem refsAL_fm [PureC g] (xs : List α) : refsAL (xs.flatMap g) = [] := pure_refsAL _ (pureL_fm xs)
theorem refsAL_c [PureC g] (x : α) : refsAL (g x) = [] := pure_refsAL _ (pureL_at x)
end
attribute [push_cast] reachA_at reachAF_nil reachAF_16 reachAF_15 reachAF_14 reachAF_13 reachAF_12 reachAF_11 reachAF_10 reachAF_9 reachAF_8 reachAF_7 reachAF_6 reachAF_5 reachAF_4 reachAF_3 refsA_ref refsA_msl refsA_csl refsA_mp refsA_fn refsA_agg refsA_tup refsA_ifc refsA_int refsA_str refsA_bool refsA_lit refsA_any refsA_sl refsA_ip refsA_mpr refsAL_nil refsAL_cons refsAL_append refsAO refsAL_map refsAL_fm refsAL_c
noncomputable def heapF {α : Type} (e : α → List AV × Heap) (p : α → Prop) (r : α → AV) (h : α → Heap) : FSpec := liftH {
  ids := reachA
  args := fun xs L => renL (fun j => idxL (reachA xs L) j) (xs.map (derefG L (reachA xs L)))
  start := fun xs L => (reachA xs L).map fun i => renO (fun j => idxL (reachA xs L) j) (L.getD i .dead)
  pre := fun xs L => pselK e p (xs, L)
  res := fun xs L => rselK e r .any (xs, L)
  post := fun xs L => rselK e h [] (xs, L) }
attribute [push_cast] heapF
theorem heapF_con {P : Program} {Γ : Env} (hΓ : EnvOk P Γ) {f : FuncId} {fn : Func} (hf : P.funcs[f]? = some fn) (hb : fn.body.isNone = false) (hn : (fn.name == "runtime.NumGoroutine") = false) {α : Type} {e : α → List AV × Heap} {p : α → Prop} {r : α → AV} {h : α → Heap}
    (hi : ∀ a b, e a = e b → a = b) (hh : ∀ a, p a → BodyOk P Γ fn (e a).1 (e a).2 (r a) (h a)) : Con P f (heapF e p r h) := by
  refine Con.liftH_of_body hΓ hf hb hn fun xs L hx => ?_
  obtain ⟨a, ha, hp⟩ := hx
  simp only
  rw [ha, rselK_at hi, rselK_at hi]
  have h1 : xs = (e a).1 := by rw [← ha]
  have h2 : L = (e a).2 := by rw [← ha]
  rw [h1, h2]
  exact hh a hp
theorem softL_append : ∀ xs ys : List AV, softL (xs ++ ys) = softL xs ++ softL ys
  | [], ys => by simp only [softL, List.nil_append]
  | x :: xs, ys => by simp only [List.cons_append, softL, softL_append xs ys]
theorem softL_any : ∀ n : Nat, softL (List.replicate n .any) = List.replicate n .any
  | 0 => by simp only [List.replicate_zero, softL]
  | n + 1 => by simp only [List.replicate_succ, softL, softL_any n, softV]
/-- what comes in may be said to be softer -/
theorem BodyOk.soft {P : Program} {Γ : Env} {fn : Func} {xs : List AV} {L L' : Heap} {res : AV} (h : BodyOk P Γ fn (softL xs) L res L') : BodyOk P Γ fn xs L res L' := by
  intro X h1 h2 h3 h4
  obtain ⟨c, hc, hh⟩ := h X h1 h2 h3 h4
  have e : inits (softL xs) fn.ntmps = softL (inits xs fn.ntmps) := by
    simp only [inits, softL_append, softL_any, softL_length]
  rw [e] at hh
  exact ⟨c, hc, Holds.weak (S := (softL (inits xs fn.ntmps), L)) (.soft (.refl (softL (inits xs fn.ntmps), L))) hh⟩
theorem Holds.frz {X : Cx} {k : List It} {fr : List AV} {L : Heap} (id : Nat) (hn : X.B.L.length ≤ id) (hok : frzOk' L id) (h : Holds X k (frzL L id fr) (frzH L id)) : Holds X k fr L :=
  Holds.weak (S := (frzL L id fr, frzH L id)) (.frz id hn hok (.refl (frzL L id fr, frzH L id))) h
theorem Holds.soft {X : Cx} {k : List It} {fr : List AV} {L : Heap} (h : Holds X k (softL fr) L) : Holds X k fr L :=
  Holds.weak (S := (softL fr, L)) (.soft (.refl (softL fr, L))) h
end Go.Eng
