/- The engine, part 7M: maps. -/
import Derived.Test.YtbnnhffkbcekcaaGreatDoorEng7
import Derived.MapKept
import Derived.Laws.StructEq
namespace Go.Eng
open Go
set_option linter.unusedVariables false
set_option linter.unusedSimpArgs false
section
variable {P : Program} {m : Mem} {L : Heap} {w : World}

def descOf : Option IntKind → TypeDesc
  | some k => .int k
  | none => .string
theorem kindOf_under {kt : TypeId} {kd : Option IntKind} (h : kindOf P kt = some kd) : P.underlying kt = some (descOf kd) := by
  unfold kindOf at h
  split at h <;> simp_all
  all_goals (subst h; rfl)
theorem checkKey_run {kt : TypeId} {kd : Option IntKind} (h : kindOf P kt = some kd) (b : Bool) (k : Key) (hk : k.kd = kd) : (Instr.checkKey b 10000 kt k.val).run P w = .ok () w := by
  have hu := kindOf_under h
  show (Instr.checkKey b (9999 + 1) kt k.val).run P w = _
  generalize 9999 = d
  cases k <;> simp only [Key.kd] at hk <;> subst hk <;> simp only [descOf] at hu <;> simp [Instr.checkKey, Key.val, run_underlying' hu]
theorem key_inj {k k' : Key} (h : k.val = k'.val) : k = k' := by
  cases k <;> cases k' <;> simp_all [Key.val]
theorem sameNow_key {kd : Option IntKind} {k k' : Key} (h : k.kd = kd) (h' : k'.kd = kd) : Instr.sameNow (descOf kd) k.val k'.val = some (decide (k = k')) := by
  subst h
  cases k <;> cases k' <;> simp only [Key.kd, reduceCtorEq, Option.some.injEq] at h' <;> simp [Instr.sameNow, Key.val, Key.kd, descOf]
  · subst h'; simp
    rw [Bool.eq_iff_iff]; simp
  · rename_i a b
    rw [Bool.eq_iff_iff, beq_toListBytes, ByteArray.toList_mk, ByteArray.toList_mk]; simp
theorem findNow_spec {kd : Option IntKind} {k : Key} (hk : k.kd = kd) : ∀ (es : List MapEntry) (i : Nat), (∀ e ∈ es, ∃ k' : Key, e.key = k'.val ∧ k'.kd = kd) →
    (∃ j e, es[j]? = some e ∧ e.key = k.val ∧ Instr.findNow (descOf kd) k.val es i = some (some (i + j, e.val))) ∨
    ((∀ e ∈ es, e.key ≠ k.val) ∧ Instr.findNow (descOf kd) k.val es i = some none)
  | [], i, _ => .inr ⟨by simp, rfl⟩
  | e :: es, i, h => by
    obtain ⟨k', h1, h2⟩ := h e (by simp)
    have hs := sameNow_key hk h2
    by_cases he : k = k'
    · left
      refine ⟨0, e, rfl, by rw [h1, he], ?_⟩
      subst he
      simp only [Instr.findNow, h1, hs, decide_true, Nat.add_zero]
    · have hf : Instr.findNow (descOf kd) k.val (e :: es) i = Instr.findNow (descOf kd) k.val es (i + 1) := by
        simp only [Instr.findNow, h1, hs, he, decide_false]
      rcases findNow_spec hk es (i + 1) (fun x hx => h x (by simp [hx])) with ⟨j, e', q1, q2, q3⟩ | ⟨q1, q2⟩
      · left
        exact ⟨j + 1, e', by simpa using q1, q2, by rw [hf, q3]; congr 3; omega⟩
      · right
        refine ⟨fun x hx => ?_, by rw [hf, q2]⟩
        rcases List.mem_cons.1 hx with rfl | hx
        · rw [h1]; exact fun e => he (key_inj e).symm
        · exact q1 x hx
theorem MRel.kinds {kd : Option IntKind} {f : Key → Option Value} {es : List MapEntry} (h : MRel kd f es) : ∀ e ∈ es, ∃ k' : Key, e.key = k'.val ∧ k'.kd = kd := fun e he => by
  obtain ⟨k, h1, h2⟩ := h.ent e he
  exact ⟨k, h1, (h.has k _ h2).1⟩
theorem find_spec {kd : Option IntKind} {f : Key → Option Value} {es : List MapEntry} (h : MRel kd f es) {k : Key} (hk : k.kd = kd) {kt : TypeId} (hkt : kindOf P kt = some kd) :
    (∃ j e, es[j]? = some e ∧ e.key = k.val ∧ f k = some e.val ∧ ∀ w, (Instr.findKey kt k.val es).run P w = .ok (some (j, e.val)) w) ∨ (f k = none ∧ (∀ e ∈ es, e.key ≠ k.val) ∧ ∀ w, (Instr.findKey kt k.val es).run P w = .ok none w) := by
  have hu := kindOf_under hkt
  rcases findNow_spec hk es 0 h.kinds with ⟨j, e, q1, q2, q3⟩ | ⟨q1, q2⟩
  · left
    obtain ⟨k', h1, h2⟩ := h.ent e (List.mem_of_getElem? q1)
    have : k = k' := key_inj (by rw [← q2, h1])
    subst this
    refine ⟨j, e, q1, q2, h2, fun w => ?_⟩
    have := MapKept.run_findKey (w := w) hu q3
    simpa using this
  · right
    refine ⟨?_, q1, fun w => MapKept.run_findKey (w := w) hu q2⟩
    cases hf : f k with
    | none => rfl
    | some v =>
      obtain ⟨_, e, he, h2⟩ := h.has k v hf
      exact absurd h2 (q1 e he)

theorem mp_obj (hW : WRel m L w) {id : Nat} {kd : Option IntKind} {f : Key → Option Value} {u : Value} (hx : VRel m L (.mp id) u) (hL : L[id]? = some (.raw (.map kd f))) :
    u = .map (some (m.blk id)) ∧ ∃ es clock, w.heap[m.blk id]? = some (.map es clock) ∧ MRC kd f es.toList clock := by
  simp only [VRel] at hx
  obtain ⟨r, hL', hu⟩ := hx
  obtain ⟨o, hb, hr⟩ := hW.iters _ _ hL
  simp only [RawRel] at hr
  obtain ⟨es, clock, rfl, h⟩ := hr
  exact ⟨hu, es, clock, hb, h⟩
theorem keyOfA_rel {X : AV} {u : Value} {k : Key} (hx : VRel m L X u) (h : keyOfA X = some k) : u = k.val := by
  cases X <;> simp only [keyOfA, reduceCtorEq, Option.some.injEq] at h <;> subst h <;> simpa only [VRel, Key.val] using hx

theorem look_at (hW : WRel m L w) (t : TypeId) (ok : Bool) {kt et : TypeId} (hu : P.underlying t = some (.map kt et)) {kd : Option IntKind} {f : Key → Option Value} {g : Nat} {es : Array MapEntry} {clock : Nat} (hb : w.heap[g]? = some (.map es clock)) (hM : MRel kd f es.toList) (key : Key) :
    Sound P m L w ⟨hasZero P et ∧ kindOf P kt = some kd ∧ key.kd = kd, cond ok (.alt (f key).isSome (.tup [ofV ((f key).getD undef), .bool true]) (.tup [zeroA P et, .bool false])) (pickV (f key).isSome (ofV ((f key).getD undef)) (zeroA P et)), L⟩
      (vSem (Instr.lookup t (.map (some g)) key.val ok)) := by
  refine Sound.pure hW fun hp => ?_
  obtain ⟨hz, hkt, hkd⟩ := hp
  have hget : (getObj g).run P w = .ok (.map es clock) w := by simp [getObj, Sem.run, hb]
  have hc := checkKey_run (P := P) (w := w) hkt es.isEmpty key hkd
  obtain ⟨z, i, h1, h2, h3, h4⟩ := zero_parts (P := P) (w := w) hz
  rcases find_spec (P := P) hM hkd hkt with ⟨j, e, q1, q2, q3, q4⟩ | ⟨q1, q2, q3⟩
  · refine ⟨if ok then .tuple #[e.val, .bool true] else e.val, ?_, ?_⟩
    · simp [Instr.lookup, run_underlying' hu, hget, hc, q4]
    · rw [q3]
      cases ok
      · simp only [cond_false, Option.isSome_some, Option.getD_some, pickV_true]; exact ofV_rel _ _ _
      · simp only [cond_true, Option.isSome_some, Option.getD_some, VRel]
        exact ⟨fun _ => ⟨[e.val, .bool true], rfl, by simp only [CRel]; exact ⟨_, _, rfl, ofV_rel _ _ _, _, _, rfl, by simp [VRel], rfl⟩⟩, fun h => by cases h⟩
  · refine ⟨if ok then .tuple #[z, .bool false] else z, ?_, ?_⟩
    · simp [Instr.lookup, run_underlying' hu, hget, hc, q3, h4]
    · rw [q1]
      cases ok
      · simp only [cond_false, Option.isSome_none, pickV_false]; rw [h3]; exact ofV_rel _ _ _
      · simp only [cond_true, Option.isSome_none, VRel]
        exact ⟨(fun h => by cases h), fun _ => ⟨[z, .bool false], rfl, by simp only [CRel]; exact ⟨_, _, rfl, by rw [h3]; exact ofV_rel _ _ _, _, _, rfl, by simp [VRel], rfl⟩⟩⟩
theorem look_sound (hW : WRel m L w) (t : TypeId) (ok : Bool) {X K : AV} {u k : Value} (hx : VRel m L X u) (hk : VRel m L K k) : Sound P m L w (lookR P L t X K ok) (vSem (Instr.lookup t u k ok)) := by
  unfold lookR
  split
  · rename_i kt et id key hu hkey
    split
    · rename_i kd f hL
      obtain ⟨rfl, es, clock, hb, hM⟩ := mp_obj hW hx hL
      have := keyOfA_rel hk hkey
      subst this
      exact look_at hW t ok hu hb hM.rel key
    · exact fun h => h.elim
  · rename_i kt et kd f key hu hkey
    simp only [VRel] at hx
    obtain ⟨g, es, clock, rfl, hp, hM⟩ := hx
    have := keyOfA_rel hk hkey
    subst this
    exact look_at hW t ok hu (hW.pobjs _ _ hp) hM.rel key
  · exact fun h => h.elim

theorem makeMap_sound (hW : WRel m L w) (t : TypeId) {r : Option AV} {v : Option Value} (hr : ORel m L r v) : Sound P m L w (makeMapR P true L t r) (vSem (Instr.makeMap t v)) := by
  have key : ∀ (kd : Option IntKind), (∀ w : World, (Instr.makeMap t v).run P w = .ok (.map (some w.heap.size)) (w.alloc (.map #[] 0))) → Sound P m L w ⟨true = true, .mp L.length, L ++ [.raw (.map kd noK)]⟩ (vSem (Instr.makeMap t v)) := by
    intro kd hrun _
    have hP := Pushed.alloc w (.map #[] 0)
    refine ⟨.value (.map (some w.heap.size)), _, _, ?_, .inl ⟨_, rfl, ?_⟩, push_raw hW hP ?_, ext_push _ _ hP.keep⟩
    · simp [vSem, hrun w]
    · simp only [VRel]
      exact ⟨.map kd noK, by simp, by simp [Mem.put]⟩
    · exact ⟨#[], 0, rfl, ⟨by simp, by simp [noK], by simp⟩, ⟨by simp, by simp⟩⟩
  unfold makeMapR
  split
  · rename_i kt et hu
    have := hr.iff.1 rfl; subst this
    split
    · refine key _ fun w => ?_
      simp [Instr.makeMap]
    · exact fun h => h.elim
  · rename_i kt et k n hu
    split
    · cases v with
      | none => exact absurd (hr.iff.2 rfl) (by simp)
      | some v =>
        have hv := hr
        simp only [ORel, VRel] at hv
        subst hv
        refine key _ fun w => ?_
        simp [Instr.makeMap, run_underlying' hu, asInt, asIntOf]
    · exact fun h => h.elim
  · exact fun h => h.elim

theorem pureV_rel {X : AV} {u v : Value} (hx : VRel m L X u) (h : pureV X = some v) : u = v := by
  cases X
  case fn f a b =>
    cases a <;> cases b <;> simp only [pureV, reduceCtorEq, Option.some.injEq] at h
    subst h
    simp only [VRel, CRel] at hx
    obtain ⟨us, vs, rfl, rfl, rfl⟩ := hx
    rfl
  all_goals (simp only [pureV, reduceCtorEq, Option.some.injEq] at h <;> subst h <;> simpa only [VRel] using hx)
theorem pureVs_rel : ∀ {xs : List AV} {us vs : List Value}, CRel m L xs us → pureVs xs = some vs → us = vs
  | [], us, vs, hx, h => by simp only [pureVs, Option.some.injEq] at h; simp only [CRel] at hx; rw [hx, h]
  | x :: xs, us, vs, hx, h => by
    simp only [CRel] at hx
    obtain ⟨u, us', rfl, h1, h2⟩ := hx
    simp only [pureVs] at h
    split at h
    · rename_i v vs' e1 e2
      simp only [Option.some.injEq] at h
      subst h
      rw [pureV_rel h1 e1, pureVs_rel h2 e2]
    · cases h
theorem storeV_rel {X : AV} {u v : Value} (hx : VRel m L X u) (h : storeV X = some v) : u = v := by
  cases X <;> simp only [storeV] at h <;> try exact pureV_rel hx h
  simp only [Option.map_eq_some_iff] at h
  obtain ⟨vs, h1, rfl⟩ := h
  simp only [VRel] at hx
  obtain ⟨us, rfl, hc⟩ := hx
  rw [pureVs_rel hc h1]

theorem sameBits_key (n : Nat) (k : Key) : Instr.sameBits n k.val k.val = true := by
  cases k <;> cases n <;> simp [Instr.sameBits, Key.val, beq_toListBytes]
theorem MRel.put {kd : Option IntKind} {f : Key → Option Value} {es : List MapEntry} (h : MRel kd f es) {k : Key} (hk : k.kd = kd) {j : Nat} {e : MapEntry} (hj : es[j]? = some e) (he : e.key = k.val) (v : Value) (g : MapEntry → MapEntry) (hg : g e = { e with key := k.val, val := v }) :
    MRel kd (updK f k v) (es.set j (g e)) := by
  have hkeys : (es.set j (g e)).map (·.key) = es.map (·.key) := by
    rw [List.map_set, hg]
    apply List.ext_getElem?
    intro i
    rw [List.getElem?_set]
    split
    · rename_i hij
      subst hij
      simp only [List.length_map]
      have hlt := (List.getElem?_eq_some_iff.1 hj).1
      simp [hlt, List.getElem?_map, hj, he]
      have := (List.getElem?_eq_some_iff.1 hj).2
      rw [this, he]
    · rfl
  have hlt := (List.getElem?_eq_some_iff.1 hj).1
  refine ⟨fun x hx => ?_, fun k' v' hf => ?_, by rw [hkeys]; exact h.nodup⟩
  · obtain ⟨i, hi⟩ := List.mem_iff_getElem?.1 hx
    rw [List.getElem?_set] at hi
    split at hi
    · simp [hlt] at hi
      subst hi
      exact ⟨k, by rw [hg], by rw [hg]; simp [updK]⟩
    · rename_i hij
      obtain ⟨k', h1, h2⟩ := h.ent x (List.mem_of_getElem? hi)
      refine ⟨k', h1, ?_⟩
      have hne : k' ≠ k := by
        rintro rfl
        have hnd := h.nodup
        have hii := (List.getElem?_eq_some_iff.1 hi).1
        have e1 : (es.map (·.key))[i]? = some k'.val := by simp [hi, h1]
        have e2 : (es.map (·.key))[j]? = some k'.val := by simp [hj, he]
        have := (List.getElem?_inj (by simpa using hii) hnd).1 (e1.trans e2.symm)
        exact hij this.symm
      simp [updK, hne, h2]
  · by_cases hkk : k' = k
    · subst hkk
      exact ⟨hk, g e, List.mem_iff_getElem?.2 ⟨j, by simp [hlt]⟩, by rw [hg]⟩
    · simp only [updK, hkk, if_false] at hf
      obtain ⟨h1, x, h2, h3⟩ := h.has k' v' hf
      refine ⟨h1, x, ?_, h3⟩
      obtain ⟨i, hi⟩ := List.mem_iff_getElem?.1 h2
      refine List.mem_iff_getElem?.2 ⟨i, ?_⟩
      rw [List.getElem?_set_ne]
      · exact hi
      · rintro rfl
        rw [hj] at hi
        obtain rfl := Option.some.inj hi
        exact hkk (key_inj (by rw [← h3, he]))
theorem MRel.push {kd : Option IntKind} {f : Key → Option Value} {es : List MapEntry} (h : MRel kd f es) {k : Key} (hk : k.kd = kd) (hn : ∀ e ∈ es, e.key ≠ k.val) (v : Value) (b : Nat) : MRel kd (updK f k v) (es ++ [{ key := k.val, val := v, born := b }]) := by
  refine ⟨fun x hx => ?_, fun k' v' hf => ?_, ?_⟩
  · rcases List.mem_append.1 hx with hx | hx
    · obtain ⟨k', h1, h2⟩ := h.ent x hx
      have : k' ≠ k := by rintro rfl; exact hn x ‹_› h1
      exact ⟨k', h1, by simp [updK, this, h2]⟩
    · simp at hx; subst hx
      exact ⟨k, rfl, by simp [updK]⟩
  · by_cases hkk : k' = k
    · subst hkk
      exact ⟨hk, { key := k'.val, val := v, born := b }, List.mem_append.2 (.inr (by simp)), rfl⟩
    · simp only [updK, hkk, if_false] at hf
      obtain ⟨h1, x, h2, h3⟩ := h.has k' v' hf
      exact ⟨h1, x, List.mem_append.2 (.inl h2), h3⟩
  · rw [List.map_append, List.nodup_append]
    refine ⟨h.nodup, by simp, fun a ha b hb => ?_⟩
    simp at hb; subst hb
    obtain ⟨x, hx, rfl⟩ := List.mem_map.1 ha
    exact hn x hx

theorem Stamps.put {es : List MapEntry} {clock : Nat} (h : Stamps es clock) {j : Nat} {e x : MapEntry} (hj : es[j]? = some e) (hx : x.born = e.born) : Stamps (es.set j x) clock := by
  have hm : (es.set j x).map (·.born) = es.map (·.born) := by
    rw [List.map_set, hx]
    apply List.ext_getElem?
    intro i
    rw [List.getElem?_set]
    split
    · rename_i hij
      subst hij
      simp only [List.length_map]
      have hlt := (List.getElem?_eq_some_iff.1 hj).1
      simp [hlt]
      have := (List.getElem?_eq_some_iff.1 hj).2
      rw [this]
    · rfl
  refine ⟨fun y hy => ?_, by rw [hm]; exact h.2⟩
  have : y.born ∈ es.map (·.born) := by rw [← hm]; exact List.mem_map.2 ⟨y, hy, rfl⟩
  obtain ⟨z, hz, he⟩ := List.mem_map.1 this
  rw [← he]; exact h.1 z hz
theorem Stamps.push {es : List MapEntry} {clock : Nat} (h : Stamps es clock) (k v : Value) : Stamps (es ++ [{ key := k, val := v, born := clock }]) (clock + 1) := by
  refine ⟨fun x hx => ?_, ?_⟩
  · rcases List.mem_append.1 hx with hx | hx
    · have := h.1 x hx; omega
    · simp at hx; subst hx; simp
  · rw [List.map_append, List.nodup_append]
    refine ⟨h.2, by simp, fun a ha b hb => ?_⟩
    simp at hb; subst hb
    obtain ⟨x, hx, rfl⟩ := List.mem_map.1 ha
    have := h.1 x hx; omega

theorem MRel.del {kd : Option IntKind} {f : Key → Option Value} {es : List MapEntry} (h : MRel kd f es) {k : Key} {j : Nat} {e : MapEntry} (hj : es[j]? = some e) (he : e.key = k.val) : MRel kd (delK f k) (es.eraseIdx j) := by
  have hlt := (List.getElem?_eq_some_iff.1 hj).1
  have hnd : ((es.eraseIdx j).map (·.key)).Nodup := by
    exact h.nodup.sublist ((List.eraseIdx_sublist _ _).map _)
  have huniq : ∀ (i : Nat) (x : MapEntry), es[i]? = some x → x.key = k.val → i = j := fun i x hi hx => by
    have hii := (List.getElem?_eq_some_iff.1 hi).1
    have e1 : (es.map (·.key))[i]? = some k.val := by simp [hi, hx]
    have e2 : (es.map (·.key))[j]? = some k.val := by simp [hj, he]
    exact (List.getElem?_inj (by simpa using hii) h.nodup).1 (e1.trans e2.symm)
  refine ⟨fun x hx => ?_, fun k' v' hf => ?_, hnd⟩
  · obtain ⟨k', h1, h2⟩ := h.ent x (List.mem_of_mem_eraseIdx hx)
    refine ⟨k', h1, ?_⟩
    have hne : k' ≠ k := by
      rintro rfl
      rw [List.mem_eraseIdx_iff_getElem?] at hx
      obtain ⟨i, hi, hx⟩ := hx
      exact hi (huniq i x hx h1)
    simp [delK, hne, h2]
  · by_cases hkk : k' = k
    · subst hkk; simp [delK] at hf
    · simp only [delK, hkk, if_false] at hf
      obtain ⟨h1, x, h2, h3⟩ := h.has k' v' hf
      refine ⟨h1, x, ?_, h3⟩
      obtain ⟨i, hi⟩ := List.mem_iff_getElem?.1 h2
      rw [List.mem_eraseIdx_iff_getElem?]
      refine ⟨i, ?_, hi⟩
      rintro rfl
      rw [hj] at hi
      obtain rfl := Option.some.inj hi
      exact hkk (key_inj (by rw [← h3, he]))
theorem MRel.delNone {kd : Option IntKind} {f : Key → Option Value} {es : List MapEntry} (h : MRel kd f es) {k : Key} (hf : f k = none) : MRel kd (delK f k) es := by
  have e : delK f k = f := by
    funext k'
    unfold delK
    split
    · rename_i h'; rw [h', hf]
    · rfl
  rw [e]; exact h
theorem Stamps.del {es : List MapEntry} {clock : Nat} (h : Stamps es clock) (j : Nat) : Stamps (es.eraseIdx j) clock :=
  ⟨fun x hx => h.1 x (List.mem_of_mem_eraseIdx hx), h.2.sublist ((List.eraseIdx_sublist _ _).map _)⟩
theorem mapDel_sound (hW : WRel m L w) (t ty tk : TypeId) (ts : List TypeId) {X K : AV} {u k : Value} (hx : VRel m L X u) (hk : VRel m L K k) :
    Sound P m L w (mapDelR P true L t X K) (vSem (Builtin.delete_ ⟨t :: ts⟩ ty #[u, k])) := by
  unfold mapDelR
  split
  · rename_i kt et id key hu hkey
    split
    · rename_i kd f hL
      rintro ⟨-, hkt, hkd⟩
      obtain ⟨rfl, es, clock, hb, hM⟩ := mp_obj hW hx hL
      have := keyOfA_rel hk hkey
      subst this
      have hlt : m.blk id < w.heap.size := hW.blk_lt (.inr ⟨_, hL⟩)
      have hget : (getObj (m.blk id)).run P w = .ok (.map es clock) w := by simp [getObj, Sem.run, hb]
      have hc := checkKey_run (P := P) (w := w) hkt es.isEmpty key hkd
      have hset : ∀ o, (setObj (m.blk id) o).run P w = .ok () { w with heap := w.heap.setIfInBounds (m.blk id) o } := fun o => by simp [setObj, Sem.run, hb]
      have hC : ∀ o, Chg w { w with heap := w.heap.setIfInBounds (m.blk id) o } (m.blk id) o := fun o => by
        refine ⟨by simp [hlt], fun g' hne _ => ?_, by simp, rfl, rfl, rfl⟩
        simp [Array.getElem?_setIfInBounds, hne.symm]
      have fin : ∀ (es' : Array MapEntry), MRC kd (delK f key) es'.toList clock → (Builtin.delete_ ⟨t :: ts⟩ ty #[.map (some (m.blk id)), key.val]).run P w = .ok (.tuple #[]) { w with heap := w.heap.setIfInBounds (m.blk id) (.map es' clock) } →
          ∃ w', (Builtin.delete_ ⟨t :: ts⟩ ty #[.map (some (m.blk id)), key.val]).run P w = .ok (.tuple #[]) w' ∧ WRel m (L.set id (.raw (.map kd (delK f key)))) w' ∧ Ext m L w m (L.set id (.raw (.map kd (delK f key)))) w' := by
        intro es' hM' hrun
        obtain ⟨t1, t2⟩ := turn_raw (r := .map kd (delK f key)) hW hL (hC (.map es' clock)) ⟨es', clock, rfl, hM'⟩
        exact ⟨_, hrun, t1, t2⟩
      obtain ⟨w', hrun, t1, t2⟩ : ∃ w', (Builtin.delete_ ⟨t :: ts⟩ ty #[.map (some (m.blk id)), key.val]).run P w = .ok (.tuple #[]) w' ∧ WRel m (L.set id (.raw (.map kd (delK f key)))) w' ∧ Ext m L w m (L.set id (.raw (.map kd (delK f key)))) w' := by
        rcases find_spec (P := P) hM.rel hkd hkt with ⟨j, e, q1, q2, q3, q4⟩ | ⟨q1, q2, q3⟩
        · refine fin (es.eraseIdxIfInBounds j) ?_ ?_
          · rw [Array.toList_eraseIdxIfInBounds]
            exact ⟨hM.rel.del q1 q2, hM.st.del j⟩
          · simp [Builtin.delete_, run_underlying' hu, hget, hc, q4, hset]
        · refine fin es ⟨hM.rel.delNone q1, hM.st⟩ ?_
          simp [Builtin.delete_, run_underlying' hu, hget, hc, q3, hset]
      exact ⟨.value (.tuple #[]), w', m, by simp [vSem, hrun], .inl ⟨_, rfl, by simp [VRel, CRel]⟩, t1, t2⟩
    · exact fun h => h.elim
  · exact fun h => h.elim
theorem mapPut_sound (hW : WRel m L w) (t : TypeId) {X K V : AV} {u k v : Value} (hx : VRel m L X u) (hk : VRel m L K k) (hv : VRel m L V v) :
    (mapPutR P true L t X K V).pre → ∃ w' m', (Instr.mapUpdate t u k v).run P w = .ok () w' ∧ (mapPutR P true L t X K V).v = .lit undef ∧ WRel m' (mapPutR P true L t X K V).L w' ∧ Ext m L w m' (mapPutR P true L t X K V).L w' := by
  unfold mapPutR
  split
  · rename_i kt et id key val hu hkey hval
    split
    · rename_i kd f hL
      rintro ⟨-, hkt, hkd⟩
      obtain ⟨rfl, es, clock, hb, hM⟩ := mp_obj hW hx hL
      have := keyOfA_rel hk hkey
      subst this
      have := storeV_rel hv hval
      subst this
      have hlt : m.blk id < w.heap.size := hW.blk_lt (.inr ⟨_, hL⟩)
      have hget : (getObj (m.blk id)).run P w = .ok (.map es clock) w := by simp [getObj, Sem.run, hb]
      have hc := checkKey_run (P := P) (w := w) hkt false key hkd
      have hset : ∀ o, (setObj (m.blk id) o).run P w = .ok () { w with heap := w.heap.setIfInBounds (m.blk id) o } := fun o => by simp [setObj, Sem.run, hb]
      have hC : ∀ o, Chg w { w with heap := w.heap.setIfInBounds (m.blk id) o } (m.blk id) o := fun o => by
        refine ⟨by simp [hlt], fun g' hne _ => ?_, by simp, rfl, rfl, rfl⟩
        simp [Array.getElem?_setIfInBounds, hne.symm]
      have fin : ∀ (es' : Array MapEntry) (clock' : Nat), MRC kd (updK f key v) es'.toList clock' → (Instr.mapUpdate t (.map (some (m.blk id))) key.val v).run P w = .ok () { w with heap := w.heap.setIfInBounds (m.blk id) (.map es' clock') } →
          ∃ w' m', (Instr.mapUpdate t (.map (some (m.blk id))) key.val v).run P w = .ok () w' ∧ AV.lit undef = .lit undef ∧ WRel m' (L.set id (.raw (.map kd (updK f key v)))) w' ∧ Ext m L w m' (L.set id (.raw (.map kd (updK f key v)))) w' := by
        intro es' clock' hM' hrun
        obtain ⟨t1, t2⟩ := turn_raw (r := .map kd (updK f key v)) hW hL (hC (.map es' clock')) ⟨es', clock', rfl, hM'⟩
        exact ⟨_, m, hrun, rfl, t1, t2⟩
      rcases find_spec (P := P) hM.rel hkd hkt with ⟨j, e, q1, q2, q3, q4⟩ | ⟨q1, q2, q3⟩
      · have q1' : es[j]? = some e := by simpa using q1
        refine fin (es.modify j fun e => { e with key := key.val, val := v }) clock ?_ ?_
        · have := MRel.put hM.rel hkd q1 q2 v (fun e => { e with key := key.val, val := v }) rfl
          rw [Array.toList_modify, List.modify_eq_set, q1]
          exact ⟨this, hM.st.put q1 rfl⟩
        · simp [Instr.mapUpdate, run_underlying' hu, hget, hc, q4, q1', q2, Instr.keyThatStays, sameBits_key, hset]
      · refine fin (es.push { key := key.val, val := v, born := clock }) (clock + 1) ?_ ?_
        · rw [Array.toList_push]
          exact ⟨MRel.push hM.rel hkd q2 v clock, hM.st.push _ _⟩
        · simp [Instr.mapUpdate, run_underlying' hu, hget, hc, q3, hset]
    · exact fun h => h.elim
  · exact fun h => h.elim
end
end Go.Eng
