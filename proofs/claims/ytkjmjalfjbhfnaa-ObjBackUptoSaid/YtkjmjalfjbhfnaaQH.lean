/- Of objects: what is read is what was written. Plain: no program in sight. Conditions stand in each. -/
import Derived.Test.YtkjmjalfjbhfnaaQF
import Derived.Test.YtkjmjalfjbhfnaaPE
namespace Go.Proofs.Ytkjmjalfjbhfnaa.objDone
open Go Go.Eng Go.Proofs
open Go.Proofs.Ytkjmjalfjbhfnaa.objNumbersDone (enc hi7 lo7 q7 duR rawU okR valR okT valT nextT m32)
set_option linter.unusedVariables false
set_option linter.unusedSimpArgs false
/-! numbers -/
theorem duR_enc : ∀ (k n i acc : Nat) (post : Bytes), n ≤ k → i + (enc n).length ≤ 5 → (i = 0 ∨ 0 < n) → duR i acc (enc n ++ post) = some (acc + n * 128 ^ i, i + (enc n).length) := by
  intro k
  induction k with
  | zero =>
    intro n i acc post hn hl hi
    obtain rfl : n = 0 := by omega
    have e : enc 0 = [0] := by rw [enc, if_pos (by omega)]; rfl
    rw [e] at hl ⊢
    simp only [List.length_singleton] at hl
    simp only [List.cons_append, List.nil_append, duR]
    rw [if_neg (by simp; omega), if_pos (by simp)]
    simp [accU]
  | succ k ih =>
    intro n i acc post hn hl hi
    rw [enc] at hl ⊢
    split
    · rename_i h
      rw [if_pos h] at hl
      have ht : (lo7 n).toNat = n := by simp [lo7]; omega
      simp only [List.length_singleton] at hl
      simp only [List.cons_append, List.nil_append, duR]
      rw [ht, if_neg (by omega), if_pos h]
      simp only [accU, ht, List.length_singleton, Nat.mod_eq_of_lt h]
    · rename_i h
      rw [if_neg h] at hl
      have ht : (hi7 n).toNat = n % 128 + 128 := by
        simp only [hi7, UInt8.toNat_ofNat']; omega
      simp only [List.length_cons] at hl
      simp only [List.cons_append, duR]
      rw [ht, if_neg (by omega), if_neg (by omega), ih (q7 n) (i + 1) _ post (by simp only [q7]; omega) (by omega) (.inr (by simp only [q7]; omega))]
      simp only [accU, ht, List.length_cons, q7, Option.some.injEq, Prod.mk.injEq]
      refine ⟨?_, by omega⟩
      rw [show (n % 128 + 128) % 128 = n % 128 by omega, Nat.pow_succ, Nat.add_assoc]
      congr 1
      rw [Nat.mul_comm (128 ^ i) 128, ← Nat.mul_assoc, ← Nat.add_mul]
      congr 1
      omega
theorem duR_dec : ∀ (l : Bytes) (i acc m k : Nat), duR i acc l = some (m, k) → ∃ n, m = acc + n * 128 ^ i ∧ (i = 0 ∨ 0 < n) ∧ k = i + (enc n).length ∧ l = enc n ++ l.drop (enc n).length
  | [], i, acc, m, k, h => by simp [duR] at h
  | c :: r, i, acc, m, k, h => by
    simp only [duR] at h
    split at h
    · cases h
    rename_i h0
    split at h
    · rename_i hc
      simp only [Option.some.injEq, Prod.mk.injEq] at h
      have e : enc c.toNat = [c] := by rw [enc, if_pos hc]; simp [lo7]
      refine ⟨c.toNat, ?_, by omega, ?_, ?_⟩
      · rw [← h.1, accU, Nat.mod_eq_of_lt hc]
      · rw [e, ← h.2]; rfl
      · rw [e]; rfl
    · rename_i hc
      obtain ⟨n', h1, h2, h3, h4⟩ := duR_dec r _ _ _ _ h
      have hlt := c.toNat_lt
      have hn : 128 ≤ c.toNat % 128 + 128 * n' := by omega
      have e : enc (c.toNat % 128 + 128 * n') = c :: enc n' := by
        rw [enc, if_neg (by omega)]
        congr 1
        · simp only [hi7]
          rw [show (c.toNat % 128 + 128 * n') % 128 + 128 = c.toNat by omega]
          simp
        · congr 1; simp only [q7]; omega
      refine ⟨c.toNat % 128 + 128 * n', ?_, by omega, ?_, ?_⟩
      · rw [h1, accU, Nat.pow_succ, Nat.add_assoc]
        congr 1
        rw [Nat.mul_comm (128 ^ i) 128, ← Nat.mul_assoc, ← Nat.add_mul]
        congr 1
        omega
      · rw [e, h3, List.length_cons]; omega
      · rw [e, List.length_cons, List.cons_append, List.drop_succ_cons, ← h4]

/-- a reader reads what is written, and nothing else -/
structure Codec {α : Type} (f : Rd → α × Rd) (E : α → Bytes) (P : α → Prop) : Prop where
  ok : ∀ r : Rd, r.ok → (f r).2.ok ∧ (f r).2.b = r.b
  fwd : ∀ (pre : Bytes) (x : α) (post : Bytes), P x → f ⟨pre ++ (E x ++ post), pre.length, -1⟩ = (x, ⟨pre ++ (E x ++ post), (pre.length : Int) + (E x).length, -1⟩)
  bwd : ∀ r : Rd, r.ok → (f r).2.bad < 0 → r.bad < 0 ∧ P (f r).1 ∧ r.b.drop r.at_.toNat = E (f r).1 ++ r.b.drop (f r).2.at_.toNat
theorem u32_id {x : Int} (h : 0 ≤ x ∧ x < 4294967296) : ((u32 x : Nat) : Int) = x := by unfold u32; omega
theorem at_drop (pre x : Bytes) : (pre ++ x).drop ((pre.length : Int)).toNat = x := by simp
theorem rawU_at (pre x post : Bytes) (n : Nat) (hx : x = enc n) (hn : n < 4294967296) : rawU (pre ++ (x ++ post)) pre.length = some (n, x.length) := by
  subst hx
  unfold rawU
  rw [if_pos ⟨by omega, by simp; omega⟩, at_drop, duR_enc n n 0 0 post (Nat.le_refl _) (by have := objNumbersDone.enc_len 4 n (by omega); omega) (.inl rfl)]
  simp
theorem tookM_bad {r : Rd} {n : Int} {k : Bool} (hr : 0 ≤ r.at_) (h : (tookM r n k).2.bad < 0) : r.bad < 0 ∧ k = true ∧ (tookM r n k).1 = true ∧ (tookM r n k).2 = r.to n := by
  unfold tookM at h ⊢
  split at h
  · rename_i h0; simp only at h; omega
  · rename_i h0
    cases k with
    | false => simp only [Bool.false_eq_true, if_false, Rd.ill] at h; omega
    | true => rw [if_neg h0]; exact ⟨by omega, rfl, rfl, rfl⟩
theorem rawU_dec {l : Bytes} {a : Int} (h : okR (rawU l a) = true) : ∃ n : Nat, n < 4294967296 ∧ valR (rawU l a) = n ∧ objNumbersDone.nextR a (rawU l a) = a + (enc n).length ∧ l.drop a.toNat = enc n ++ (l.drop a.toNat).drop (enc n).length ∧ 0 ≤ a := by
  unfold rawU at *
  split at h
  · rename_i ha
    cases hd : duR 0 0 (l.drop a.toNat) with
    | none => rw [hd] at h; simp [okR] at h
    | some p =>
      obtain ⟨m, k⟩ := p
      rw [hd] at h
      obtain ⟨n, h1, h2, h3, h4⟩ := duR_dec _ _ _ _ _ hd
      simp only [okR, decide_eq_true_eq] at h
      have hm : m = n := by rw [h1]; simp
      subst hm
      rw [if_pos ha]
      refine ⟨m, by omega, by simp only [valR]; rw [if_pos h], by simp only [objNumbersDone.nextR]; rw [if_pos h, h3]; simp, h4, ha.1⟩
  · simp [okR] at h
theorem numC (m : Int) (h0 : 0 ≤ m) (h1 : m < 4294967296) : Codec (fun r => numM r m) num (fun x => 0 ≤ x ∧ x ≤ m) where
  ok r hr := num_ok hr m
  fwd pre x post hx := by
    have hu : ((u32 x : Nat) : Int) = x := u32_id ⟨hx.1, by omega⟩
    have e : rawU (pre ++ (num x ++ post)) pre.length = some (u32 x, (num x).length) := rawU_at pre (num x) post (u32 x) rfl (u32_lt x)
    have hlt := u32_lt x
    have ek : numT ⟨pre ++ (num x ++ post), pre.length, -1⟩ m = (true, ⟨pre ++ (num x ++ post), (pre.length : Int) + (num x).length, -1⟩) := by
      simp only [numT, e, okR, valR, objNumbersDone.nextR]
      rw [tookM, if_neg (by simp), if_pos (by rw [if_pos (by omega)]; simp; omega), if_pos (by omega)]
      rfl
    simp only [numM, ek, e, valR, if_true]
    rw [if_pos (by omega), hu]
  bwd r hr hb := by
    obtain ⟨k1, k2, k3, k4⟩ := tookM_bad hr.lo hb
    simp only [Bool.and_eq_true, decide_eq_true_eq] at k2
    obtain ⟨n, n1, n2, n3, n4, n5⟩ := rawU_dec k2.1
    have e1 : (numM r m).1 = n := by
      show (if (numT r m).1 then _ else _) = _
      rw [show (numT r m).1 = true from k3, if_pos rfl, n2]
    have e2 : (numM r m).2 = r.to (r.at_ + (enc n).length) := by rw [← n3]; exact k4
    have e3 : num (numM r m).1 = enc n := by rw [e1, num]; congr 1; unfold u32; omega
    refine ⟨k1, by rw [e1]; omega, ?_⟩
    rw [e3, e2, n4]
    simp only [Rd.to, List.drop_drop]
    rw [show (r.at_ + ((enc n).length : Int)).toNat = r.at_.toNat + (enc n).length by omega]
theorem textC (m : Int) (h0 : 0 ≤ m) (h1 : m < 4294967296) : Codec (fun r => textM r m) txt (fun s => (s.length : Int) ≤ m) where
  ok r hr := text_ok hr m
  fwd pre s post hx := by
    have hm : m32 s.length = s.length := by simp only [m32]; omega
    obtain ⟨hs, h0'⟩ : s.length < 4294967296 ∧ txt s = enc s.length ++ s := ⟨by omega, by rw [txt, hm]⟩
    have eb : pre ++ (txt s ++ post) = pre ++ (enc s.length ++ (s ++ post)) := by rw [h0', List.append_assoc]
    have e : rawU (pre ++ (txt s ++ post)) pre.length = some (s.length, (enc s.length).length) := by rw [eb]; exact rawU_at pre (enc s.length) (s ++ post) s.length rfl hs
    have hl : (txt s).length = (enc s.length).length + s.length := by rw [h0', List.length_append]
    have eo : okT (pre ++ (txt s ++ post)) pre.length m = true := by
      simp only [okT, e, okR, valR, objNumbersDone.nextR]
      rw [if_pos (by omega), if_pos (by omega)]
      simp only [List.length_append, Bool.and_eq_true, decide_eq_true_eq, hl]
      omega
    have en : nextT (pre ++ (txt s ++ post)) pre.length m = (pre.length : Int) + (txt s).length := by
      rw [nextT, if_pos eo]
      simp only [e, valR, objNumbersDone.nextR]
      rw [if_pos (by omega), if_pos (by omega), hl]; omega
    have ev : valT (pre ++ (txt s ++ post)) pre.length m = s := by
      rw [valT, if_pos eo]
      simp only [e, valR, objNumbersDone.nextR]
      rw [if_pos (by omega), if_pos (by omega), eb]
      rw [show ((pre.length : Int) + ((enc s.length).length : Int)).toNat = (pre ++ enc s.length).length by simp; omega,
        show ((pre.length : Int) + ((enc s.length).length : Int) + (s.length : Int)).toNat = (pre ++ enc s.length ++ s).length by simp; omega]
      rw [← List.append_assoc, ← List.append_assoc, List.take_left, List.drop_left]
    have ek : textT ⟨pre ++ (txt s ++ post), pre.length, -1⟩ m = (true, ⟨pre ++ (txt s ++ post), (pre.length : Int) + (txt s).length, -1⟩) := by
      simp only [textT, eo, en]
      rw [tookM, if_neg (by simp), if_pos rfl]
      rfl
    simp only [textM, ek, ev, if_true]
  bwd r hr hb := by
    obtain ⟨k1, k2, k3, k4⟩ := tookM_bad hr.lo hb
    have k2' := k2
    simp only [okT, Bool.and_eq_true, decide_eq_true_eq] at k2
    obtain ⟨hk, hk2, hk3, hk4⟩ := k2
    obtain ⟨n, n1, n2, n3, n4, n5⟩ := rawU_dec hk
    have ev : valT r.b r.at_ m = (r.b.drop (r.at_.toNat + (enc n).length)).take n := by
      rw [valT, if_pos k2', n2, n3]
      rw [show (r.at_ + ((enc n).length : Int)).toNat = r.at_.toNat + (enc n).length by omega, show (r.at_ + ((enc n).length : Int) + (n : Int)).toNat = r.at_.toNat + (enc n).length + n by omega, List.drop_take]
      congr 1; omega
    have e1 : (textM r m).1 = valT r.b r.at_ m := by
      show (if (textT r m).1 then _ else _) = _
      rw [show (textT r m).1 = true from k3, if_pos rfl]
    have e2 : (textM r m).2 = r.to (r.at_ + (enc n).length + n) := by
      have : nextT r.b r.at_ m = r.at_ + (enc n).length + n := by rw [nextT, if_pos k2', n2, n3]
      rw [← this]; exact k4
    have el : (valT r.b r.at_ m).length = n := by
      rw [ev, List.length_take, List.length_drop]
      rw [n2, n3] at hk4
      omega
    have e3 : txt (textM r m).1 = enc n ++ valT r.b r.at_ m := by
      rw [e1, txt, el, show m32 n = n by simp only [m32]; omega]
    refine ⟨k1, by rw [e1, el]; omega, ?_⟩
    rw [e3, e2, n4]
    simp only [Rd.to, List.drop_drop]
    rw [show (r.at_ + ((enc n).length : Int) + (n : Int)).toNat = r.at_.toNat + (enc n).length + n by omega, List.append_assoc]
    congr 1
    rw [ev, ← List.drop_drop (i := n), List.take_append_drop]
theorem byte_ofNat (c : UInt8) : by8 ((c.toNat : Nat) : Int) = c := by
  have := c.toNat_lt
  simp only [by8]
  rw [show (((c.toNat : Nat) : Int) % 256).toNat = c.toNat by omega]
  simp
theorem le4_leN (a b c d : UInt8) : le4 (leN [a, b, c, d] : Nat) = [a, b, c, d] := by
  have ha := a.toNat_lt; have hb := b.toNat_lt; have hc := c.toNat_lt; have hd := d.toNat_lt
  simp only [leN, le4]
  have key : ∀ (x : Int) (c : UInt8), x % 256 = c.toNat → by8 x = c := fun x c h => by
    simp only [by8, h]; simp
  rw [key _ a (by omega), key _ b (by rw [Int.fdiv_eq_ediv_of_nonneg _ (by omega)]; omega), key _ c (by rw [Int.fdiv_eq_ediv_of_nonneg _ (by omega)]; omega), key _ d (by rw [Int.fdiv_eq_ediv_of_nonneg _ (by omega)]; omega)]
theorem leN_le4 (w : Int) (h : 0 ≤ w ∧ w < 4294967296) : ((leN (le4 w) : Nat) : Int) = w := by
  have e : ∀ x : Int, (by8 x).toNat = (x % 256).toNat := fun x => by
    simp only [by8, UInt8.toNat_ofNat']; omega
  simp only [le4, leN, e]
  rw [Int.fdiv_eq_ediv_of_nonneg _ (by omega), Int.fdiv_eq_ediv_of_nonneg _ (by omega), Int.fdiv_eq_ediv_of_nonneg _ (by omega)]
  omega
theorem four (l : Bytes) (h : l.length = 4) : ∃ a b c d, l = [a, b, c, d] := by
  match l, h with
  | [a, b, c, d], _ => exact ⟨a, b, c, d, rfl⟩
theorem wordC : Codec wordM le4 (fun w => 0 ≤ w ∧ w < 4294967296) where
  ok r hr := word_ok hr
  fwd pre w post hx := by
    have hl : (le4 w).length = 4 := rfl
    have hk : getK (pre ++ (le4 w ++ post)) pre.length = true := by simp only [getK, decide_eq_true_eq, List.length_append, hl]; omega
    have hv : getV (pre ++ (le4 w ++ post)) pre.length = w := by
      rw [getV, hk, if_pos rfl]
      rw [show ((pre.length : Int) + 4).toNat = (pre ++ le4 w).length by simp [hl]; omega, show ((pre.length : Int)).toNat = pre.length by omega, ← List.append_assoc, List.take_left, List.drop_left]
      exact leN_le4 w hx
    have ek : wordT ⟨pre ++ (le4 w ++ post), pre.length, -1⟩ = (true, ⟨pre ++ (le4 w ++ post), (pre.length : Int) + (le4 w).length, -1⟩) := by
      simp only [wordT, hk]
      rw [tookM, if_neg (by simp), if_pos rfl]
      rfl
    simp only [wordM, ek, hv, if_true]
  bwd r hr hb := by
    obtain ⟨k1, k2, k3, k4⟩ := tookM_bad hr.lo hb
    have k2' := k2
    simp only [getK, decide_eq_true_eq] at k2
    have el : ((r.b.take (r.at_ + 4).toNat).drop r.at_.toNat).length = 4 := by rw [List.length_drop, List.length_take]; omega
    have e1 : (wordM r).1 = leN ((r.b.take (r.at_ + 4).toNat).drop r.at_.toNat) := by
      show (if (wordT r).1 then _ else _) = _
      rw [show (wordT r).1 = true from k3, if_pos rfl, getV, k2', if_pos rfl]
    have e2 : (wordM r).2 = r.to (r.at_ + 4) := k4
    refine ⟨k1, word_b hr, ?_⟩
    obtain ⟨a, b, c, d, e⟩ := four _ el
    rw [e1, e2, e, le4_leN, ← e]
    simp only [Rd.to]
    rw [show (r.at_ + 4).toNat = r.at_.toNat + 4 by omega, List.drop_take, show r.at_.toNat + 4 - r.at_.toNat = 4 by omega, ← List.drop_drop, List.take_append_drop]
theorem byteC (m : Int) (h0 : 0 ≤ m) (h1 : m < 256) : Codec (fun r => byteM r m) (fun x => [by8 x]) (fun x => 0 ≤ x ∧ x ≤ m) where
  ok r hr := byte_ok hr m
  fwd pre x post hx := by
    have hg : (pre ++ ([by8 x] ++ post)).getD ((pre.length : Int)).toNat 0 = by8 x := by simp [List.getD]
    have hb : (((by8 x).toNat : Nat) : Int) = x := by
      simp only [by8, UInt8.toNat_ofNat']; omega
    have ek : byteT ⟨pre ++ ([by8 x] ++ post), pre.length, -1⟩ m = (true, ⟨pre ++ ([by8 x] ++ post), (pre.length : Int) + [by8 x].length, -1⟩) := by
      simp only [byteT, hg, hb]
      rw [tookM, if_neg (by simp), if_pos (by simp; omega)]
      rfl
    simp only [byteM, ek, hg, hb, if_true]
  bwd r hr hb := by
    obtain ⟨k1, k2, k3, k4⟩ := tookM_bad hr.lo hb
    simp only [Bool.and_eq_true, decide_eq_true_eq] at k2
    have hlo := hr.lo
    have e1 : (byteM r m).1 = ((r.b.getD r.at_.toNat 0).toNat : Int) := by
      show (if (byteT r m).1 then _ else _) = _
      rw [show (byteT r m).1 = true from k3, if_pos rfl]
    have e2 : (byteM r m).2 = r.to (r.at_ + 1) := k4
    refine ⟨k1, by rw [e1]; omega, ?_⟩
    rw [e1, e2, byte_ofNat]
    simp only [Rd.to]
    have hlt : r.at_.toNat < r.b.length := by omega
    rw [show (r.at_ + 1).toNat = r.at_.toNat + 1 by omega, List.drop_eq_getElem_cons hlt]
    simp [List.getD, hlt]
/-! put together -/
theorem Codec.seq {α β : Type} {f : Rd → α × Rd} {E : α → Bytes} {P : α → Prop} {g : Rd → β × Rd} {F : β → Bytes} {Q : β → Prop} (hf : Codec f E P) (hg : Codec g F Q) :
    Codec (fun r => (((f r).1, (g (f r).2).1), (g (f r).2).2)) (fun x => E x.1 ++ F x.2) (fun x => P x.1 ∧ Q x.2) where
  ok r hr := ⟨(hg.ok _ (hf.ok r hr).1).1, (hg.ok _ (hf.ok r hr).1).2.trans (hf.ok r hr).2⟩
  fwd pre x post hx := by
    have h1 := hf.fwd pre x.1 (F x.2 ++ post) hx.1
    have h2 := hg.fwd (pre ++ E x.1) x.2 post hx.2
    have e : (pre ++ E x.1) ++ (F x.2 ++ post) = pre ++ (E x.1 ++ (F x.2 ++ post)) := by rw [List.append_assoc]
    rw [e, show (((pre ++ E x.1).length : Nat) : Int) = (pre.length : Int) + (E x.1).length by simp] at h2
    simp only [List.append_assoc, List.length_append, h1, h2]
    simp only [Prod.mk.injEq, Rd.mk.injEq, true_and, and_true]
    omega
  bwd r hr hb := by
    obtain ⟨o1, o2⟩ := hf.ok r hr
    obtain ⟨a1, a2, a3⟩ := hg.bwd _ o1 hb
    obtain ⟨b1, b2, b3⟩ := hf.bwd r hr a1
    refine ⟨b1, ⟨b2, a2⟩, ?_⟩
    rw [o2] at a3
    rw [b3, a3, List.append_assoc]
theorem Codec.map {α β : Type} {f : Rd → α × Rd} {E : α → Bytes} {P : α → Prop} (h : Codec f E P) (u : α → β) (v : β → α) {F : β → Bytes} {Q : β → Prop} (h1 : ∀ b, Q b → u (v b) = b ∧ P (v b) ∧ F b = E (v b)) (h2 : ∀ a, P a → Q (u a) ∧ F (u a) = E a) :
    Codec (fun r => (u (f r).1, (f r).2)) F Q where
  ok r hr := h.ok r hr
  fwd pre x post hx := by
    obtain ⟨e1, e2, e3⟩ := h1 x hx
    have := h.fwd pre (v x) post e2
    rw [e3]
    simp only [this, e1]
  bwd r hr hb := by
    obtain ⟨b1, b2, b3⟩ := h.bwd r hr hb
    obtain ⟨e1, e2⟩ := h2 _ b2
    exact ⟨b1, e1, by rw [e2]; exact b3⟩
theorem rowsM_codec {α : Type} {f : Rd → α × Rd} {E : α → Bytes} {P : α → Prop} (h : Codec f E P) : ∀ (xs : List α) (pre post : Bytes), (∀ x ∈ xs, P x) →
    rowsM f xs.length ⟨pre ++ (xs.flatMap E ++ post), pre.length, -1⟩ = (xs, ⟨pre ++ (xs.flatMap E ++ post), (pre.length : Int) + (xs.flatMap E).length, -1⟩)
  | [], pre, post, _ => by simp [rowsM]
  | x :: xs, pre, post, hp => by
    have h1 := h.fwd pre x (xs.flatMap E ++ post) (hp x (by simp))
    have h2 := rowsM_codec h xs (pre ++ E x) post (fun y hy => hp y (by simp [hy]))
    have e : (pre ++ E x) ++ (xs.flatMap E ++ post) = pre ++ (E x ++ (xs.flatMap E ++ post)) := by rw [List.append_assoc]
    rw [e, show (((pre ++ E x).length : Nat) : Int) = (pre.length : Int) + (E x).length by simp] at h2
    simp only [List.length_cons, rowsM, List.flatMap_cons, List.append_assoc]
    rw [if_pos (by simp), h1]
    simp only [h2, List.length_append]
    simp only [Prod.mk.injEq, Rd.mk.injEq, true_and, and_true]
    omega
theorem rowsM_bwd {α : Type} {f : Rd → α × Rd} {E : α → Bytes} {P : α → Prop} (h : Codec f E P) : ∀ (n : Nat) (r : Rd), r.ok → (rowsM f n r).2.bad < 0 → r.bad < 0 ∧ (rowsM f n r).1.length = n ∧ (∀ x ∈ (rowsM f n r).1, P x) ∧
    r.b.drop r.at_.toNat = (rowsM f n r).1.flatMap E ++ r.b.drop (rowsM f n r).2.at_.toNat
  | 0, r, hr, hb => by
    simp only [rowsM] at hb ⊢
    exact ⟨hb, rfl, by simp, by simp⟩
  | n + 1, r, hr, hb => by
    rw [rowsM] at hb ⊢
    split at hb
    · rename_i h0
      rw [if_pos h0]
      simp only at hb ⊢
      obtain ⟨o1, o2⟩ := h.ok r hr
      obtain ⟨a1, a2, a3, a4⟩ := rowsM_bwd h n _ o1 hb
      obtain ⟨b1, b2, b3⟩ := h.bwd r hr a1
      refine ⟨b1, by simp [a2], fun x hx => ?_, ?_⟩
      · rcases List.mem_cons.1 hx with rfl | hx
        · exact b2
        · exact a3 x hx
      · rw [o2] at a4
        rw [b3, a4, List.flatMap_cons, List.append_assoc]
    · rename_i h0; exact absurd hb h0
theorem rowsC {α : Type} {f : Rd → α × Rd} {E : α → Bytes} {P : α → Prop} (h : Codec f E P) (m : Int) (h0 : 0 ≤ m) (h1 : m < 4294967296) : Codec (rowsR f m) (fun xs => num xs.length ++ xs.flatMap E) (fun xs => (xs.length : Int) ≤ m ∧ ∀ x ∈ xs, P x) where
  ok r hr := rows_ok h.ok m hr
  fwd pre xs post hx := by
    have a1 := (numC m h0 h1).fwd pre xs.length (xs.flatMap E ++ post) ⟨by omega, hx.1⟩
    have a2 := rowsM_codec h xs (pre ++ num xs.length) post hx.2
    have e : (pre ++ num xs.length) ++ (xs.flatMap E ++ post) = pre ++ (num xs.length ++ (xs.flatMap E ++ post)) := by rw [List.append_assoc]
    rw [e, show (((pre ++ num xs.length).length : Nat) : Int) = (pre.length : Int) + (num xs.length).length by simp] at a2
    simp only [rowsR, List.append_assoc, a1, Int.toNat_natCast, a2, List.length_append]
    simp only [Prod.mk.injEq, Rd.mk.injEq, true_and, and_true]
    omega
  bwd r hr hb := by
    have hn := num_ok hr m
    obtain ⟨a1, a2, a3, a4⟩ := rowsM_bwd h _ _ hn.1 hb
    obtain ⟨b1, b2, b3⟩ := (numC m h0 h1).bwd r hr a1
    have el : (((rowsR f m r).1.length : Nat) : Int) = (numM r m).1 := by rw [rowsR, a2]; omega
    refine ⟨b1, ⟨by rw [el]; exact b2.2, a3⟩, ?_⟩
    rw [el]
    rw [hn.2] at a4
    rw [b3, a4, List.append_assoc]
    rfl
end Go.Proofs.Ytkjmjalfjbhfnaa.objDone
