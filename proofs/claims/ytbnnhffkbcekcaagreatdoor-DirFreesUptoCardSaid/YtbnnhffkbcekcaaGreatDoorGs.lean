/- Of directories: which sectors are in use: the root, leaves, files' own. Plain. Of directories: sectors counted; the law of free sectors. Conditions stand in each. Of directories: the law of free sectors. Conditions stand in each. Of directories: what is called, in its order. -/
import Derived.Test.YtbnnhffkbcekcaaGreatDoorGr
import Derived.Test.YtbnnhffkbcekcaaGreatDoorFg
set_option linter.unusedVariables false
set_option linter.unusedSimpArgs false
set_option maxRecDepth 100000
set_option maxHeartbeats 4000000
section
namespace Go.Proofs.YtbnnhffkbcekcaaGreatDoor.dirDone
open Go Go.Eng Go.Proofs Go.Lib
def mk1 (N : Nat) (s : St) : Prop := (∀ k : Nat, k < N → s.U.getD k default = 0 ∨ s.U.getD k default = 1 ∨ s.U.getD k default = 2) ∧ (∀ k : Nat, k < N → (s.U.getD k default = 1 ↔ ((k : Int) = 0 ∨ (k : Int) ∈ s.Lv ++ seL s.F))) ∧ (0 : Int) ∉ s.Lv ++ seL s.F ∧ s.Lv.length = lvN s.F.length ∧ ∀ f ∈ s.F, f.se.length = hdN f.ln + 1
theorem Zj1 {N : Nat} {s : St} (h0 : 0 < N) (hU : s.U.length = N) (hm : mk1 N s) {w : Int} {l : List Int} (hw : w ≠ 1) (hl : mks s.U w l) : (0 : Int) ∉ l := fun h => by
 have h1 := (hl 0 h).2.2
 have h2 := (hm.2.1 0 h0).2 (.inl rfl)
 exact hw (by rw [← h1, ← h2]; rfl)
theorem ZdC {N : Nat} {s : St} {L : List Fl} {gone own rest : List Int} (h0 : 0 < N) (hi : inv N s) (hm : mk1 N s) (hp : (seL s.F).Perm (gone ++ rest)) (ho : tOk s.U 2 own) (hn : (seL L).Perm (own ++ rest)) (hk : Z2h L s.R s.U) (hse : ∀ f ∈ L, f.se.length = hdN f.ln + 1) : mk1 N (Z9z N s L gone own) := by
 obtain ⟨i1, i2, i3, i4, i5, i6, i7⟩ := hi
 have hk' := (Z3q (L := L) (Z0P N s.R) s.U).2 hk
 obtain ⟨n1, n2⟩ := Z9w L (sOf N s.R) (wOf N s.R) s.U (lvN L.length) hk.1
 obtain ⟨C, c1, c2, c3, c4, c5⟩ := ZaF i7 hp n1 ho
 have e1 : (lyE L (sOf N s.R) (wOf N s.R) s.U).U = tSet s.U 2 (lyE L (sOf N s.R) (wOf N s.R) s.U).now := n2
 have eU : (Z9z N s L gone own).U = C := by
  show tRes (lyU L s.Lv gone (sOf N s.R) (wOf N s.R) s.U) 2 1 own = C
  unfold lyU
  rw [if_pos hk', e1]
  exact c2
 have eL : (Z9z N s L gone own).Lv = (lyE L (sOf N s.R) (wOf N s.R) s.U).now := rfl
 have eF : (Z9z N s L gone own).F = L := rfl
 have en := Z6a L (sOf N s.R) (wOf N s.R) s.U hk'
 have n1' : tOk s.U 0 (lyE L (sOf N s.R) (wOf N s.R) s.U).now := n1
 have c5' : ∀ k : Nat, k < s.U.length → C.getD k default = if (k : Int) ∈ own then 1 else if (k : Int) ∈ s.Lv ++ gone then 0 else if (k : Int) ∈ (lyE L (sOf N s.R) (wOf N s.R) s.U).now then 1 else s.U.getD k default := c5
 unfold mk1
 rw [eU, eL, eF]
 generalize (lyE L (sOf N s.R) (wOf N s.R) s.U).now = now at *
 clear n1 n2 c2 c3 c4 c5 e1 eU eL eF
 obtain ⟨nm, nd⟩ := Z0A.1 n1'
 obtain ⟨om, od⟩ := Z0A.1 ho
 obtain ⟨um, ud⟩ := Z0A.1 i7
 obtain ⟨hLv, hold⟩ := Z3p.1 um
 obtain ⟨dLv, dold, dx⟩ := List.nodup_append.1 ud
 have hgr : mks s.U 1 (gone ++ rest) := fun n hn => hold n (hp.mem_iff.2 hn)
 obtain ⟨hg, hr⟩ := Z3p.1 hgr
 obtain ⟨dg, dr, dgx⟩ := List.nodup_append.1 (hp.nodup_iff.1 dold)
 obtain ⟨m1, m2, m3, m4, m5⟩ := hm
 have z1 : (0 : Int) ∉ own := Zj1 h0 i5 ⟨m1, m2, m3, m4, m5⟩ (by decide) om
 have z2 : (0 : Int) ∉ now := Zj1 h0 i5 ⟨m1, m2, m3, m4, m5⟩ (by decide) nm
 have z3 : (0 : Int) ∉ gone ++ rest := fun h => m3 (List.mem_append_right _ (hp.mem_iff.2 h))
 have mL : ∀ n, n ∈ seL L ↔ n ∈ own ∨ n ∈ rest := fun n => by rw [hn.mem_iff, List.mem_append]
 have mF : ∀ n, n ∈ seL s.F ↔ n ∈ gone ∨ n ∈ rest := fun n => by rw [hp.mem_iff, List.mem_append]
 have lvg : mks s.U 1 (s.Lv ++ gone) := Z3p.2 ⟨hLv, hg⟩
 refine ⟨fun k hk => ?_, fun k hk => ?_, ?_, en, hse⟩
 ·rw [c5' k (by omega)]
  split
  ·exact .inr (.inl rfl)
  split
  ·exact .inl rfl
  split
  ·exact .inr (.inl rfl)
  exact m1 k hk
 ·rw [c5' k (by omega)]
  by_cases a : (k : Int) ∈ own
  ·rw [if_pos a]
   exact ⟨fun _ => .inr (List.mem_append_right _ ((mL _).2 (.inl a))), fun _ => rfl⟩
  rw [if_neg a]
  by_cases b : (k : Int) ∈ s.Lv ++ gone
  ·rw [if_pos b]
   refine ⟨fun h => absurd h (by decide), fun h => ?_⟩
   rcases h with h | h
   ·rw [h] at b
    rcases List.mem_append.1 b with b | b
    ·exact absurd (List.mem_append_left _ b) m3
    ·exact absurd (List.mem_append_left _ b) z3
   ·rcases List.mem_append.1 h with h | h
    ·exact absurd b (Z1z nm lvg (by decide) _ h)
    ·rcases (mL _).1 h with h | h
     ·exact absurd h a
     ·rcases List.mem_append.1 b with b | b
      ·exact absurd rfl (dx _ b _ ((mF _).2 (.inr h)))
      ·exact absurd rfl (dgx _ b _ h)
  rw [if_neg b]
  by_cases c : (k : Int) ∈ now
  ·rw [if_pos c]
   exact ⟨fun _ => .inr (List.mem_append_left _ c), fun _ => rfl⟩
  rw [if_neg c, m2 k hk]
  constructor
  ·rintro (h | h)
   ·exact .inl h
   ·rcases List.mem_append.1 h with h | h
    ·exact absurd (List.mem_append_left _ h) b
    ·rcases (mF _).1 h with h | h
     ·exact absurd (List.mem_append_right _ h) b
     ·exact .inr (List.mem_append_right _ ((mL _).2 (.inr h)))
  ·rintro (h | h)
   ·exact .inl h
   ·rcases List.mem_append.1 h with h | h
    ·exact absurd h c
    ·rcases (mL _).1 h with h | h
     ·exact absurd h a
     ·exact .inr (List.mem_append_right _ ((mF _).2 (.inr h)))
 ·intro h
  rcases List.mem_append.1 h with h | h
  ·exact z2 h
  ·rcases (mL _).1 h with h | h
   ·exact z1 h
   ·exact z3 (List.mem_append_right _ h)
theorem ZaN (b : List UInt8) (h : Int) (k : Nat) : (hdL b h k).length = k + 1 := by unfold hdL; rw [List.length_cons, List.length_map, List.length_range]
theorem Zj3 {N : Nat} {s : St} {nm : List UInt8} {h ln : Int} (h0 : 0 < N) (hi : inv N s) (hm : mk1 N s) : mk1 N (insS N s nm h ln) := by
 unfold insS
 by_cases c : inR s.F s.U (sOf N s.R) (wOf N s.R) nm h ln = 0
 case neg => rw [if_neg c]; exact hm
 rw [if_pos c]
 obtain ⟨h1, ⟨h2, h2'⟩, h3, h4⟩ := Z7y c
 have hk := (Z3q (Z0P N s.R) s.U).1 h4
 have hf : ∀ f ∈ inL s.F (sOf N s.R) nm h ln, f.se.length = hdN f.ln + 1 := fun f hf => by
  rcases Z9H hf with rfl | hf
  ·exact ZaN _ _ _
  ·exact hm.2.2.2.2 f hf
 have hp : ∃ rest, (seL s.F).Perm (inG s.F nm ++ rest) ∧ (seL (inL s.F (sOf N s.R) nm h ln)).Perm (Z2H (sOf N s.R) h ln ++ rest) := by
  unfold inL inF inG
  by_cases d : fiB s.F nm = true
  ·have := (of_decide_eq_true d).1
   exact ⟨seL (wo s.F (fiN s.F nm)), by rw [if_pos d]; exact Z3G this, by rw [if_pos d]; exact Z45 this⟩
  ·refine ⟨seL s.F, ?_, ?_⟩
   ·rw [if_neg d]; exact List.Perm.refl _
   ·rw [if_neg d]; exact Z8v _ _ _
 obtain ⟨rest, p1, p2⟩ := hp
 exact ZdC h0 hi hm p1 h2' p2 hk hf
theorem ZmU {N : Nat} {s : St} {nm : List UInt8} (h0 : 0 < N) (hi : inv N s) (hm : mk1 N s) : mk1 N (delS N s nm) := by
 unfold delS
 by_cases c : delR s.F s.U s.R nm = 0
 case neg => rw [if_neg c]; exact hm
 rw [if_pos c]
 obtain ⟨h1, h2⟩ := Z4W.1 c
 exact ZdC (own := []) (rest := seL (delL s.F nm)) h0 hi hm (Z3G (Z6q h1)) (fun i h => absurd h (Nat.not_lt_zero i)) (List.Perm.refl _) h2 fun f hf => hm.2.2.2.2 f (Z5O hf)
theorem ZlK {N : Nat} {s : St} {a b : List UInt8} (h0 : 0 < N) (hi : inv N s) (hm : mk1 N s) : mk1 N (renS N s a b) := by
 unfold renS
 by_cases c : renR s.F s.U s.R a b = 0
 case neg => rw [if_neg c]; exact hm
 rw [if_pos c]
 obtain ⟨h1, h2, h3, h4⟩ := Z4G.1 c
 have hl := Z6q h2
 have hp : (seL (renL s.F a b)).Perm (seL s.F) := ((Z3k hl).flatMap_right Fl.se).trans ((Z45 hl).trans (Z3G hl).symm)
 refine ZdC (gone := []) (own := []) (rest := seL s.F) h0 hi hm (List.Perm.refl _) (fun i h => absurd h (Nat.not_lt_zero i)) hp h4 fun f hf => ?_
 rcases List.mem_or_eq_of_mem_set ((Z3k hl).mem_iff.1 hf) with h | rfl
 ·exact hm.2.2.2.2 f h
 ·show (s.F.getD (fiN s.F a) default).se.length = hdN (s.F.getD (fiN s.F a) default).ln + 1
  exact hm.2.2.2.2 _ (by rw [Z0G hl]; exact List.getElem_mem hl)
theorem Zcb {N : Nat} {s : St} {l : List Int} {w x : Int} (h0 : 0 < N) (hi : inv N s) (hm : mk1 N s) (hl : mks s.U w l) (hw : w ≠ 1) (hx : x = 0 ∨ x = 2) (R : List Wr) : mk1 N ⟨s.F, s.Lv, tSet s.U x l, R⟩ := by
 obtain ⟨m1, m2, m3, m4, m5⟩ := hm
 have i5 : s.U.length = N := hi.2.2.2.2.1
 refine ⟨fun k hk => ?_, fun k hk => ?_, m3, m4, m5⟩
 ·show (tSet s.U x l).getD k default = 0 ∨ _
  rw [Z15 _ _ _ _ (Z2a hl) (by omega)]
  split
  ·rcases hx with rfl | rfl
   ·exact .inl rfl
   ·exact .inr (.inr rfl)
  ·exact m1 k hk
 ·show (tSet s.U x l).getD k default = 1 ↔ _
  rw [Z15 _ _ _ _ (Z2a hl) (by omega)]
  split
  ·rename_i h
   have h1 := (hl _ h).2.2
   rw [Int.toNat_natCast] at h1
   refine ⟨fun e => ?_, fun e => ?_⟩
   ·rcases hx with rfl | rfl
    ·exact absurd e (by decide)
    ·exact absurd e (by decide)
   ·exact absurd (h1.symm.trans ((m2 k hk).2 e)) hw
  ·exact m2 k hk
theorem ZnP {N : Nat} {s : St} (h0 : 0 < N) (hi : inv N s) (hm : mk1 N s) : mk1 N ⟨s.F, s.Lv, tkU s.U, s.R⟩ := by
 by_cases c : (0 : Int) ∈ s.U
 ·obtain ⟨a, ha, hal, hag⟩ := Z2p c
  have e : tkU s.U = tSet s.U 2 [(a : Int)] := by rw [Za5 ha]; show _ = s.U.set ((a : Int)).toNat 2; rw [Int.toNat_natCast]
  rw [e]
  exact Zcb h0 hi hm (Z0A.1 (ZiI hal hag)).1 (by decide) (.inr rfl) s.R
 ·have : tkU s.U = s.U := by unfold tkU; rw [if_pos]; unfold Z2q; rw [if_neg c]; decide
  rw [this]; exact hm
theorem Zps {N : Nat} {s : St} {n : Int} (h0 : 0 < N) (hi : inv N s) (hm : mk1 N s) : mk1 N ⟨s.F, s.Lv, tRes s.U 2 0 [n], s.R⟩ := by
 unfold tRes
 split
 ·rename_i h
  exact Zcb h0 hi hm (Z0A.1 h).1 (by decide) (.inl rfl) s.R
 ·exact hm
theorem Zky {N : Nat} {s : St} {nm : List UInt8} {len : Int} (h0 : 0 < N) (hi : inv N s) (hm : mk1 N s) : mk1 N (fileS N s nm len) := by
 unfold fileS
 split
 ·obtain ⟨_, h2, _⟩ := Z92 s.U (cuM len + 1)
  exact Zj3 h0 (Z7K hi) (Zcb h0 hi hm (Z0A.1 h2).1 (by decide) (.inr rfl) _)
 ·exact hm
def uOf (N : Nat) (U l : List Int) : Prop := (∀ k : Nat, k < N → U.getD k default = if (k : Int) = 0 ∨ (k : Int) ∈ l then 1 else 0) ∧ (0 : Int) ∉ l
theorem ZbW {N : Nat} {U l x l' : List Int} (hU : U.length = N) (h : uOf N U l) (h0 : 0 < N) (hx : tOk U 0 x) (hl : ∀ n, n ∈ l' ↔ n ∈ l ∨ n ∈ x) : uOf N (tSet U 1 x) l' := by
 obtain ⟨m, d⟩ := Z0A.1 hx
 obtain ⟨h1, h2⟩ := h
 have z : (0 : Int) ∉ x := fun hz => by
  have a := (m 0 hz).2.2
  have b := h1 0 h0
  rw [if_pos (.inl rfl)] at b
  exact absurd (a.symm.trans b) (by decide)
 refine ⟨fun k hk => ?_, fun hz => ((hl 0).1 hz).elim h2 z⟩
 rw [Z15 _ _ _ _ (Z2a m) (by omega), h1 k hk]
 by_cases a : (k : Int) ∈ x
 ·rw [if_pos a, if_pos (.inr ((hl _).2 (.inr a)))]
 ·rw [if_neg a]
  by_cases b : (k : Int) = 0 ∨ (k : Int) ∈ l
  ·rw [if_pos b, if_pos (b.imp id fun h => (hl _).2 (.inl h))]
  ·rw [if_neg b, if_neg (fun h => h.elim (fun h => b (.inl h)) fun h => ((hl _).1 h).elim (fun h => b (.inr h)) a)]
theorem Z8q (b : List UInt8) : ∀ (n i : Nat) (F : List Fl), (Z3Q b n i F).2 = true → (Z3Q b n i F).1.length = F.length + n
 | 0, _, _, _ => rfl
 | n + 1, i, F, h => by
  unfold Z3Q at h ⊢
  by_cases c : Zdy b i F
  ·rw [if_pos c] at h ⊢
   rw [Z8q b n (i + 1) _ h, List.length_append]
   simp only [List.length_singleton]
   omega
  ·rw [if_neg c] at h; exact absurd h (by simp)
def okN (n i : Nat) (l : Nat) : Prop := (i < n ∨ i = 0 → l = 31 * i) ∧ (i = n → lvN l = n)
theorem ZjX {N n i : Nat} {S : List Sec} {d : D3} (h0 : 0 < N) (hin : i < n) (hS : S.length = N) (hU : d.U.length = N) (h : uOf N d.U d.Lv) (hl : okN n i d.F.length) (hb : rdB S n i d = true) :
  (Z56 S n i d).U.length = N ∧ uOf N (Z56 S n i d).U (Z56 S n i d).Lv ∧ okN n (i + 1) (Z56 S n i d).F.length := by
 unfold rdB lfB at hb
 split at hb
 case isFalse => exact absurd hb (by decide)
 rename_i hp
 have ht := hp.1.2.1
 have eF : (Z56 S n i d).F = (Z3Q (secB S (rdAt S i)) (lfN S (rdAt S i)) 0 d.F).1 := by show lfF _ _ _ _ _ = _; unfold lfF; rw [if_pos hp]
 have eL : (Z56 S n i d).Lv = d.Lv ++ [rdAt S i] := by show lfL _ _ _ _ _ = _; unfold lfL; rw [if_pos hp]
 have eU : (Z56 S n i d).U = tSet d.U 1 [rdAt S i] := by show lfU _ _ _ = _; unfold lfU tRes; rw [if_pos hp.1.1, if_pos ht]
 rw [eF, eL, eU, Z8q _ _ _ _ hb, Z0B]
 refine ⟨hU, ZbW hU h h0 ht fun n => List.mem_append, ?_⟩
 obtain ⟨h1, h2, h3⟩ := hp.2
 have h3' : i + 1 = n ∨ lfN S (rdAt S i) = 31 := h3.imp (fun h => of_decide_eq_true h) id
 have := hl.1 (.inl hin)
 unfold okN lvN
 omega
theorem ZiS (N : Nat) (S : List Sec) (n : Nat) (h0 : 0 < N) (hS : S.length = N) : ∀ (k i : Nat) (d : D3), i + k = n → d.U.length = N → uOf N d.U d.Lv → okN n i d.F.length → (rdL S n k i d).2 = true → (rdL S n k i d).1.U.length = N ∧ uOf N (rdL S n k i d).1.U (rdL S n k i d).1.Lv ∧ okN n n (rdL S n k i d).1.F.length
 | 0, i, d, e, h1, h2, h3, _ => by obtain rfl : i = n := e; exact ⟨h1, h2, h3⟩
 | k + 1, i, d, e, h1, h2, h3, hb => by
  unfold rdL at hb ⊢
  by_cases c : rdB S n i d = true
  ·rw [if_pos c] at hb ⊢
   obtain ⟨a, b, f⟩ := ZjX h0 (by omega) hS h1 h2 h3 c
   exact ZiS N S n h0 hS k (i + 1) _ (by omega) a b f hb
  ·rw [if_neg c] at hb; exact absurd hb (by simp)
def ZnA (N i : Nat) (d : D3) : Prop := d.U.length = N ∧ uOf N d.U (d.Lv ++ seL d.F) ∧ (∀ j, i ≤ j → j < d.F.length → (d.F.getD j default).se = []) ∧ ∀ j, j < i → (d.F.getD j default).se.length = hdN (d.F.getD j default).ln + 1
theorem Zko {N i : Nat} {S : List Sec} {d : D3} (h0 : 0 < N) (hi : i < d.F.length) (h : ZnA N i d) (hp : hdP S i d) : ZnA N (i + 1) (ZaL S i d) := by
 obtain ⟨h1, h2, h3, h4⟩ := h
 obtain ⟨p1, p2⟩ := hp
 have he := h3 i (Nat.le_refl _) hi
 have hln : (hdAll S (d.F.getD i default)).length = hdN (d.F.getD i default).ln + 1 := ZaN _ _ _
 unfold ZaL
 generalize hdAll S (d.F.getD i default) = l at *
 have g : ∀ j, (d.F.set i { d.F.getD i default with se := l }).getD j default = if j = i then { d.F.getD i default with se := l } else d.F.getD j default := fun j => by
  by_cases c : j = i
  ·subst c; rw [if_pos rfl, Z2C _ _ _ _ hi]
  ·rw [if_neg c, Z1c _ _ _ _ _ (fun e => c e.symm)]
 refine ⟨by show (tSet _ _ _).length = N; rw [Z0B]; exact h1, ?_, fun j hj hjl => ?_, fun j hj => ?_⟩
 ·refine ZbW h1 h2 h0 p2 fun n => ?_
  have w := Z3G hi
  rw [he, List.nil_append] at w
  have p : (seL (d.F.set i { d.F.getD i default with se := l })).Perm (l ++ seL d.F) := (Z45 hi).trans (List.Perm.append_left _ w.symm)
  show n ∈ d.Lv ++ seL _ ↔ _
  rw [List.mem_append, p.mem_iff, List.mem_append, List.mem_append]
  constructor
  ·rintro (h | h | h)
   ·exact .inl (.inl h)
   ·exact .inr h
   ·exact .inl (.inr h)
  ·rintro ((h | h) | h)
   ·exact .inl h
   ·exact .inr (.inr h)
   ·exact .inr (.inl h)
 ·dsimp only at *
  rw [List.length_set] at hjl
  rw [g, if_neg (by omega)]
  exact h3 j (by omega) hjl
 ·dsimp only at *
  rw [g]
  by_cases c : j = i
  ·rw [if_pos c]; exact hln
  ·rw [if_neg c]; exact h4 j (by omega)
theorem ZiV (N : Nat) (S : List Sec) (h0 : 0 < N) : ∀ (k i : Nat) (d : D3), i + k = d.F.length → ZnA N i d → (rdH S k i d).2 = true → ZnA N (i + k) (rdH S k i d).1 ∧ (rdH S k i d).1.F.length = d.F.length ∧ (rdH S k i d).1.Lv = d.Lv
 | 0, i, d, _, h, _ => ⟨h, rfl, rfl⟩
 | k + 1, i, d, hl, h, hb => by
  unfold rdH at hb ⊢
  by_cases c : hdP S i d
  ·rw [if_pos c] at hb ⊢
   have e : (ZaL S i d).F.length = d.F.length := by show (List.set _ _ _).length = _; rw [List.length_set]
   obtain ⟨a, b, f⟩ := ZiV N S h0 k (i + 1) _ (by rw [e]; omega) (Zko h0 (by omega) h c) hb
   rw [show i + (k + 1) = i + 1 + k by omega]
   exact ⟨a, b.trans e, f⟩
  ·rw [if_neg c] at hb; exact absurd hb (by simp)
theorem ZiT (S : List Sec) (n : Nat) : ∀ (k i : Nat) (d : D3), (rdL S n k i d).2 = true → (rdL S n k i d).1.Lv.length = d.Lv.length + k
 | 0, _, _, _ => rfl
 | k + 1, i, d, hb => by
  unfold rdL at hb ⊢
  by_cases c : rdB S n i d = true
  ·rw [if_pos c] at hb ⊢
   rw [ZiT S n k (i + 1) _ hb]
   have : (Z56 S n i d).Lv = d.Lv ++ [rdAt S i] := by
    show lfL _ _ _ _ _ = _
    unfold lfL
    unfold rdB lfB at c
    split at c
    ·rename_i hp; rw [if_pos hp]
    ·exact absurd c (by decide)
   rw [this, List.length_append]
   simp only [List.length_singleton]
   omega
  ·rw [if_neg c] at hb; exact absurd hb (by simp)
theorem opn_mk {N : Nat} {R : List Wr} (h0 : 0 < N) (hR : R.length ≤ 4096) (h : (opn (sOf N R)).2 = true) : mk1 N (opS N R) := by
 have iv := opn_inv hR h
 unfold opS at *
 have hS := Z0t N R
 generalize sOf N R = S at *
 unfold opn rdA3 at h ⊢
 by_cases hr : rd0 S
 case neg => rw [if_neg hr] at h; exact absurd h (by simp)
 rw [if_pos hr] at h ⊢
 unfold ZbL at h ⊢
 by_cases h1 : (rdL S (rdN S) (rdN S) 0 ⟨[], [], (List.replicate S.length 0).set 0 1⟩).2 = true
 case neg => rw [if_neg h1] at h; exact absurd h h1
 rw [if_pos h1] at h ⊢
 have hu : uOf N ((List.replicate S.length (0 : Int)).set 0 1) [] := by
  refine ⟨fun k hk => ?_, List.not_mem_nil⟩
  by_cases c : k = 0
  ·subst c
   rw [Z2C _ _ _ _ (by rw [List.length_replicate]; omega), if_pos (.inl rfl)]
  ·rw [Z1c _ _ _ _ _ (fun e => c e.symm), if_neg (by simp; omega), List.getD_eq_getElem?_getD, List.getElem?_replicate, if_pos (by omega)]; rfl
 have hk0 : okN (rdN S) 0 ([] : List Fl).length := ⟨fun _ => rfl, fun e => by rw [← e]; decide⟩
 obtain ⟨a, b, c⟩ := ZiS N S (rdN S) h0 hS _ 0 ⟨[], [], (List.replicate S.length 0).set 0 1⟩ (Nat.zero_add _) (by rw [List.length_set, List.length_replicate]; exact hS) hu hk0 h1
 have hv := ZiT S _ _ _ _ h1
 have hok : okF (rdL S (rdN S) (rdN S) 0 ⟨[], [], (List.replicate S.length 0).set 0 1⟩).1.F := (ZcY N S (rdN S) (rdN S) 0 ⟨[], [], (List.replicate S.length 0).set 0 1⟩ ⟨⟨List.Pairwise.nil, Nat.zero_le _, fun f hf => absurd hf (List.not_mem_nil)⟩, Nat.zero_le _, by rw [List.length_set, List.length_replicate]; exact hS, fun i hi => absurd hi (Nat.not_lt_zero i)⟩ h1).1
 clear h1
 generalize (rdL S (rdN S) (rdN S) 0 ⟨[], [], (List.replicate S.length 0).set 0 1⟩).1 = d at *
 obtain ⟨⟨u1, u2, u3, u4⟩, e1, e2⟩ := ZiV N S h0 d.F.length 0 d (Nat.zero_add _) ⟨a, by rw [Z9c d.F (fun f hf => (hok.2.2 f hf).2), List.append_nil]; exact b, fun j _ hj => by rw [Z0G hj]; exact (hok.2.2 _ (List.getElem_mem hj)).2, fun j hj => absurd hj (Nat.not_lt_zero j)⟩ h
 generalize (rdH S d.F.length 0 d).1 = g at *
 refine ⟨fun k hk => ?_, fun k hk => ?_, u2.2, ?_, fun f hf => ?_⟩
 ·show g.U.getD k default = 0 ∨ _
  rw [u2.1 k hk]
  split
  ·exact .inr (.inl rfl)
  ·exact .inl rfl
 ·show g.U.getD k default = 1 ↔ _
  rw [u2.1 k hk]
  split
  ·rename_i h; exact ⟨fun _ => h, fun _ => rfl⟩
  ·rename_i h; exact ⟨fun e => absurd e (by decide), fun e => absurd e h⟩
 ·show g.Lv.length = lvN g.F.length
  rw [e1, e2, c.2 rfl, hv]
  exact Nat.zero_add _
 ·obtain ⟨j, hj, rfl⟩ := List.mem_iff_getElem.1 hf
  have hj' : j < g.F.length := hj
  have := u4 j (by omega)
  rw [Z0G hj] at this
  exact this
theorem ZiX {N : Nat} {s : St} {R : List Wr} (h0 : 0 < N) (hR : R.length ≤ 4096) (hm : mk1 N s) : mk1 N (opT N s R) := by
 unfold opT
 split
 ·rename_i h
  unfold opK
  split
  ·rename_i h'; exact opn_mk h0 hR h'
  ·rename_i h'
   exact opn_mk h0 (Z2j _ _ _ _ hR) (Z49 h0 (h.resolve_left h'))
 ·exact hm
theorem Zhf {N : Nat} {s : St} {t : Stp} (h0 : 0 < N) (hi : inv N s) (hm : mk1 N s) : mk1 N (stepS N s t) := by
 have h6 : s.R.length ≤ 4096 := hi.2.2.2.2.2.1
 unfold stepS
 split
 ·exact Zky h0 hi hm
 split
 ·exact Zj3 h0 hi hm
 split
 ·exact ZmU h0 hi hm
 split
 ·exact ZlK h0 hi hm
 split
 ·exact ZnP h0 hi hm
 split
 ·exact Zps h0 hi hm
 split
 ·exact ZiX h0 h6 hm
 split
 ·split
  ·exact ZiX h0 (Z2j _ _ _ _ h6) hm
  ·exact hm
 ·exact hm
theorem Zna (U : List Int) (x : Int) : U.count x = ((List.range U.length).filter fun k => decide (U.getD k default = x)).length := by
 have e : U = (List.range U.length).map fun k => U.getD k default := by
  refine List.ext_getElem (by rw [List.length_map, List.length_range]) fun k h1 h2 => ?_
  rw [List.getElem_map, List.getElem_range, Z0G h1]
 conv => lhs; rw [e]
 rw [List.count, List.countP_map, List.countP_eq_length_filter]
 congr 1
theorem cnt3 : ∀ U : List Int, (∀ x ∈ U, x = 0 ∨ x = 1 ∨ x = 2) → U.length = U.count 0 + U.count 1 + U.count 2
 | [], _ => rfl
 | x :: U, h => by
  have ih := cnt3 U fun y hy => h y (List.mem_cons_of_mem _ hy)
  simp only [List.length_cons, List.count_cons]
  rcases h x (List.mem_cons_self ..) with rfl | rfl | rfl <;> simp <;> omega
def ZbT (F : List Fl) : Nat := (F.map fun f => hdN f.ln + 1).sum
theorem Zcd : ∀ F : List Fl, (∀ f ∈ F, f.se.length = hdN f.ln + 1) → (seL F).length = ZbT F
 | [], _ => rfl
 | f :: F, h => by
  have ih := Zcd F fun g hg => h g (List.mem_cons_of_mem _ hg)
  show (f.se ++ seL F).length = (hdN f.ln + 1) + ZbT F
  rw [List.length_append, ih, h f (List.mem_cons_self ..)]
theorem Zie {N : Nat} {s : St} (h0 : 0 < N) (hi : inv N s) (hm : mk1 N s) : N = s.U.count 0 + s.U.count 2 + (1 + lvN s.F.length + ZbT s.F) := by
 obtain ⟨m1, m2, m3, m4, m5⟩ := hm
 have i5 : s.U.length = N := hi.2.2.2.2.1
 obtain ⟨um, ud⟩ := Z0A.1 hi.2.2.2.2.2.2
 have h3 := cnt3 s.U fun x hx => by
  obtain ⟨k, hk, rfl⟩ := List.mem_iff_getElem.1 hx
  have := m1 k (by omega)
  rwa [Z0G hk] at this
 have h1 : s.U.count 1 = (0 :: (s.Lv ++ seL s.F)).length := by
  rw [Zna]
  have hn : (0 :: (s.Lv ++ seL s.F)).Nodup := List.nodup_cons.2 ⟨m3, ud⟩
  have nn : ∀ n ∈ (0 :: (s.Lv ++ seL s.F)), 0 ≤ n := fun n hn => by
   rcases List.mem_cons.1 hn with rfl | hn
   ·exact Int.le_refl _
   ·exact (um n hn).1
  have hn2 : ((0 :: (s.Lv ++ seL s.F)).map Int.toNat).Nodup := by
   rw [List.nodup_iff_pairwise_ne, List.pairwise_map]
   refine (List.nodup_iff_pairwise_ne.1 hn).imp_of_mem fun {a b} ha hb h e => h ?_
   have := nn a ha
   have := nn b hb
   omega
  have el : ((0 :: (s.Lv ++ seL s.F)).map Int.toNat).length = (0 :: (s.Lv ++ seL s.F)).length := List.length_map ..
  rw [← el]
  refine (List.perm_ext_iff_of_nodup (List.Pairwise.filter _ List.nodup_range) hn2).2 (fun k => ?_) |>.length_eq
  rw [List.mem_filter, List.mem_range, decide_eq_true_eq, List.mem_map]
  constructor
  ·rintro ⟨a, b⟩
   rcases (m2 k (by omega)).1 b with c | c
   ·exact ⟨0, List.mem_cons_self .., by omega⟩
   ·exact ⟨(k : Int), List.mem_cons_of_mem _ c, Int.toNat_natCast k⟩
  ·rintro ⟨n, hn, rfl⟩
   rcases List.mem_cons.1 hn with rfl | hn
   ·exact ⟨by rw [i5]; exact h0, (m2 0 h0).2 (.inl rfl)⟩
   ·obtain ⟨a, b, c⟩ := um n hn
    exact ⟨by omega, c⟩
 rw [List.length_cons, List.length_append, m4, Zcd _ m5] at h1
 omega
def gv1 (V : List Int) (k : Nat) : List Int := if tOk V 2 [(k : Int)] then tkU (tRes V 2 0 [(k : Int)]) else V
def gvU (U : List Int) : Nat → List Int
 | 0 => U
 | k + 1 => gv1 (gvU U k) k
def gvN (U : List Int) : Nat → Nat
 | 0 => 0
 | k + 1 => if tOk (gvU U k) 2 [(k : Int)] then gvN U k + 1 else gvN U k
theorem Zlw {V : List Int} {k : Nat} (hk : k < V.length) (w : Int) : tOk V w [(k : Int)] ↔ V.getD k default = w := by
 rw [Z0A]
 constructor
 ·rintro ⟨m, _⟩
  have := (m k (List.mem_singleton.2 rfl)).2.2
  rwa [Int.toNat_natCast] at this
 ·intro h
  refine ⟨fun n hn => ?_, by simp⟩
  obtain rfl := List.mem_singleton.1 hn
  exact ⟨by omega, by omega, by rw [Int.toNat_natCast]; exact h⟩
theorem ZgI {V : List Int} {a : Nat} (ha : a < V.length) (x y : Int) : (V.set a x).count y + (if V.getD a default = y then 1 else 0) = V.count y + (if x = y then 1 else 0) := by
 rw [List.count_set ha, Z0G ha]
 have : (if V[a] = y then 1 else 0) ≤ V.count y := by
  split
  ·rename_i h; rw [← h]; exact List.count_pos_iff.2 (List.getElem_mem ha)
  ·exact Nat.zero_le _
 simp only [beq_iff_eq]
 omega
theorem ZaO (U : List Int) (hU : ∀ k : Nat, k < U.length → U.getD k default = 0 ∨ U.getD k default = 1 ∨ U.getD k default = 2) : ∀ k, k ≤ U.length → (gvU U k).length = U.length ∧ (gvU U k).count 0 = U.count 0 ∧ (∀ j, k ≤ j → j < U.length → (gvU U k).getD j default = U.getD j default) ∧ gvN U k = (U.take k).count 2
 | 0, _ => ⟨rfl, rfl, fun _ _ _ => rfl, rfl⟩
 | k + 1, hk => by
  obtain ⟨h1, h2, h3, h4⟩ := ZaO U hU k (by omega)
  have hv := h3 k (Nat.le_refl _) (by omega)
  have ht : (U.take (k + 1)).count 2 = (U.take k).count 2 + (if U.getD k default = 2 then 1 else 0) := by
   rw [List.take_succ_eq_append_getElem (by omega), List.count_append, List.count_singleton, Z0G (by omega)]
   simp only [beq_iff_eq]
  have hT := Zlw (V := gvU U k) (k := k) (by omega) 2
  rw [hv] at hT
  show (gv1 (gvU U k) k).length = _ ∧ (gv1 (gvU U k) k).count 0 = _ ∧ (∀ j, k + 1 ≤ j → j < U.length → (gv1 (gvU U k) k).getD j default = _) ∧ (if tOk (gvU U k) 2 [(k : Int)] then gvN U k + 1 else gvN U k) = _
  unfold gv1
  rw [ht]
  by_cases c : U.getD k default = 2
  case neg =>
   have c' := fun h => c (hT.1 h)
   rw [if_neg c', if_neg c', if_neg c]
   exact ⟨h1, h2, fun j a b => h3 j (by omega) b, by omega⟩
  have c' := hT.2 c
  rw [if_pos c', if_pos c', if_pos c]
  generalize gvU U k = V at *
  have e : tRes V 2 0 [(k : Int)] = V.set k 0 := by
   unfold tRes
   rw [if_pos c']
   show V.set ((k : Int)).toNat 0 = _
   rw [Int.toNat_natCast]
  rw [e]
  have hm : (0 : Int) ∈ V.set k 0 := List.mem_iff_getElem.2 ⟨k, by rw [List.length_set]; omega, List.getElem_set_self ..⟩
  obtain ⟨a, ha, hal, hag⟩ := Z2p hm
  rw [Za5 ha]
  have c1 := ZgI (V := V) (a := k) (by omega) 0 0
  rw [hv, c] at c1
  have c2 := ZgI (V := V.set k 0) hal 2 0
  rw [hag] at c2
  have hak : a ≤ k := by
   rcases Nat.lt_or_ge k a with h | h
   ·have hx : Z2q (V.set k 0) 0 ≤ k := by
     unfold Z2q
     rw [if_pos hm]
     have : (V.set k 0).idxOf 0 ≤ k := by
      rcases Nat.lt_or_ge k ((V.set k 0).idxOf 0) with h | h
      ·have := List.not_of_lt_findIdx (p := (· == (0 : Int))) h
       rw [List.getElem_set_self] at this
       exact absurd this (by decide)
      ·exact h
     omega
    omega
   ·exact h
  refine ⟨by rw [List.length_set, List.length_set]; exact h1, ?_, fun j x y => ?_, by omega⟩
  ·simp at c1 c2
   omega
  ·rw [Z1c _ _ _ _ _ (by omega), Z1c _ _ _ _ _ (by omega)]
   exact h3 j (by omega) y
theorem Z69 (n : Int) : 0 < madeN n ∧ madeN n ≤ 1024 := by unfold madeN; split <;> omega
theorem Z97 {N : Nat} (h : 0 < N) : inv N (st0 N) ∧ mk1 N (st0 N) := ⟨opn_inv (Z2j _ _ _ _ (Nat.zero_le _)) (Z49 h (by decide)), opn_mk h (Z2j _ _ _ _ (Nat.zero_le _)) (Z49 h (by decide))⟩
def bV (F : List Fl) (Lv V U : List Int) (S : List Sec) (W : List Wr) (N : Nat) (R : List Wr) : Z01 := [.row [.ref 1 0 0, .ref 2 0 0, .ref 3 0 0, .ref 4 0 0] 4 0,
 .row [.msl 5 0 0 S.length, .msl 6 W.length 0 W.length] 2 0,
 .row [.ref 1 0 0, .sl (F.flatMap flC) F.length, .msl 7 Lv.length 0 Lv.length, .msl 8 0 0 N] 4 0,
 .row [.sl ((noN N).map AV.str) N, .msl 9 R.length 0 R.length] 2 0,
 .row [.ref 3 0 0, .sl (F.flatMap flC) F.length, .sl (Lv.map (AV.int .i64)) Lv.length, .msl 10 0 0 N] 4 0,
 .row (S.flatMap Z2y) 1024 0, .row (W.flatMap wrC) 1025 W.length, .row (Lv.map (AV.int .i64)) 1 Lv.length, .row (V.map (AV.int .i64)) 1 0, .row (R.flatMap wrR) 2 R.length, .row (U.map (AV.int .i64)) 1 0]
def usK (F : List Fl) (k : Nat) : Nat := 1 + lvN F.length + ZbT (F.take k)
theorem ZbS : ∀ F : List Fl, (∀ f ∈ F, Z1B f) → ZbT F ≤ 4194305 * F.length
 | [], _ => Nat.le_refl _
 | f :: F, h => by
  have ih := ZbS F fun g hg => h g (List.mem_cons_of_mem _ hg)
  have h1 := (h f (List.mem_cons_self ..)).2.2
  have e : ZbT (f :: F) = (hdN f.ln + 1) + ZbT F := rfl
  have : hdN f.ln ≤ 4194304 := by unfold hdN; omega
  rw [e, List.length_cons]
  omega
theorem ZbR (F : List Fl) (f : Fl) : ZbT (F ++ [f]) = ZbT F + (hdN f.ln + 1) := by
 unfold ZbT
 rw [List.map_append, List.sum_append]; rfl
theorem body9 (Γ : Env) (h25 : Γ 25 = some S25) (h26 : Γ 26 = some S26) (h27 : Γ 27 = some S27) (h31 : Γ 31 = some S31) (h32 : Γ 32 = some S32) (h33 : Γ 33 = some S33) (h29 : Γ 29 = some S29) (h19 : Γ 19 = some S19) (sec : Int) (fs : List Stp) (hf : fs.length ≤ 1048576) (hfs : ∀ s ∈ fs, s.nm.length ≤ 1048576 ∧ s.to.length ≤ 1048576 ∧ s.r.length ≤ 1048576) :
  Z09 Tryz.prog Γ Tryz.f9 [.int .i64 sec, .sl (fs.flatMap stC) fs.length] [] (.bool true) [] := by
 obtain ⟨hN0, hN⟩ := Z69 sec
 have ⟨p26, r26, g26⟩ := ks26 sec
 have i0 := Z97 hN0
 generalize madeN sec = N at *
 generalize st0 N = s0 at *
 obtain ⟨F0, Lv0, U0, R0⟩ := s0
 unfold bH bK at g26
 dsimp only at g26
 refine stt 109 [.tmp 4] fun X hP hΓ hL hfin => ?_; refine gxq (cj5 h25 h26 p26 r26 g26) ?_
 refine Z02.loopM (ι := {p : Nat × St // p.1 ≤ fs.length ∧ inv N p.2 ∧ mk1 N p.2}) [ff,tt,ff,ff,tt,tt,tt,ff,tt,tt,tt,tt,tt,tt,ff,ff,ff,ff,ff,ff,ff,ff,ff,ff,ff,ff,ff,ff,ff,ff,ff,ff,ff,ff,ff,ff,ff,ff,ff,ff,ff,ff,ff,ff,ff,ff,ff,ff,ff,ff,ff,ff,ff,ff,ff,ff,ff,ff,ff,ff,ff,ff,ff,ff,ff,ff,ff,ff,ff,ff,ff,ff,ff,ff,ff,ff,ff,ff,ff,ff,ff,ff,ff,ff,ff,ff,ff,ff,ff,ff,ff,ff,ff,ff,ff,ff,ff,ff,ff,ff,ff,ff,ff,ff,ff,ff,ff,ff,ff] (fun i => [(7, .int .i64 i.1.1)]) (fun i => bH N i.1.2) (fun i => fs.length - i.1.1) ⟨(0, ⟨F0, Lv0, U0, R0⟩), Nat.zero_le _, i0⟩ ?_ ?_
 ·rw [hL]
  unfold bH bK
  simp only [push_cast, reduceCtorEq, Nat.reduceAdd, Nat.reduceMul, Nat.reduceSub, Nat.reduceBEq, Nat.reduceGT, Nat.reduceLT, Int.toNat_zero, Nat.reduceLeDiff, Int.reduceEq, Int.reduceLT, Int.reduceLE, Int.natCast_zero]
  exact Z08.sameA
 clear p26 r26 g26 i0
 rintro ⟨⟨k, ⟨F, Lv, U, R⟩⟩, hk, hi, hm⟩
 replace hk : k ≤ fs.length := hk
 replace hi : inv N ⟨F, Lv, U, R⟩ := hi
 replace hm : mk1 N ⟨F, Lv, U, R⟩ := hm
 have hU : U.length = N := hi.2.2.2.2.1
 have hR : R.length ≤ 4096 := hi.2.2.2.2.2.1
 have hF2 : F.length ≤ 200 := hi.2.1
 unfold bH
 dsimp only
 unfold bK
 by_cases hk' : k < fs.length
 ·have dk : decide ((k : Int) < (fs.length : Int)) = true := decide_eq_true (by omega)
  have wk : IntKind.i64.wrap ((k : Int) + 1) = (k : Int) + 1 := Z07 _ (by constructor <;> omega)
  obtain ⟨f, hf⟩ : ∃ f, fs.getD k default = f := ⟨_, rfl⟩
  have hfm : f ∈ fs := by rw [← hf, Z0G hk']; exact List.getElem_mem hk'
  obtain ⟨hnm, hto, hr⟩ := hfs f hfm
  have t6 : List.take 6 (List.drop (k * 6) (fs.flatMap stC)) = [.int .i64 f.kd, .str f.nm, .str f.to, .int .i64 f.n, .int .i64 f.len, .str f.r] := by
   rw [Z13 (n := 6), List.drop_eq_getElem_cons hk', List.flatMap_cons, ← Z0G hk', hf]; rfl
  have m6 : min 6 (fs.length * 6 - k * 6) = 6 := by omega
  have gk : ∀ d, (fs.flatMap stC).getD (k * 6) d = .int .i64 f.kd := fun d => by rw [Z4c (n := 6) fs k d hk' (by decide), hf]; rfl
  by_cases k9 : f.kd = 9
  ·have d9 : decide (f.kd = 9) = true := decide_eq_true k9
   refine gxq (cj4 dk wk gk d9) ?_
   refine ⟨by omega, by omega, ⟨(k + 1, ⟨F, Lv, U, R⟩), hk', hi, hm⟩, by simp only; omega, ?_⟩
   exact Z08.sameA
  have d9 : decide (f.kd = 9) = false := decide_eq_false k9
  have ⟨p1, r1, g1⟩ := ks27 F Lv U N R f.kd f.nm f.to f.n f.len f.r
  have i2 := Z7Z (t := f) hN0 hN hi
  have m2 := Zhf (t := f) hN0 hi hm
  unfold ZbC at g1
  rw [show (⟨f.kd, f.nm, f.to, f.n, f.len, f.r⟩ : Stp) = f from rfl] at g1
  by_cases hI : Zlj N ⟨F, Lv, U, R⟩ f
  ·rw [if_pos hI] at g1
   generalize stepS N ⟨F, Lv, U, R⟩ f = s2 at *
   generalize rubL ⟨F, Lv, U, R⟩ f = rub at *
   obtain ⟨F2, Lv2, U2, R2⟩ := s2
   unfold bIH bI at g1
   dsimp only at g1
   generalize sOf N R = S at *
   generalize wOf N R = W at *
   unfold bK at p1 r1 g1
   refine gxq (Zh4 dk wk gk d9 t6 m6 h27 p1 r1 g1) ?_
   refine ⟨by omega, by omega, by omega, by omega, ⟨by decide, hi, hN0, hN, hnm, hto, hr⟩, ⟨(k + 1, ⟨F2, Lv2, U2, R2⟩), hk', i2, m2⟩, by simp only; omega, ?_⟩
   dsimp only
   exact Z0o.base [0, 1, 2, 3, 4, 5, 6, 11, 8, 9, 10] ⟨sml, smr, (by decide), (by first | rfl | decide), sm, sm⟩ smd
  rw [if_neg hI] at g1
  by_cases hN' : Zli N ⟨F, Lv, U, R⟩ f
  ·rw [if_pos hN'] at g1
   generalize stepS N ⟨F, Lv, U, R⟩ f = s2 at *
   obtain ⟨F2, Lv2, U2, R2⟩ := s2
   unfold bOH bO at g1
   dsimp only at g1
   generalize sOf N R = S at *
   generalize wOf N R = W at *
   unfold bK at p1 r1 g1
   refine gxq (Zh4 dk wk gk d9 t6 m6 h27 p1 r1 g1) ?_
   refine ⟨by omega, by omega, by omega, by omega, ⟨by decide, hi, hN0, hN, hnm, hto, hr⟩, ⟨(k + 1, ⟨F2, Lv2, U2, R2⟩), hk', i2, m2⟩, by simp only; omega, ?_⟩
   dsimp only
   exact Z0o.base [0, 1, 11, 3, 12, 5, 6, 13, 14, 9, 15] ⟨sml, smr, (by decide), (by first | rfl | decide), sm, sm⟩ smd
  ·rw [if_neg hN'] at g1
   generalize stepS N ⟨F, Lv, U, R⟩ f = s2 at *
   obtain ⟨F2, Lv2, U2, R2⟩ := s2
   unfold bH at g1
   dsimp only at g1
   generalize sOf N R = S at *
   generalize wOf N R = W at *
   unfold bK at p1 r1 g1
   refine gxq (Zh4 dk wk gk d9 t6 m6 h27 p1 r1 g1) ?_
   refine ⟨by omega, by omega, by omega, by omega, ⟨by decide, hi, hN0, hN, hnm, hto, hr⟩, ⟨(k + 1, ⟨F2, Lv2, U2, R2⟩), hk', i2, m2⟩, by simp only; omega, ?_⟩
   dsimp only
   exact Z08.keep11A
 ·obtain rfl : k = fs.length := by omega
  have dk : decide ((fs.length : Int) < (fs.length : Int)) = false := decide_eq_false (by omega)
  have hS := Z0t N R
  have hfl : ∀ f ∈ F, Z1B f := fun f hf => (hi.2.2.1 f hf).1
  have hcnt := Zie hN0 hi hm
  have hgf := ZaO U (fun k hk => hm.1 k (by omega))
  dsimp only at hcnt
  clear hfs hf hk hi hm hk'
  generalize sOf N R = S at *
  generalize wOf N R = W at *
  refine gxq dk ?_
  refine Z02.loopM (ι := {k : Nat // k ≤ N}) [ff,ff,ff,ff,tt,tt,tt,ff,ff,ff,ff,tt,tt,tt,ff,ff,ff,ff,ff,ff,ff,ff,ff,ff,ff,ff,ff,ff,ff,ff,ff,ff,ff,ff,ff,ff,ff,ff,ff,ff,ff,ff,ff,ff,ff,ff,ff,ff,ff,ff,ff,ff,ff,ff,ff,ff,ff,ff,ff,ff,ff,ff,ff,ff,ff,ff,ff,ff,ff,ff,ff,ff,ff,ff,ff,ff,ff,ff,ff,ff,ff,ff,ff,ff,ff,ff,ff,ff,ff,ff,ff,ff,ff,ff,ff,ff,ff,ff,ff,ff,ff,ff,ff,ff,ff,ff,ff,ff,ff] (fun i => [(8, .int .i64 (gvN U i.1 : Nat)), (9, .int .i64 i.1)]) (fun i => bV F Lv (gvU U i.1) U S W N R) (fun i => N - i.1) ⟨0, Nat.zero_le _⟩ ?_ ?_
  ·unfold bV gvU gvN
   rw [hU]
   (rw [hL]; simp only [push_cast, Int.natCast_zero]; exact Z08.sameA)
  rintro ⟨k, hk⟩
  dsimp only
  obtain ⟨g1, g2, g3, g4⟩ := hgf k (by omega)
  rw [hU] at g1
  have gle : gvN U k ≤ N := by rw [g4]; exact Nat.le_trans List.count_le_length (by rw [List.length_take]; omega)
  have ⟨p31, r31, g31⟩ := ks31 S W
  have ⟨p32, r32, g32⟩ := ks32 F Lv (gvU U k) S W k
  unfold Z0p at p31 r31 g31
  by_cases hk' : k < N
  ·have dk : decide ((k : Int) < (S.length : Int)) = true := decide_eq_true (by omega)
   have wk : IntKind.i64.wrap ((k : Int) + 1) = (k : Int) + 1 := Z07 _ (by constructor <;> omega)
   have wn : IntKind.i64.wrap ((gvN U k : Int) + 1) = (gvN U k : Int) + 1 := Z07 _ (by constructor <;> omega)
   by_cases c : tOk (gvU U k) 2 [(k : Int)]
   ·have e1 : gvU U (k + 1) = tkU (tRes (gvU U k) 2 0 [(k : Int)]) := by show gv1 _ _ = _; unfold gv1; rw [if_pos c]
    have e2 : gvN U (k + 1) = gvN U k + 1 := by show (if _ then _ else _) = _; rw [if_pos c]
    have l1 := Z26 (gvU U k) 2 0 [(k : Int)]
    have l2 := Z3g (tRes (gvU U k) 2 0 [(k : Int)])
    rw [if_pos c] at r32
    have ⟨p33, r33, g33⟩ := ks33 F Lv (tRes (gvU U k) 2 0 [(k : Int)]) S W
    have e : ∃ a b, tkR (tRes (gvU U k) 2 0 [(k : Int)]) = .tup [.int .i64 a, .int .i64 b] := by unfold tkR; split <;> exact ⟨_, _, rfl⟩
    obtain ⟨a, b, e⟩ := e
    rw [e] at r33
    rw [← e1] at g33
    generalize tRes (gvU U k) 2 0 [(k : Int)] = V1 at *
    generalize gvU U k = V at *
    unfold Z0x at p32 r32 g32 p33 r33 g33
    rw [← e1] at l2
    rw [l1] at g32 p33 r33 g33 l2
    rw [l2] at g33
    rw [g1] at p32 r32 g32 p33 r33 g33
    unfold bV
    refine gxq (Zjx h31 p31 r31 g31 dk h32 p32 r32 g32 h33 p33 r33 g33 wk wn) ?_
    refine ⟨by decide, ⟨by decide, by omega⟩, ⟨by decide, by omega⟩, ⟨⟨k + 1, hk'⟩, by simp only; omega, ?_⟩⟩
    rw [e2]
    exact Z08.sameA
   ·have e1 : gvU U (k + 1) = gvU U k := by show gv1 _ _ = _; unfold gv1; rw [if_neg c]
    have e2 : gvN U (k + 1) = gvN U k := by show (if _ then _ else _) = _; rw [if_neg c]
    have e3 : tRes (gvU U k) 2 0 [(k : Int)] = gvU U k := by unfold tRes; rw [if_neg c]
    rw [if_neg c] at r32
    rw [e3] at g32
    generalize hV : gvU U k = V at *
    unfold Z0x at p32 r32 g32
    rw [g1] at p32 r32 g32
    unfold bV
    refine gxq (Zh4 h31 p31 r31 g31 dk h32 p32 r32 g32 wk) ?_
    refine ⟨by decide, ⟨by decide, by omega⟩, ⟨⟨k + 1, hk'⟩, by simp only; omega, ?_⟩⟩
    rw [e1, e2]
    exact Z08.sameA
  obtain rfl : k = N := by omega
  have dk : decide ((k : Int) < (S.length : Int)) = false := decide_eq_false (by omega)
  have ⟨p29, r29, g29⟩ := ks29 F Lv (gvU U k) S W
  have ⟨p19, r19, g19⟩ := ks19 F Lv (gvU U k) S W
  rw [g2] at r19
  have hT : gvN U k = U.count 2 := by rw [g4, ← hU, List.take_length]
  rw [hT] at gle ⊢
  have hl7 : lvN F.length ≤ 7 := by unfold lvN; omega
  have wL : IntKind.i64.wrap ((F.length : Int) + 30) = (F.length : Int) + 30 := Z07 _ (by constructor <;> omega)
  have tq : ((F.length : Int) + 30).tdiv 31 = (lvN F.length : Int) := by unfold lvN; rw [Int.tdiv_eq_ediv_of_nonneg (by omega)]; omega
  have wq : IntKind.i64.wrap (lvN F.length : Int) = (lvN F.length : Int) := Z07 _ (by constructor <;> omega)
  have w1 : IntKind.i64.wrap (1 + (lvN F.length : Int)) = (usK F 0 : Nat) := by rw [Z07 _ (by constructor <;> omega), show usK F 0 = 1 + lvN F.length from rfl]; omega
  generalize gvU U k = V at *
  unfold Z0x at p29 r29 g29 p19 r19 g19
  rw [g1] at p29 r29 g29 p19 r19 g19
  unfold bV
  refine gxq (ZgJ h31 p31 r31 g31 dk h29 p29 r29 g29 wL tq wq w1) ?_
  refine ⟨by decide, ⟨by decide, by omega⟩, ?_⟩
  refine Z02.loopM (ι := {j : Nat // j ≤ F.length}) [ff,ff,ff,ff,tt,tt,tt,ff,tt,ff,ff,tt,ff,ff,ff,ff,ff,ff,ff,ff,ff,ff,ff,ff,ff,ff,ff,ff,ff,ff,ff,ff,ff,ff,ff,ff,ff,ff,ff,ff,ff,ff,ff,ff,ff,ff,ff,ff,ff,ff,ff,ff,ff,ff,ff,ff,ff,ff,ff,ff,ff,ff,ff,ff,ff,ff,ff,ff,ff,ff,ff,ff,ff,ff,ff,ff,ff,ff,ff,ff,ff,ff,ff,ff,ff,ff,ff,ff,ff,ff,ff,ff,ff,ff,ff,ff,ff,ff,ff,ff,ff,ff,ff,ff,ff,ff,ff,ff,ff] (fun i => [(12, .int .i64 (usK F i.1 : Nat)), (13, .int .i64 i.1)]) (fun i => bV F Lv V U S W k R ++ [.row (F.flatMap etC) 3 F.length]) (fun i => F.length - i.1) ⟨0, Nat.zero_le _⟩ ?_ ?_
  ·unfold bV
   (rw [hL]; simp only [push_cast, Int.natCast_zero]; exact Z08.sameA)
  rintro ⟨j, hj⟩
  dsimp only
  unfold bV
  have ub : ∀ j, j ≤ F.length → usK F j ≤ 838861008 := fun j hj => by
   have h1 := ZbS (F.take j) fun f hf => hfl f (List.mem_of_mem_take hf)
   rw [List.length_take] at h1
   unfold usK
   omega
  have uj := ub j hj
  by_cases hj' : j < F.length
  ·have uj1 := ub (j + 1) hj'
   obtain ⟨f, hf⟩ : ∃ f, F.getD j default = f := ⟨_, rfl⟩
   have hfm : f ∈ F := by rw [← hf, Z0G hj']; exact List.getElem_mem hj'
   have hln := (hfl f hfm).2.2
   have eu : usK F (j + 1) = usK F j + (hdN f.ln + 1) := by
    unfold usK
    rw [List.take_succ_eq_append_getElem hj', ZbR, ← Z0G hj', hf]
    omega
   have gl : ∀ d, (F.flatMap etC).getD (j * 3 + 2) d = .int .i64 f.ln := fun d => by rw [Z2Y (n := 3) F j 2 d hj' (by decide), hf]; rfl
   have dj : decide ((j : Int) < (F.length : Int)) = true := decide_eq_true (by omega)
   have wj : IntKind.i64.wrap ((j : Int) + 1) = (j : Int) + 1 := Z07 _ (by constructor <;> omega)
   have v1 : IntKind.i64.wrap ((usK F j : Int) + 1) = (usK F j : Int) + 1 := Z07 _ (by constructor <;> omega)
   have v2 : IntKind.i64.wrap (f.ln + 1024) = f.ln + 1024 := Z07 _ (by constructor <;> omega)
   have v3 : IntKind.i64.wrap (f.ln + 1024 - 1) = f.ln + 1023 := by rw [Z07 _ (by constructor <;> omega)]; omega
   have v4 : (f.ln + 1023).tdiv 1024 = (hdN f.ln : Int) := by unfold hdN; rw [Int.tdiv_eq_ediv_of_nonneg (by omega)]; omega
   have hb : hdN f.ln ≤ 4194304 := by unfold hdN; omega
   have v5 : IntKind.i64.wrap (hdN f.ln : Int) = (hdN f.ln : Int) := Z07 _ (by constructor <;> omega)
   have v6 : IntKind.i64.wrap ((usK F j : Int) + 1 + (hdN f.ln : Int)) = (usK F (j + 1) : Nat) := by rw [Z07 _ (by constructor <;> omega)]; omega
   refine gxq (cj9 dj wj gl v1 v2 v3 v4 v5 v6) ?_
   refine ⟨by omega, by omega, ⟨⟨j + 1, hj'⟩, by simp only; omega, ?_⟩⟩
   exact Z08.sameA
  ·obtain rfl : j = F.length := by omega
   have dj : decide ((F.length : Int) < (F.length : Int)) = false := decide_eq_false (by omega)
   have eu : usK F F.length = 1 + lvN F.length + ZbT F := by unfold usK; rw [List.take_length]
   have v1 : IntKind.i64.wrap ((S.length : Int) - (usK F F.length : Nat)) = (S.length : Int) - (usK F F.length : Nat) := Z07 _ (by constructor <;> omega)
   have v2 : IntKind.i64.wrap ((S.length : Int) - (usK F F.length : Nat) - (U.count 2 : Nat)) = (S.length : Int) - (usK F F.length : Nat) - (U.count 2 : Nat) := Z07 _ (by constructor <;> omega)
   have dq : decide (((U.count 0 : Nat) : Int) = (S.length : Int) - (usK F F.length : Nat) - (U.count 2 : Nat)) = true := decide_eq_true (by omega)
   refine gxq dj ?_
   refine Z02.drawnK [] smp (by kernel_rfl) (gyq (Zjy h19 p19 r19 g19 h31 p31 r31 g31 v1 v2 dq) ?_)
   refine ⟨⟨by decide, by omega⟩, by decide, ?_⟩
   refine Z0F ?_
   exact Z08.one rfl rfl
end Go.Proofs.YtbnnhffkbcekcaaGreatDoor.dirDone
end
section
namespace Go.Proofs.YtbnnhffkbcekcaaGreatDoor.dirDone
open Go Go.Eng Go.Proofs Go.RowKit
noncomputable def dr0 : Env := noE
theorem Zjl : Z03 Tryz.prog dr0 := ZiY _
noncomputable def dr1 : Env := Z0q dr0 116 S116
theorem Zjk : Z03 Tryz.prog dr1 := Zjl.add (con116 Zjl)
noncomputable def dr2 : Env := Z0q dr1 64 S64
theorem Zjj : Z03 Tryz.prog dr2 := Zjk.add (con64 Zjk rfl)
noncomputable def dr3 : Env := Z0q dr2 113 S113
theorem Zji : Z03 Tryz.prog dr3 := Zjj.add (con113 Zjj rfl)
noncomputable def dr4 : Env := Z0q dr3 31 S31
theorem Zjh : Z03 Tryz.prog dr4 := Zji.add (con31 Zji)
noncomputable def dr5 : Env := Z0q dr4 115 S115
theorem Zjg : Z03 Tryz.prog dr5 := Zjh.add (con115 Zjh)
noncomputable def dr6 : Env := Z0q dr5 62 S62
theorem Zjf : Z03 Tryz.prog dr6 := Zjg.add (con62 Zjg rfl)
noncomputable def dr7 : Env := Z0q dr6 23 S23
theorem Zje : Z03 Tryz.prog dr7 := Zjf.add (con23 Zjf)
noncomputable def dr8 : Env := Z0q dr7 61 S61
theorem Zjd : Z03 Tryz.prog dr8 := Zje.add (con61 Zje rfl)
noncomputable def dr9 : Env := Z0q dr8 90 S90
theorem Zjc : Z03 Tryz.prog dr9 := Zjd.add (con90 Zjd rfl)
noncomputable def dr10 : Env := Z0q dr9 49 S49
theorem Zfe : Z03 Tryz.prog dr10 := Zjc.add (con49 Zjc)
noncomputable def dr11 : Env := Z0q dr10 91 S91
theorem Zfd : Z03 Tryz.prog dr11 := Zfe.add (con91 Zfe)
noncomputable def dr12 : Env := Z0q dr11 92 S92
theorem Zfc : Z03 Tryz.prog dr12 := Zfd.add (con92 Zfd rfl)
noncomputable def dr13 : Env := Z0q dr12 37 S37
theorem Zfb : Z03 Tryz.prog dr13 := Zfc.add (con37 Zfc rfl rfl rfl)
noncomputable def dr14 : Env := Z0q dr13 141 S141
theorem Zfa : Z03 Tryz.prog dr14 := Zfb.add (con141 Zfb)
noncomputable def dr15 : Env := Z0q dr14 79 S79
theorem Zf9 : Z03 Tryz.prog dr15 := Zfa.add (con79 Zfa)
noncomputable def dr16 : Env := Z0q dr15 126 S126
theorem Zf8 : Z03 Tryz.prog dr16 := Zf9.add (con126 Zf9 rfl)
noncomputable def dr17 : Env := Z0q dr16 78 S78
theorem Zf7 : Z03 Tryz.prog dr17 := Zf8.add (con78 Zf8 rfl)
noncomputable def dr18 : Env := Z0q dr17 80 S80
theorem Zf6 : Z03 Tryz.prog dr18 := Zf7.add (con80 Zf7 rfl rfl rfl)
noncomputable def dr19 : Env := Z0q dr18 56 S56
theorem Zf5 : Z03 Tryz.prog dr19 := Zf6.add (con56 Zf6)
noncomputable def dr20 : Env := Z0q dr19 109 S109
theorem ZkY : Z03 Tryz.prog dr20 := Zf5.add (con109 Zf5)
noncomputable def dr21 : Env := Z0q dr20 185 ixS
theorem Zf4 : Z03 Tryz.prog dr21 := ZkY.add (con185)
noncomputable def dr22 : Env := Z0q dr21 178 ixS
theorem Zf3 : Z03 Tryz.prog dr22 := Zf4.add (con178 Zf4 rfl)
noncomputable def dr23 : Env := Z0q dr22 173 S173
theorem Zf2 : Z03 Tryz.prog dr23 := Zf3.add (con173 Zf3 rfl)
noncomputable def dr24 : Env := Z0q dr23 164 S164
theorem Zf1 : Z03 Tryz.prog dr24 := Zf2.add (con164 Zf2 rfl)
noncomputable def dr25 : Env := Z0q dr24 156 S156
theorem Zf0 : Z03 Tryz.prog dr25 := Zf1.add (con156 Zf1 rfl)
noncomputable def dr26 : Env := Z0q dr25 165 S165
theorem ZeZ : Z03 Tryz.prog dr26 := Zf0.add (con165 Zf0)
noncomputable def dr27 : Env := Z0q dr26 166 S166
theorem ZeY : Z03 Tryz.prog dr27 := ZeZ.add (con166 ZeZ)
noncomputable def dr28 : Env := Z0q dr27 157 S157
theorem ZeX : Z03 Tryz.prog dr28 := ZeY.add (con157 ZeY rfl rfl)
noncomputable def dr29 : Env := Z0q dr28 139 S139
theorem ZeW : Z03 Tryz.prog dr29 := ZeX.add (con139 ZeX)
noncomputable def dr30 : Env := Z0q dr29 114 S114
theorem ZeV : Z03 Tryz.prog dr30 := ZeW.add (con114 ZeW rfl rfl rfl rfl rfl rfl rfl)
noncomputable def dr31 : Env := Z0q dr30 55 S55
theorem ZeU : Z03 Tryz.prog dr31 := ZeV.add (con55 ZeV rfl rfl rfl rfl rfl)
noncomputable def dr32 : Env := Z0q dr31 18 S18
theorem ZeT : Z03 Tryz.prog dr32 := ZeU.add (con18 ZeU rfl rfl)
noncomputable def dr33 : Env := Z0q dr32 19 S19
theorem ZeS : Z03 Tryz.prog dr33 := ZeT.add (con19 ZeT)
noncomputable def dr34 : Env := Z0q dr33 33 S33
theorem ZeR : Z03 Tryz.prog dr34 := ZeS.add (con33 ZeS rfl)
noncomputable def dr35 : Env := Z0q dr34 32 S32
theorem ZeQ : Z03 Tryz.prog dr35 := ZeR.add (con32 ZeR rfl)
noncomputable def dr36 : Env := Z0q dr35 29 S29
theorem ZkX : Z03 Tryz.prog dr36 := ZeQ.add (con29 ZeQ)
noncomputable def dr37 : Env := Z0q dr36 154 Z8T
theorem ZeP : Z03 Tryz.prog dr37 := ZkX.add (con154)
noncomputable def dr38 : Env := Z0q dr37 134 Z8T
theorem ZeO : Z03 Tryz.prog dr38 := ZeP.add (con134 ZeP rfl)
noncomputable def dr39 : Env := Z0q dr38 89 Z8T
theorem ZeN : Z03 Tryz.prog dr39 := ZeO.add (con89 ZeO rfl)
noncomputable def dr40 : Env := Z0q dr39 125 S125
theorem ZeM : Z03 Tryz.prog dr40 := ZeN.add (con125 ZeN rfl)
noncomputable def dr41 : Env := Z0q dr40 124 S124
theorem ZeL : Z03 Tryz.prog dr41 := ZeM.add (con124 ZeM rfl)
noncomputable def dr42 : Env := Z0q dr41 77 S77
theorem ZeK : Z03 Tryz.prog dr42 := ZeL.add (con77 ZeL rfl)
noncomputable def dr43 : Env := Z0q dr42 81 S81
theorem ZeJ : Z03 Tryz.prog dr43 := ZeK.add (con81 ZeK)
noncomputable def dr44 : Env := Z0q dr43 82 S82
theorem ZeI : Z03 Tryz.prog dr44 := ZeJ.add (con82 ZeJ rfl)
noncomputable def dr45 : Env := Z0q dr44 129 S129
theorem ZeH : Z03 Tryz.prog dr45 := ZeI.add (con129 ZeI)
noncomputable def dr46 : Env := Z0q dr45 130 S130
theorem ZeG : Z03 Tryz.prog dr46 := ZeH.add (con130 ZeH)
noncomputable def dr47 : Env := Z0q dr46 85 S85
theorem ZeF : Z03 Tryz.prog dr47 := ZeG.add (con85 ZeG rfl rfl rfl rfl rfl rfl rfl rfl)
noncomputable def dr48 : Env := Z0q dr47 83 S83
theorem ZeE : Z03 Tryz.prog dr48 := ZeF.add (con83 ZeF)
noncomputable def dr49 : Env := Z0q dr48 84 S84
theorem ZeD : Z03 Tryz.prog dr49 := ZeE.add (con84 ZeE)
noncomputable def dr50 : Env := Z0q dr49 34 S34
theorem ZeC : Z03 Tryz.prog dr50 := ZeD.add (con34 ZeD rfl rfl rfl rfl rfl rfl rfl rfl rfl)
noncomputable def dr51 : Env := Z0q dr50 95 S95
theorem ZeB : Z03 Tryz.prog dr51 := ZeC.add (con95 ZeC)
noncomputable def dr52 : Env := Z0q dr51 135 S135
theorem ZeA : Z03 Tryz.prog dr52 := ZeB.add (con135 ZeB)
noncomputable def dr53 : Env := Z0q dr52 94 S94
theorem Zez : Z03 Tryz.prog dr53 := ZeA.add (con94 ZeA rfl)
noncomputable def dr54 : Env := Z0q dr53 105 S105
theorem Zey : Z03 Tryz.prog dr54 := Zez.add (con105 Zez)
noncomputable def dr55 : Env := Z0q dr54 51 S51
theorem Zex : Z03 Tryz.prog dr55 := Zey.add (con51 Zey rfl)
noncomputable def dr56 : Env := Z0q dr55 106 S106
theorem Zew : Z03 Tryz.prog dr56 := Zex.add (con106 Zex)
noncomputable def dr57 : Env := Z0q dr56 107 S107
theorem Zev : Z03 Tryz.prog dr57 := Zew.add (con107 Zew)
noncomputable def dr58 : Env := Z0q dr57 110 S110
theorem Zeu : Z03 Tryz.prog dr58 := Zev.add (con110 Zev)
noncomputable def dr59 : Env := Z0q dr58 111 S111
theorem Zet : Z03 Tryz.prog dr59 := Zeu.add (con111 Zeu)
noncomputable def dr60 : Env := Z0q dr59 108 S108
theorem Zes : Z03 Tryz.prog dr60 := Zet.add (con108 Zet)
noncomputable def dr61 : Env := Z0q dr60 136 S136
theorem Zer : Z03 Tryz.prog dr61 := Zes.add (con136 Zes)
noncomputable def dr62 : Env := Z0q dr61 96 S96
theorem Zeq : Z03 Tryz.prog dr62 := Zer.add (con96 Zer rfl)
noncomputable def dr63 : Env := Z0q dr62 99 S99
theorem Zep : Z03 Tryz.prog dr63 := Zeq.add (con99 Zeq)
noncomputable def dr64 : Env := Z0q dr63 76 S76
theorem Zeo : Z03 Tryz.prog dr64 := Zep.add (con76 Zep)
noncomputable def dr65 : Env := Z0q dr64 71 S71
theorem Zen : Z03 Tryz.prog dr65 := Zeo.add (con71 Zeo)
noncomputable def dr66 : Env := Z0q dr65 72 S72
theorem Zem : Z03 Tryz.prog dr66 := Zen.add (con72 Zen)
noncomputable def dr67 : Env := Z0q dr66 120 S120
theorem Zel : Z03 Tryz.prog dr67 := Zem.add (con120 Zem)
noncomputable def dr68 : Env := Z0q dr67 98 S98
theorem Zek : Z03 Tryz.prog dr68 := Zel.add (con98 Zel rfl rfl rfl rfl)
noncomputable def dr69 : Env := Z0q dr68 137 S137
theorem Zej : Z03 Tryz.prog dr69 := Zek.add (con137 Zek rfl rfl)
noncomputable def dr70 : Env := Z0q dr69 97 S97
theorem Zei : Z03 Tryz.prog dr70 := Zej.add (con97 Zej rfl rfl rfl rfl)
noncomputable def dr71 : Env := Z0q dr70 43 S43
theorem Zeh : Z03 Tryz.prog dr71 := Zei.add (con43 Zei rfl rfl rfl rfl rfl rfl)
noncomputable def dr72 : Env := Z0q dr71 103 S103
theorem Zeg : Z03 Tryz.prog dr72 := Zeh.add (con103 Zeh)
noncomputable def dr73 : Env := Z0q dr72 52 S52
theorem Zef : Z03 Tryz.prog dr73 := Zeg.add (con52 Zeg rfl rfl rfl rfl)
noncomputable def dr74 : Env := Z0q dr73 121 S121
theorem Zee : Z03 Tryz.prog dr74 := Zef.add (con121 Zef rfl rfl rfl)
noncomputable def dr75 : Env := Z0q dr74 122 S122
theorem Zed : Z03 Tryz.prog dr75 := Zee.add (con122 Zee rfl rfl rfl rfl rfl rfl)
noncomputable def dr76 : Env := Z0q dr75 68 S68
theorem Zec : Z03 Tryz.prog dr76 := Zed.add (con68 Zed rfl rfl rfl rfl rfl rfl)
noncomputable def dr77 : Env := Z0q dr76 25 S25
theorem Zeb : Z03 Tryz.prog dr77 := Zec.add (con25 Zec rfl rfl rfl rfl)
noncomputable def dr78 : Env := Z0q dr77 26 S26
theorem Zea : Z03 Tryz.prog dr78 := Zeb.add (con26 Zeb rfl rfl rfl rfl rfl rfl)
noncomputable def dr79 : Env := Z0q dr78 119 S119
theorem Ze9 : Z03 Tryz.prog dr79 := Zea.add (con119 Zea rfl rfl)
noncomputable def dr80 : Env := Z0q dr79 118 S118
theorem Ze8 : Z03 Tryz.prog dr80 := Ze9.add (con118 Ze9)
noncomputable def dr81 : Env := Z0q dr80 74 S74
theorem Ze7 : Z03 Tryz.prog dr81 := Ze8.add (con74 Ze8 rfl rfl rfl rfl)
noncomputable def dr82 : Env := Z0q dr81 75 S75
theorem Ze6 : Z03 Tryz.prog dr82 := Ze7.add (con75 Ze7 rfl rfl rfl rfl)
noncomputable def dr83 : Env := Z0q dr82 67 S67
theorem Ze5 : Z03 Tryz.prog dr83 := Ze6.add (con67 Ze6 rfl rfl rfl rfl rfl rfl rfl rfl rfl)
noncomputable def dr84 : Env := Z0q dr83 30 S30
theorem Ze4 : Z03 Tryz.prog dr84 := Ze5.add (con30 Ze5 rfl)
noncomputable def dr85 : Env := Z0q dr84 73 S73
theorem Ze3 : Z03 Tryz.prog dr85 := Ze4.add (con73 Ze4 rfl)
noncomputable def dr86 : Env := Z0q dr85 123 S123
theorem Ze2 : Z03 Tryz.prog dr86 := Ze3.add (con123 Ze3)
noncomputable def dr87 : Env := Z0q dr86 69 S69
theorem Ze1 : Z03 Tryz.prog dr87 := Ze2.add (con69 Ze2 rfl rfl rfl rfl rfl)
noncomputable def dr88 : Env := Z0q dr87 70 S70
theorem Ze0 : Z03 Tryz.prog dr88 := Ze1.add (con70 Ze1 rfl rfl rfl rfl rfl)
noncomputable def dr89 : Env := Z0q dr88 131 S131
theorem ZdZ : Z03 Tryz.prog dr89 := Ze0.add (con131 Ze0)
noncomputable def dr90 : Env := Z0q dr89 86 S86
theorem ZdY : Z03 Tryz.prog dr90 := ZdZ.add (con86 ZdZ rfl)
noncomputable def dr91 : Env := Z0q dr90 35 S35
theorem ZkW : Z03 Tryz.prog dr91 := ZdY.add (con35 ZdY rfl rfl rfl)
noncomputable def dr92 : Env := Z0q dr91 87 Z5U
theorem ZdX : Z03 Tryz.prog dr92 := ZkW.add (con87)
noncomputable def dr93 : Env := Z0q dr92 36 S36
theorem ZdW : Z03 Tryz.prog dr93 := ZdX.add (con36 ZdX rfl rfl rfl rfl rfl)
noncomputable def dr94 : Env := Z0q dr93 27 S27
theorem ZkV : Z03 Tryz.prog dr94 := ZdW.add (con27 ZdW rfl rfl rfl rfl rfl rfl rfl rfl rfl rfl rfl rfl rfl rfl rfl)
noncomputable abbrev drE : Env := dr94
theorem ZmS : Z03 Tryz.prog drE := ZkV
end Go.Proofs.YtbnnhffkbcekcaaGreatDoor.dirDone
end
