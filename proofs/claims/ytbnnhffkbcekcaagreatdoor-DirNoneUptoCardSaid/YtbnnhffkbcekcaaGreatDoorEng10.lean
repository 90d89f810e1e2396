/- The engine, part 10: guards, calls by contract, regions, code, loops, a function's contract. -/
import Derived.Test.YtbnnhffkbcekcaaGreatDoorEng9F
namespace Go.Eng
open Go
set_option linter.unusedVariables false
set_option linter.unusedSimpArgs false

/-- what a function does: what is asked of its arguments (and the heap), what it hands back, what becomes of the heap -/
structure FSpec where
  pre : List AV → Heap → Prop
  res : List AV → Heap → AV
  post : List AV → Heap → Heap
  quiet : Bool

structure Con (P : Program) (f : FuncId) (sp : FSpec) : Prop where
  quiet : sp.quiet = true → ∀ xs L, sp.post xs L = L
  runs : ((∃ fn, P.funcs[f]? = some fn ∧ fn.body.isNone = false ∧ (fn.name == "runtime.NumGoroutine") = false) ∧
      ∀ (m : Mem) (L : Heap) (w : World) (xs : List AV) (vs : List Value), WRel m L w → CRel m L xs vs → sp.pre xs L →
        Calls P f vs.toArray w fun e w' => ∃ v m', e = .returned v ∧ VRel m' (sp.post xs L) (sp.res xs L) v ∧ WRel m' (sp.post xs L) w' ∧ Ext m L w m' (sp.post xs L) w') ∨
    ∀ (m : Mem) (L : Heap) (w : World) (xs : List AV) (vs : List Value), WRel m L w → CRel m L xs vs → sp.pre xs L →
      ∃ v, (callFunc f vs.toArray).run P w = .ok (.value v) w ∧ VRel m L (sp.res xs L) v ∧ sp.post xs L = L

abbrev Env := FuncId → Option FSpec
def EnvOk (P : Program) (Γ : Env) : Prop := ∀ f sp, Γ f = some sp → Con P f sp

def guardC (all : List Oper) (fr : List AV) : Option (Nat × Bool) → Bool
  | none => true
  | some (j, want) => match (all[j]?).bind (·.dst) with
    | some d => match fr.getD d .any with
      | .bool b => b == want
      | .when c (.bool b) => c && (b == want)
      | _ => false
    | none => false
def guardOk (all : List Oper) (fr : List AV) : Option (Nat × Bool) → Prop
  | none => True
  | some (j, _) => match (all[j]?).bind (·.dst) with
    | some d => match fr.getD d .any with
      | .bool _ => True
      | .when _ (.bool _) => True
      | _ => False
    | none => False

def callR (Γ : Env) (c : Bool) (fr : List AV) (L : Heap) (f : Operand) (args : List Operand) : Rz :=
  match (opd fr f).bare with
  | .fn (.func g) first captured => match Γ g with
    | some sp => ⟨need c (opd fr f) ∧ needAll c (args.map (opd fr)) ∧ (c = true → sp.pre (first ++ args.map (fun x => (opd fr x).bare) ++ captured) L),
        sp.res (first ++ args.map (fun x => (opd fr x).bare) ++ captured) L, cond c (sp.post (first ++ args.map (fun x => (opd fr x).bare) ++ captured) L) L⟩
    | none => bad L
  | _ => bad L

noncomputable def stepR (P : Program) (Γ : Env) (c : Bool) (fr : List AV) (L : Heap) : Op → Rz
  | .call { callee := .value f, args := args, argTypes := _ } => callR Γ c fr L f args.toList
  | op => ev P c fr L op

/-- a slice literal that is laid behind another slice, as one that is only read -/
noncomputable def stepA (P : Program) (Γ : Env) (all : List Oper) (c : Bool) (fr : List AV) (L : Heap) (o : Oper) : Rz :=
  match lentB all o, o.op with
  | true, .buildSlice t len parts => (roSliceR P c L t len (partsA fr parts)).also (needAll c (parts.toList.map fun p => opd fr p.2))
  | _, op => stepR P Γ c fr L op
theorem stepA_cases (P : Program) (Γ : Env) (all : List Oper) (o : Oper) : (∀ c fr L, stepA P Γ all c fr L o = stepR P Γ c fr L o.op) ∨
    ∃ t len parts, o.op = .buildSlice t len parts ∧ ∀ c fr L, stepA P Γ all c fr L o = (roSliceR P c L t len (partsA fr parts)).also (needAll c (parts.toList.map fun p => opd fr p.2)) := by
  obtain ⟨dst, op, ty, pos, after, guard⟩ := o
  cases hl : lentB all ⟨dst, op, ty, pos, after, guard⟩ with
  | false => left; intro c fr L; simp only [stepA, hl]
  | true =>
    cases op <;> first
      | (left; intro c fr L; simp only [stepA, hl]; done)
      | (right; exact ⟨_, _, _, rfl, fun c fr L => by simp only [stepA, hl]⟩)

def mkV : Option (Nat × Bool) → Bool → AV → AV
  | none, _, v => v
  | some _, c, v => .when c v
def putA (fr : List AV) : Option Tmp → AV → List AV
  | none, _ => fr
  | some d, v => fr.set d v

def evOps (P : Program) (Γ : Env) (all : List Oper) : List Oper → List AV → Heap → (List AV → Heap → Prop) → Prop
  | [], fr, L, K => K fr L
  | o :: r, fr, L, K =>
    guardOk all fr o.guard ∧ (stepA P Γ all (guardC all fr o.guard) fr L o).pre ∧
      evOps P Γ all r (putA fr o.dst (mkV o.guard (guardC all fr o.guard) (stepA P Γ all (guardC all fr o.guard) fr L o).v)) (stepA P Γ all (guardC all fr o.guard) fr L o).L K

section
variable {P : Program} {Γ : Env} {m : Mem} {L : Heap} {w : World}

theorem guard_wanted {fr : List AV} {a : Act} (h : CRel m L fr a.tmps.toList) (ops : Array Oper) (o : Oper) (hg : guardOk ops.toList fr o.guard) :
    Region.wanted o (yielded ops a.tmps) = guardC ops.toList fr o.guard := by
  unfold Region.wanted guardC
  cases hgd : o.guard with
  | none => rfl
  | some q =>
    obtain ⟨j, want⟩ := q
    rw [hgd] at hg
    simp only [guardOk] at hg
    have e : (ops.toList[j]?).bind (·.dst) = (ops[j]?).bind (·.dst) := by simp
    simp only [yielded]
    rw [e] at hg ⊢
    cases hd : (ops[j]?).bind (·.dst) with
    | none => rw [hd] at hg; exact hg.elim
    | some d =>
      rw [hd] at hg
      simp only at hg ⊢
      have hr := h.getD d
      have hlen := h.length
      have hdlt : d < fr.length := by
        rcases Nat.lt_or_ge d fr.length with h' | h'
        · exact h'
        · simp [List.getD, List.getElem?_eq_none h'] at hg
      have hget : a.tmps[d]? = some (a.tmps.toList.getD d undef) := by
        have h2 : d < a.tmps.size := by rw [← Array.length_toList, hlen]; exact hdlt
        simp [List.getD, h2]
      simp only [Option.bind_some, hget]
      split at hg
      · rename_i b hb
        rw [hb] at hr
        simp only [VRel] at hr
        rw [hr]
        simp
      · rename_i c b hb
        rw [hb] at hr
        simp only [VRel] at hr
        cases c with
        | true =>
          rw [hr.1 rfl]
          simp
        | false =>
          rw [hr.2 rfl]
          simp [undef]
      · exact hg.elim

/-- where the operation is not carried out, the heap is left alone -/
theorem stepR_false (hΓ : EnvOk P Γ) (fr : List AV) (op : Op) (hp : (stepR P Γ false fr L op).pre) : (stepR P Γ false fr L op).L = L := by
  have hb : ∀ L : Heap, (bad L).L = L := fun _ => rfl
  cases op <;> try (first | rfl | exact hp.elim)
  case pick q x y => simp only [stepR, ev, pickR]; split <;> rfl
  case binOp op t x y yt =>
    simp only [stepR, ev, Rz.also, binR]
    split
    · cases op <;> rfl
    · cases op <;> rfl
    · split <;> rfl
    · split
      · simp only [eqAgg]; repeat' split
        all_goals rfl
      · simp only [eqAgg]; repeat' split
        all_goals rfl
      · rfl
    · split
      · simp only [nilR]; split <;> rfl
      · simp only [nilR]; split <;> rfl
      · rfl
    · rfl
  case unOp op t x => simp only [stepR, ev, Rz.also, unR]; split <;> rfl
  case convert s d x =>
    simp only [stepR, ev, Rz.also, convR] at *
    split
    · split <;> rfl
    · rename_i l heq
      rw [heq] at hp
      simp only at hp
      split <;> rename_i hd <;> simp only [hd] at hp ⊢ <;> simp at hp
    all_goals first | rfl | (split <;> rfl)
  case index t x i =>
    simp only [stepR, ev, Rz.also, indexR]
    split
    · rfl
    · split <;> rfl
    · rfl
  case indexAddr t x i => simp only [stepR, ev, Rz.also, indexAddrR]; split <;> first | rfl | (split <;> rfl)
  case load t x => simp only [stepR, ev, Rz.also, loadR]; split <;> rfl
  case store t x y => simp only [stepR, ev, Rz.also, storeR] at *; split at hp <;> simp_all
  case alloc t => simp only [stepR, ev, allocR] at hp; split at hp <;> simp at hp
  case box t x => simp [stepR, ev, Rz.also, boxR] at hp
  case build t parts =>
    simp only [stepR, ev, Rz.also, buildR]
    split
    · split <;> rfl
    · split <;> rfl
    · rfl
  case buildSlice t len parts =>
    simp only [stepR, ev, Rz.also, buildSliceR] at *
    split at hp
    · split at hp <;> simp_all
    · simp_all
  case field t x f =>
    simp only [stepR, ev, Rz.also, fieldR]
    split
    · split <;> rfl
    · rfl
  case fieldAddr t x f =>
    simp only [stepR, ev, Rz.also, fieldAddrR]
    split
    · split
      · split <;> rfl
      · rfl
    · rfl
  case extract x i => simp only [stepR, ev, Rz.also, extractR]; split <;> rfl
  case slice t x lo hi mx =>
    simp only [stepR, ev, Rz.also, sliceR]
    split
    · split <;> rfl
    · split <;> rfl
    · repeat' split
      all_goals rfl
    · split <;> rfl
    · rfl
  case sliceToArrayPointer t x => simp only [stepR, ev, Rz.also, arrPtrR]; split <;> rfl
  case makeMap t r =>
    simp only [stepR, ev, Rz.also, makeMapR] at *
    repeat' split at hp
    all_goals simp_all
  case insert t x k v =>
    simp only [stepR, ev, Rz.also, mapPutR] at *
    repeat' split at hp
    all_goals simp_all
  case mapUpdate t x k v =>
    simp only [stepR, ev, Rz.also, mapPutR] at *
    repeat' split at hp
    all_goals simp_all
  case lookup t x k ok =>
    simp only [stepR, ev, Rz.also, lookR]
    repeat' split
    all_goals rfl
  case range t x => simp only [stepR, ev, Rz.also, rangeR] at *; split at hp <;> simp_all
  case next x b =>
    simp only [stepR, ev, Rz.also, nextR] at *
    split at hp
    · split at hp <;> simp_all
    · simp_all
  case nilCheck x => simp only [stepR, ev, Rz.also, nilCheckR]; split <;> rfl
  case makeSlice t l k => simp only [stepR, ev, Rz.also, makeSliceR] at *; split at hp <;> simp_all
  case call c =>
    obtain ⟨callee, args, ts⟩ := c
    cases callee with
    | value f =>
      simp only [stepR, callR] at *
      split at hp
      · rename_i g a b hf
        split at hp
        · rename_i sp hsp
          simp only [hf, hsp]
          rfl
        · exact hp.elim
      · exact hp.elim
    | invoke r n => exact hp.elim
    | builtin b =>
      simp only [stepR, ev, builtinR] at *
      split at hp
      · simp only [Rz.also, lenR]; repeat' split
        all_goals rfl
      · simp only [Rz.also, minR]; split <;> rfl
      · simp only [Rz.also, minR]; split <;> rfl
      · simp only [Rz.also, appR] at *
        split at hp
        · simp only [zerosR] at *
          split at hp <;> simp_all
        · simp only [appendR] at *
          split at hp
          · split at hp <;> simp_all
          · simp_all
      · simp only [Rz.also, copyR] at *
        split at hp <;> simp_all
      · simp only [Rz.also, mapDelR] at *
        split at hp
        · split at hp <;> simp_all
        · simp_all
      · exact hp.elim

theorem put_rel {fr : List AV} {a : Act} (h : CRel m L fr a.tmps.toList) (dst : Option Tmp) {x : AV} {v : Value} (hr : VRel m L x v) : CRel m L (putA fr dst x) (a.put dst v).tmps.toList := by
  cases dst with
  | none => exact h
  | some d =>
    simp only [putA, Act.put, Array.toList_setIfInBounds]
    exact h.set d hr

theorem stepA_false (hΓ : EnvOk P Γ) (all : List Oper) (fr : List AV) (o : Oper) (hp : (stepA P Γ all false fr L o).pre) : (stepA P Γ all false fr L o).L = L := by
  rcases stepA_cases P Γ all o with hst | ⟨t, len, parts, hop, hst⟩
  · rw [hst] at hp ⊢; exact stepR_false hΓ fr o.op hp
  · rw [hst]
    simp only [Rz.also, roSliceR]
    split
    · split <;> rfl
    · rfl
theorem step_sound (hΓ : EnvOk P Γ) (hW : WRel m L w) {fr : List AV} {a : Act} (h : CRel m L fr a.tmps.toList) (ops : Array Oper) (o : Oper) {next : Act → World → Prop} {Q : Exit → Act → World → Prop}
    (hg : guardOk ops.toList fr o.guard) (hp : (stepA P Γ ops.toList (guardC ops.toList fr o.guard) fr L o).pre)
    (hK : ∀ a' w' m', WRel m' (stepA P Γ ops.toList (guardC ops.toList fr o.guard) fr L o).L w' →
      CRel m' (stepA P Γ ops.toList (guardC ops.toList fr o.guard) fr L o).L (putA fr o.dst (mkV o.guard (guardC ops.toList fr o.guard) (stepA P Γ ops.toList (guardC ops.toList fr o.guard) fr L o).v)) a'.tmps.toList →
      Ext m L w m' (stepA P Γ ops.toList (guardC ops.toList fr o.guard) fr L o).L w' → a'.defers = a.defers → next a' w') :
    if Region.wanted o (yielded ops a.tmps) then o.wp P a w next Q else next (a.put o.dst undef) w := by
  rw [guard_wanted h ops o hg]
  cases hc : guardC ops.toList fr o.guard with
  | false =>
    rw [hc] at hp hK
    have hL := stepA_false hΓ ops.toList fr o hp
    rw [hL] at hK
    simp only [Bool.false_eq_true, if_false]
    refine hK _ w m hW ?_ Ext.refl (by cases o.dst <;> rfl)
    refine put_rel h o.dst ?_
    cases hgd : o.guard with
    | none => rw [hgd] at hc; simp [guardC] at hc
    | some q => simp [mkV, VRel]
  | true =>
    rw [hc] at hp hK
    simp only [if_true]
    have hmk : ∀ m' L' x v, VRel m' L' x v → VRel m' L' (mkV o.guard true x) v := by
      intro m' L' x v hv
      cases o.guard with
      | none => exact hv
      | some q => simp only [mkV, VRel]; exact ⟨fun _ => hv, fun h => by cases h⟩
    rcases stepA_cases P Γ ops.toList o with hst | ⟨t, len, parts, hop, hst⟩
    case inr =>
      simp only [hst] at hp hK
      have hS : Sound P m L w ((roSliceR P true L t len (partsA fr parts)).also (needAll true (parts.toList.map fun p => opd fr p.2))) (execOp a.eval o) := by
        obtain ⟨dst, op, ty, pos, after, guard⟩ := o
        simp only at hop
        subst hop
        exact Sound.also fun h1 => roSlice_sound hW t len (parts_rel h parts h1).1 (parts_rel h parts h1).2
      obtain ⟨n, w', m', hrun, hres, hW', hE⟩ := hS hp
      have hmono := CRel.mono hE.mono _ _ h
      unfold Oper.wp
      rw [hrun]
      rcases hres with ⟨u, rfl, hv⟩ | ⟨rfl, hv⟩
      · simp only [Oper.upon]
        exact hK _ w' m' hW' (put_rel hmono o.dst (hmk _ _ _ _ hv)) hE (by cases o.dst <;> rfl)
      · simp only [Oper.upon]
        refine hK _ w' m' hW' (put_rel hmono o.dst (hmk _ _ _ _ ?_)) hE (by cases o.dst <;> rfl)
        rw [hv]; simp [VRel]
    simp only [hst] at hp hK
    by_cases hcall : ∃ f args ts, o.op = .call { callee := .value f, args := args, argTypes := ts }
    · obtain ⟨f, args, ts, ho⟩ := hcall
      rw [ho] at hp hK
      simp only [stepR, callR] at hp hK
      split at hp
      · rename_i g first captured hf
        rw [hf] at hK
        simp only at hK
        split at hp
        · rename_i sp hsp
          rw [hsp] at hK
          simp only at hK
          obtain ⟨hn1, hn2, hpre⟩ := hp
          simp only [cond_true] at hK
          have hcon := hΓ g sp hsp
          have hfv := bare_rel (opd_rel h f) (hn1 rfl)
          rw [hf] at hfv
          simp only [VRel] at hfv
          obtain ⟨us, vs, hfe, hu1, hu2⟩ := hfv
          have hargs := needAll_rel h args.toList hn2
          have hall := (hu1.append hargs).append hu2
          rcases hcon.runs.symm with hext | ⟨⟨fn, hfn, hbody, hname⟩, hcl⟩
          · obtain ⟨v, hr, hv, hpo⟩ := hext m L w _ _ hW hall (hpre trivial)
            have hrun : (execOp a.eval o).run P w = .ok (.value v) w := by
              have e : args.map a.eval = (args.toList.map a.eval).toArray := by apply Array.ext'; simp
              rw [List.append_assoc] at hr
              simp [execOp, ho, resolve, hfe, Deferred.ofValue, invoke, e, hr]
            unfold Oper.wp
            rw [hrun]
            simp only [Oper.upon]
            rw [hpo] at hK
            exact hK _ w m hW (put_rel h o.dst (hmk _ _ _ _ hv)) Ext.refl (by cases o.dst <;> rfl)
          have hcalls := hcl m L w _ _ hW hall (hpre trivial)
          have hname' : fn.name ≠ "runtime.NumGoroutine" := by simpa using hname
          have hbody' : fn.body ≠ none := by intro h; simp [h] at hbody
          have hrun : (execOp a.eval o).run P w = .ok (.enter g (us ++ args.toList.map a.eval ++ vs).toArray) w := by
            have e : args.map a.eval = (args.toList.map a.eval).toArray := by apply Array.ext'; simp
            simp [execOp, ho, resolve, hfe, Deferred.ofValue, invoke, callFunc, hfn, hbody', hname', e]
          unfold Oper.wp
          rw [hrun]
          simp only [Oper.upon]
          refine hcalls.mono ?_
          rintro e w' ⟨v, m', rfl, h1, h2, h3⟩
          refine hK _ w' m' h2 (put_rel (CRel.mono h3.mono _ _ h) o.dst (hmk _ _ _ _ h1)) h3 (by cases o.dst <;> rfl)
        · exact hp.elim
      · exact hp.elim
    · have hst : stepR P Γ true fr L o.op = ev P true fr L o.op := by
        unfold stepR
        split
        · rename_i f args ts heq; exact absurd ⟨f, args, ts, heq⟩ hcall
        · rfl
      rw [hst] at hp hK
      obtain ⟨n, w', m', hrun, hres, hW', hE⟩ := ev_sound (P := P) hW h o hp
      have hmono := CRel.mono hE.mono _ _ h
      unfold Oper.wp
      rw [hrun]
      rcases hres with ⟨u, rfl, hv⟩ | ⟨rfl, hv⟩
      · simp only [Oper.upon]
        exact hK _ w' m' hW' (put_rel hmono o.dst (hmk _ _ _ _ hv)) hE (by cases o.dst <;> rfl)
      · simp only [Oper.upon]
        refine hK _ w' m' hW' (put_rel hmono o.dst (hmk _ _ _ _ ?_)) hE (by cases o.dst <;> rfl)
        rw [hv]; simp [VRel]

theorem evOps_sound (hΓ : EnvOk P Γ) {B : Base} (ops : Array Oper) {K : List AV → Heap → Prop} {Q : Exit → Act → World → Prop} (hK : ∀ fr L m a w, K fr L → RS B fr L m a w → Q .normal a w) :
    ∀ (l : List Oper) (fr : List AV) (L : Heap) (m : Mem) (a : Act) (w : World), evOps P Γ ops.toList l fr L K → RS B fr L m a w → wpList P ops Q l a w
  | [], fr, L, m, a, w, h, hR => hK fr L m a w h hR
  | o :: l, fr, L, m, a, w, h, hR => by
    obtain ⟨h1, h2, h3⟩ := h
    have := step_sound (P := P) (Γ := Γ) hΓ hR.wrel hR.frel ops o (next := wpList P ops Q l) (Q := Q) h1 h2 fun a' w' m' k1 k2 k3 k4 =>
      evOps_sound hΓ ops hK l _ _ m' a' w' h3 ⟨k1, k2, hR.ext.trans k3, by rw [k4, hR.defers]⟩
    unfold wpList
    split
    · rename_i hw; rw [if_pos hw] at this; exact .inl this
    · rename_i hw; rw [if_neg hw] at this; exact this

end

/-! ### Code -/

inductive It where
  | code (c : Code)
  | blk (id : Nat)
  | chk (I : List AV → Heap → Prop)

def W (P : Program) (B : Base) (Q : Exit → Act → World → Prop) : List It → Exit → Act → World → Prop
  | [], e => Q e
  | .code c :: k, .normal => c.wp P (W P B Q k)
  | .code _ :: k, e => W P B Q k e
  | .blk id :: k, .exit i => if i = id then W P B Q k .normal else W P B Q k (.exit i)
  | .blk _ :: k, e => W P B Q k e
  | .chk I :: _, .normal => fun a w => ∃ fr L m, I fr L ∧ RS B fr L m a w
  | .chk _ :: k, e => W P B Q k e

structure Cx where
  P : Program
  Γ : Env
  ok : EnvOk P Γ
  B : Base
  Q : Exit → Act → World → Prop
  fin : List AV → Heap → Prop
  hfin : ∀ fr L m a w, fin fr L → RS B fr L m a w → Q .normal a w ∧ Q .ret a w
  ng : ∀ l a w, ¬ Q (.goto l) a w

def Holds (X : Cx) (todo : List It) (fr : List AV) (L : Heap) : Prop := ∀ m a w, RS X.B fr L m a w → W X.P X.B X.Q todo .normal a w

def popTo (id : Nat) : List It → List It
  | [] => []
  | .blk i :: k => if id = i then k else popTo id k
  | _ :: k => popTo id k
def hasBlk (id : Nat) : List It → Bool
  | [] => false
  | .blk i :: k => id == i || hasBlk id k
  | _ :: k => hasBlk id k

/-- a fork -/
def exB (E : List It → Prop) (b : Bool) (t1 t2 : List It) : Prop := (b = true → E t1) ∧ (b = false → E t2)
theorem exB_true (E : List It → Prop) (t1 t2 : List It) : exB E true t1 t2 = E t1 := by simp [exB]
theorem exB_false (E : List It → Prop) (t1 t2 : List It) : exB E false t1 t2 = E t2 := by simp [exB]
theorem exB_split {E : List It → Prop} {b : Bool} {t1 t2 : List It} (h1 : b = true → E t1) (h2 : b = false → E t2) : exB E b t1 t2 := ⟨h1, h2⟩

/-- a fork on what is not known -/
def exU (E : List It → Prop) (p q : Prop) (t1 t2 : List It) : Prop := (p → E t1) ∧ (q → E t2)

def ex (X : Cx) : Nat → List It → List AV → Heap → Prop
  | 0, todo, fr, L => Holds X todo fr L
  | _ + 1, [], fr, L => X.fin fr L
  | n + 1, .code .skip :: k, fr, L => ex X n k fr L
  | n + 1, .code (.label _) :: k, fr, L => ex X n k fr L
  | n + 1, .code (.seq a b) :: k, fr, L => ex X n (.code a :: .code b :: k) fr L
  | n + 1, .code (.cond q x y) :: k, fr, L => match opd fr q with
    | .bool b => exB (fun t => ex X n t fr L) b (.code x :: k) (.code y :: k)
    | .ub p q => exU (fun t => ex X n t fr L) p q (.code x :: k) (.code y :: k)
    | _ => False
  | n + 1, .code (.block id b) :: k, fr, L => ex X n (.code b :: .blk id :: k) fr L
  | n + 1, .code (.exit id) :: k, fr, L => hasBlk id k = true ∧ ex X n (popTo id k) fr L
  | _ + 1, .code .ret :: _, fr, L => X.fin fr L
  | n + 1, .code (.region _ ops false) :: k, fr, L => evOps X.P X.Γ ops.toList ops.toList fr L (ex X n k)
  | n + 1, .code (.scope b) :: k, fr, L => ex X n (.code b :: k) fr L
  | _ + 1, .code c :: k, fr, L => Holds X (.code c :: k) fr L
  | n + 1, .blk _ :: k, fr, L => ex X n k fr L
  | _ + 1, .chk I :: _, fr, L => I fr L

theorem W_ret {P : Program} {B : Base} {Q : Exit → Act → World → Prop} : ∀ k : List It, W P B Q k .ret = Q .ret
  | [] => rfl
  | .code _ :: k => by simp only [W]; exact W_ret k
  | .blk _ :: k => by simp only [W]; exact W_ret k
  | .chk _ :: k => by simp only [W]; exact W_ret k

theorem W_goto {P : Program} {B : Base} {Q : Exit → Act → World → Prop} (l : Nat) : ∀ k : List It, W P B Q k (.goto l) = Q (.goto l)
  | [] => rfl
  | .code _ :: k => by simp only [W]; exact W_goto l k
  | .blk _ :: k => by simp only [W]; exact W_goto l k
  | .chk _ :: k => by simp only [W]; exact W_goto l k

theorem W_exit {P : Program} {B : Base} {Q : Exit → Act → World → Prop} (id : Nat) : ∀ k : List It, hasBlk id k = true → W P B Q k (.exit id) = W P B Q (popTo id k) .normal
  | [], h => by simp [hasBlk] at h
  | .code _ :: k, h => by simp only [W, popTo]; exact W_exit id k (by simpa [hasBlk] using h)
  | .chk _ :: k, h => by simp only [W, popTo]; exact W_exit id k (by simpa [hasBlk] using h)
  | .blk i :: k, h => by
    simp only [W, popTo]
    by_cases hi : id = i
    · simp [hi]
    · simp only [hi, if_false]
      exact W_exit id k (by simpa [hasBlk, hi] using h)

theorem holds_of_ex (X : Cx) : ∀ (n : Nat) (todo : List It) (fr : List AV) (L : Heap), ex X n todo fr L → Holds X todo fr L
  | 0, _, _, _, h => h
  | n + 1, [], fr, L, h => fun m a w hR => (X.hfin fr L m a w h hR).1
  | n + 1, .blk _ :: k, fr, L, h => fun m a w hR => by simp only [W]; exact holds_of_ex X n k fr L h m a w hR
  | n + 1, .chk I :: k, fr, L, h => fun m a w hR => by simp only [W]; exact ⟨fr, L, m, h, hR⟩
  | n + 1, .code c :: k, fr, L, h => by
    cases c with
    | skip => exact fun m a w hR => by simp only [W]; exact wp_skip (holds_of_ex X n k fr L h m a w hR)
    | label l => exact fun m a w hR => by simp only [W]; exact wp_label (holds_of_ex X n k fr L h m a w hR)
    | seq x y =>
      intro m a w hR
      have := holds_of_ex X n (.code x :: .code y :: k) fr L h m a w hR
      simp only [W] at this ⊢
      refine wp_seq (Go.wp_mono this fun e a' w' q => ?_)
      cases e <;> simp only [W, Exit.then] at * <;> exact q
    | cond q x y =>
      simp only [ex] at h
      split at h
      · rename_i b hb
        intro m a w hR
        have hq := opd_rel hR.frel q
        rw [hb] at hq
        simp only [VRel] at hq
        simp only [W]
        refine wp_cond_split hq (fun ht => ?_) (fun ht => ?_)
        · have := holds_of_ex X n _ fr L (h.1 ht) m a w hR; simpa only [W] using this
        · have := holds_of_ex X n _ fr L (h.2 ht) m a w hR; simpa only [W] using this
      · rename_i p q' hb
        intro m a w hR
        have hq := opd_rel hR.frel q
        rw [hb] at hq
        simp only [VRel] at hq
        obtain ⟨b, hq, hp1, hp2⟩ := hq
        simp only [W]
        refine wp_cond_split hq (fun ht => ?_) (fun ht => ?_)
        · have := holds_of_ex X n _ fr L (h.1 (hp1 ht)) m a w hR; simpa only [W] using this
        · have := holds_of_ex X n _ fr L (h.2 (hp2 ht)) m a w hR; simpa only [W] using this
      · exact h.elim
    | block id b =>
      intro m a w hR
      have := holds_of_ex X n (.code b :: .blk id :: k) fr L h m a w hR
      simp only [W] at this ⊢
      refine wp_block (Go.wp_mono this fun e a' w' q => ?_)
      cases e <;> simp only [W, Exit.inBlock] at * <;> first | exact q | (split <;> rename_i hid <;> simp only [hid, if_true, if_false] at q <;> exact q)
    | exit id =>
      intro m a w hR
      obtain ⟨h1, h2⟩ := h
      simp only [W]
      refine wp_exit ?_
      rw [W_exit id k h1]
      exact holds_of_ex X n _ fr L h2 m a w hR
    | ret =>
      intro m a w hR
      simp only [W]
      refine wp_ret ?_
      rw [W_ret]
      exact (X.hfin fr L m a w h hR).2
    | region id ops draw =>
      cases draw with
      | true => exact h
      | false =>
        intro m a w hR
        simp only [W]
        exact wp_region_list (evOps_sound X.ok ops (Q := W X.P X.B X.Q k) (fun fr L m a w hk hR => holds_of_ex X n k fr L hk m a w hR) ops.toList fr L m a w h hR)
    | loop b => exact h
    | rangeFunc f ps x y => exact h
    | scope b =>
      intro m a w hR
      have := holds_of_ex X n (.code b :: k) fr L h m a w hR
      simp only [W] at this ⊢
      refine wp_scope_straight (Go.wp_mono this fun e a' w' q => ?_)
      cases e <;> first | exact q | (simp only [W_goto] at q; exact absurd q (X.ng _ _ _))
    | goto l => exact h
    | refuse s => exact h

/-- a loop whose measure stands beside the state -/
theorem wp_loop_rel {P : Program} {c : Code} {Q : Exit → Act → World → Prop} (I : Nat → Act → World → Prop)
    (round : ∀ n a w, I n a w → c.wp P (Exit.then (fun a' w' => ∃ n', n' < n ∧ I n' a' w') Q) a w) (n₀ : Nat) (a : Act) (w : World) (h₀ : I n₀ a w) : (Code.loop c).wp P Q a w := by
  intro b k cs
  have key : ∀ n a w, I n a w → ∃ e a' w', Q e a' w' ∧ Arrives P (lone (b.at a (.code c :: .inLoop c :: k)) cs w) b k cs e a' w' := by
    intro n
    induction n using Nat.strongRecOn with
    | _ n ih =>
      intro a w hI
      obtain ⟨e, a₁, w₁, hq, harr⟩ := round n a w hI b (.inLoop c :: k) cs
      cases e with
      | normal =>
        obtain ⟨n', hlt, hI₁⟩ := hq
        obtain ⟨e₂, a₂, w₂, hq₂, harr₂⟩ := ih n' hlt a₁ w₁ hI₁
        exact ⟨e₂, a₂, w₂, hq₂, .of_steps (Steps.trans harr (.one step_inLoop)) harr₂⟩
      | exit id => exact ⟨_, a₁, w₁, hq, .pass (x := .inLoop c) rfl (fun _ _ => .inl (by simp)) harr⟩
      | goto l => exact ⟨_, a₁, w₁, hq, .pass (x := .inLoop c) rfl (fun _ _ => .inl (by simp)) harr⟩
      | ret => exact ⟨_, a₁, w₁, hq, .pass (x := .inLoop c) rfl (fun _ _ => .inl (by simp)) harr⟩
      | panic ch => exact ⟨_, a₁, w₁, hq, .pass (x := .inLoop c) rfl (fun _ _ => .inl (by simp)) harr⟩
      | outgrown => exact ⟨_, a₁, w₁, hq, .pass (x := .inLoop c) rfl (fun _ _ => .inl (by simp)) harr⟩
  obtain ⟨e, a', w', hq, harr⟩ := key n₀ a w h₀
  exact ⟨e, a', w', hq, .of_steps (.one step_loop) harr⟩

/-- (fr, L) is, weakened, the state S -/
abbrev Into (L0 : Heap) (fr : List AV) (L : Heap) (S : List AV × Heap) : Prop := IntoF L0 fr L S

theorem Holds.weak {X : Cx} {k : List It} {fr : List AV} {L : Heap} {S : List AV × Heap} (hi : Into X.B.L fr L S) (h : Holds X k S.1 S.2) : Holds X k fr L := by
  intro m a w hR
  obtain ⟨m', hR'⟩ := hR.intoF hi
  exact h m' a w hR'

theorem Holds.loop {X : Cx} {b : Code} {k : List It} {fr : List AV} {L : Heap} {ι : Type} (S : ι → List AV × Heap) (μ : ι → Nat) (i0 : ι) (h0 : Into X.B.L fr L (S i0))
    (h : ∀ i, Holds X (.code b :: .chk (fun fr' L' => ∃ j, μ j < μ i ∧ Into X.B.L fr' L' (S j)) :: k) (S i).1 (S i).2) : Holds X (.code (.loop b) :: k) fr L := by
  refine Holds.weak h0 ?_
  intro m a w hR
  simp only [W]
  refine wp_loop_rel (fun n a w => ∃ i m, μ i = n ∧ RS X.B (S i).1 (S i).2 m a w) ?_ (μ i0) a w ⟨i0, m, rfl, hR⟩
  rintro n a w ⟨i, m, rfl, hR⟩
  have := h i m a w hR
  simp only [W] at this
  refine Go.wp_mono this fun e a' w' q => ?_
  cases e <;> simp only [W, Exit.then] at * <;> try exact q
  obtain ⟨fr', L', m', ⟨j, hlt, hi⟩, hR'⟩ := q
  obtain ⟨m'', hR''⟩ := hR'.intoF hi
  exact ⟨μ j, hlt, j, m'', rfl, hR''⟩

/-- what stands behind a piece of code is shown once, from the states that I lets -/
theorem Holds.cut {X : Cx} {c : Code} {k : List It} {fr : List AV} {L : Heap} (I : List AV → Heap → Prop) (h1 : Holds X (.code c :: .chk I :: k) fr L) (h2 : ∀ fr' L', I fr' L' → Holds X k fr' L') : Holds X (.code c :: k) fr L := by
  intro m a w hR
  have := h1 m a w hR
  simp only [W] at this ⊢
  refine Go.wp_mono this fun e a' w' q => ?_
  cases e <;> simp only [W] at * <;> try exact q
  obtain ⟨fr', L', m', hI, hR'⟩ := q
  exact h2 fr' L' hI m' a' w' hR'

end Go.Eng
