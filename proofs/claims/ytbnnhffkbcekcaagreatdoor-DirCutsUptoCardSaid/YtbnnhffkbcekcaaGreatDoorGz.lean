/- DirCuts: at whichever write of a change the power goes, the disk has the directory of ahead, or of behind; by the program alone. The condition: what comes in holds at most 1048576 values and letters; package-level variables start as the program's text lays them. -/
import Derived.Test.YtbnnhffkbcekcaaGreatDoorGt
import Derived.Test.YtbnnhffkbcekcaaGreatDoorFg
import Derived.Test.YtbnnhffkbcekcaaGreatDoorFf
import Derived.Test.YtbnnhffkbcekcaaGreatDoorFv
import Derived.Test.YtbnnhffkbcekcaaGreatDoorCards
import Derived.Test.YtbnnhffkbcekcaaGreatDoorTie
import Derived.ProofKit
import Derived.JoinedCond
import Derived.Deep.DeepWitnessRowRef
import Derived.MakeChecks
import Derived.Lay
set_option linter.unusedVariables false
set_option linter.unusedSimpArgs false
set_option maxRecDepth 100000
set_option maxHeartbeats 4000000
namespace Go.Proofs.YtbnnhffkbcekcaaGreatDoor.dirDone
open Go Go.Eng Go.Proofs Go.RowKit
theorem own:ownKnob Tryz.prog.godebug=none:=by kernel_rfl
theorem Zjl:laidOutB Tryz.prog=true:=by kernel_rfl
theorem ZlI{W:World}(h:laidMet Tryz.prog Rows.dirCutsUptoRow.laid W):GOK (Zc0 W).pobj:=by
 refine⟨fun g hg=>?_,fun q hq=>?_⟩
 ·simp only [Zig,List.not_mem_nil] at hg
 ·simp only [Zot,List.not_mem_nil] at hq
theorem body12B(xs:List Dv)(h:Dv.hasL [.int .i64,.sl (.st [.int .i64,.str,.str,.int .i64,.int .i64,.str])] xs)(hb:Dv.vbL xs≤1048576):∃L',Z08 Tryz.prog dtE Tryz.f12 (xs.map Dv.av) [] (.bool true) L':=by
 obtain⟨x0,xs,rfl,h0,h⟩:=Z2h h
 obtain⟨x1,xs,rfl,h1,h⟩:=Z2h h
 obtain rfl:=Zb1 h
 obtain⟨sec,rfl,_,_⟩:=Z7Z h0
 obtain⟨fs,e1,hl,hfs⟩:=Ze4 h1
 simp only [Dv.vbL] at hb
 refine⟨[],?_⟩
 simp only [List.map_cons,List.map_nil,e1]
 exact body12 dtE rfl rfl rfl rfl rfl rfl rfl sec fs (by omega) (fun s hs=>by have:=hfs s hs; omega)
noncomputable def laidW12(os:Os):World:=World.laidAll Tryz.prog os Rows.dirCutsUptoRow.laid
theorem laid_met12(os:Os)(args:Array Value):laidMetH Tryz.prog Rows.dirCutsUptoRow.laid ((laidW12 os).forCall (fun _ _=>0) ⟨#[],args,[]⟩).memory:=by
 rw [MakeChecks.laidMetH_plain _ _ _ (by kernel_rfl)]
 exact laidMet_laidAll _ (by kernel_rfl) (by kernel_rfl)
theorem witness_row12{H:Type}(os:Os)(enc:TypeId×Value→H) :
  (Rows.OpenSpec.upto Rows.dirCutsSpec).preRow enc Tryz.prog Tryz.f12 Rows.dirCutsUptoRow.domain false Rows.dirCutsUptoRow.laid ((laidW12 os).forCall (fun _ _=>0) ⟨#[],#[.int .i64 0,.slice none 0 0],[]⟩).memory #[.int .i64 0,.slice none 0 0]:=
 OpenSpec.preRow_of_cond 8 (x:=([.lit (.int .i64 0),.nil],[],[])) (by kernel_rfl) (by kernel_rfl) (fun k hk=>by cases hk; rfl) (by kernel_rfl) (laid_met12 os _)
theorem lifted12(os:Os)(started:os.Started)(H:Type)(enc:TypeId×Value→H)(F:Stop.Interp) :
  ReturnsInHanded {} Tryz.checked os 12 .any ((Rows.OpenSpec.upto Rows.dirCutsSpec).preRow enc Tryz.prog Tryz.f12 Rows.dirCutsUptoRow.domain false Rows.dirCutsUptoRow.laid) (((Rows.OpenSpec.upto Rows.dirCutsSpec).at F).post enc Tryz.prog Tryz.f12 false true false false):=by
 refine returnsInHanded_of_row (C:=Tryz.checked) (s:=Rows.OpenSpec.upto Rows.dirCutsSpec) own started (by kernel_rfl) Tryz.func12
  (witness_row_at (enc:=enc) (C:=Tryz.checked) false (laidW12 os) #[.int .i64 0,.slice none 0 0] (World.laidAll_os _ _ _) (by kernel_rfl) (by kernel_rfl) (by kernel_rfl) (witness_row12 os enc)) ?_
 intro W base args ds gs before hval hW _ hk _ hlaid _ _
 have hds:gs=[]∧∃d1 d2,ds=[d1,d2]:=by
  obtain⟨p,q,hA,hV,_⟩:=hW
  obtain⟨rfl,_⟩:=ChangeShapes.trodVars_none hV
  rw [Tryz.params12] at hA
  obtain⟨_,_,d1,_,_,_,_,rfl,_,_,hA⟩:=ChangeShapes.trodAll_cons hA
  obtain⟨_,_,d2,_,_,_,_,rfl,_,_,hA⟩:=ChangeShapes.trodAll_cons hA
  obtain⟨_,rfl,_⟩:=ChangeShapes.trodAll_nil hA
  exact⟨rfl,d1,d2,rfl⟩
 obtain⟨rfl,d1,d2,rfl⟩:=hds
 rw [MakeChecks.laidMetH_plain _ _ _ (by kernel_rfl)] at hlaid
 exact Z8L ZlU (f:=12) (fn:=Tryz.f12) (by kernel_rfl) Zjl (s:=Rows.dirCutsSpec) rfl (ss:=[.int .i64,.sl (.st [.int .i64,.str,.str,.int .i64,.int .i64,.str])]) (by kernel_rfl) (tb:=4) rfl Tryz.underlying4 (·≤1048576) (fun a b h1 h2=>Nat.le_trans h1 h2) body12B rfl hval hW (Up.small (by simpa using hk _ rfl)) (ZlI hlaid)
theorem Z7J:Rows.DirCutsUptoSaid:=
 OpenClaim.holds_of_cond 12 Tryz.f12 rfl rfl rfl rfl rfl rfl rfl ⟨rfl,rfl,rfl,rfl,rfl⟩ rfl rfl rfl rfl rfl (by kernel_rfl) Tryz.func12 (by kernel_rfl)
  (of_decide_eq_true (by kernel_rfl)) (by unfold Func.isWrapper; first | (rw [if_pos (by decide +kernel)]; kernel_rfl) | (rw [if_neg (by decide +kernel)]; exact⟨rfl,rfl⟩))
  (fun os started H enc _ F=>by rw [OpenClaim.pre_eq_preRow]; exact lifted12 os started H enc F)
theorem plain12(f:FuncId)(fn:Func)(hf:Tryz.pinned.checked.prog.funcNamed Rows.dirCutsUptoRow.func=some f)(hfn:Tryz.pinned.checked.prog.funcs[f]?=some fn) :
  false=Tryz.pinned.checked.prog.looks []∧∀(j:Nat) t,fn.params[j]?=some t→Tryz.pinned.checked.prog.wantsStandIn t=false:=by
 obtain rfl:f=12:=Option.some.inj ((show Tryz.prog.funcNamed Rows.dirCutsUptoRow.func=some 12 by kernel_rfl).symm.trans hf) |>.symm
 obtain rfl:fn=Tryz.f12:=(Option.some.inj (Tryz.func12.symm.trans hfn)).symm
 refine⟨by kernel_rfl,fun j t ht=>?_⟩
 rw [Tryz.params12] at ht
 have hm:=Array.mem_of_getElem? ht
 simp only [List.mem_toArray,List.mem_cons,List.not_mem_nil,or_false] at hm
 rcases hm with rfl | rfl
 ·exact (show Tryz.prog.wantsStandIn 3=false by kernel_rfl)
 ·exact (show Tryz.prog.wantsStandIn 48=false by kernel_rfl)
theorem cardDirCuts:Rows.DirCutsUptoCardSaid:=
 Claim7.holds_tied_plain_at .later [] _ _ _ _ Z7J (fun _ h=>by cases h) (by kernel_rfl) (fun _ h=>by cases h) dirCutsUpto_row_tie rfl ⟨rfl,rfl⟩ (by kernel_rfl) rfl plain12 (by kernel_rfl)
end Go.Proofs.YtbnnhffkbcekcaaGreatDoor.dirDone