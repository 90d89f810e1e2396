/-
  DERIVED: THE SHELF's CONTRACTS AT THIS DUMP, IN PLAIN WORDS (tools/lay-plain.mjs out of 'YtbnnhffkbcekcaaGreatDoorIter.lean', which tools/lay-shelf.mjs wrote): THE SAME DECLARATIONS UNDER THE SAME NAMES: 'import', 'namespace', 'open', 'def', 'theorem' AND NOTHING ELSE: no command of the shelf's: FOR A HAND-IN. Each laying: the table of numbers ('.._ren') and one theorem, a field a fact of the dump's own or the kernel's comparison; each contract: ONE APPLICATION.
-/
import Derived.Shelf.SlSortCmp.WholeK
import Derived.Shelf.Small.Strs
import Derived.Ground.SlsfProg
import Derived.Ground.NamesProg
import Derived.Test.YtbnnhffkbcekcaaGreatDoorProg
import Derived.Test.YtbnnhffkbcekcaaGreatDoorFg
set_option linter.unusedVariables false
set_option linter.unusedSimpArgs false
namespace Go.Proofs
open Go.Shelf
def Tryz.sortF_ren:Go.Shelf.Ren:=⟨fun | 6=>87 | 15=>133 | 14=>132 | 28=>152 | 29=>153 | 20=>144 | 21=>145 | 22=>146 | 23=>147 | 24=>148 | 25=>149 | 26=>150 | 27=>151 | 46=>159 | 47=>160 | 48=>161 | 49=>162 | 50=>163 | 57=>172 | n=>n,fun | 22=>96 | 24=>134 | 25=>149 | 3=>3 | 39=>192 | 0=>0 | 53=>102 | 55=>218 | 4=>4 | 46=>211 | 45=>210 | 50=>135 | 5=>5 | 9=>9 | 66=>224 | 70=>228 | 76=>237 | 77=>238 | n=>n,fun | n=>n⟩
theorem Tryz.sortF:Go.Proofs.SlLaysF0.n6 Tryz.prog Tryz.sortF_ren:={
 mixed:=by kernel_rfl
 f6:=⟨Tryz.f87.name,by decide,Tryz.func87.trans (congrArg some (by kernel_rfl))⟩
 f14:=⟨Tryz.f132.name,by decide,Tryz.func132.trans (congrArg some (by kernel_rfl))⟩
 f15:=Tryz.func133.trans (congrArg some (by kernel_rfl))
 f20:=⟨Tryz.f144.name,by decide,Tryz.func144.trans (congrArg some (by kernel_rfl))⟩
 f21:=⟨Tryz.f145.name,by decide,Tryz.func145.trans (congrArg some (by kernel_rfl))⟩
 f22:=⟨Tryz.f146.name,by decide,Tryz.func146.trans (congrArg some (by kernel_rfl))⟩
 f23:=⟨Tryz.f147.name,by decide,Tryz.func147.trans (congrArg some (by kernel_rfl))⟩
 f24:=⟨Tryz.f148.name,by decide,Tryz.func148.trans (congrArg some (by kernel_rfl))⟩
 f25:=⟨Tryz.f149.name,by decide,Tryz.func149.trans (congrArg some (by kernel_rfl))⟩
 f26:=⟨Tryz.f150.name,by decide,Tryz.func150.trans (congrArg some (by kernel_rfl))⟩
 f27:=⟨Tryz.f151.name,by decide,Tryz.func151.trans (congrArg some (by kernel_rfl))⟩
 f28:=Tryz.func152.trans (congrArg some (by kernel_rfl))
 f29:=Tryz.func153.trans (congrArg some (by kernel_rfl))
 f46:=⟨Tryz.f159.name,by decide,Tryz.func159.trans (congrArg some (by kernel_rfl))⟩
 f47:=Tryz.func160.trans (congrArg some (by kernel_rfl))
 f48:=Tryz.func161.trans (congrArg some (by kernel_rfl))
 f49:=⟨Tryz.f162.name,by decide,Tryz.func162.trans (congrArg some (by kernel_rfl))⟩
 f50:=⟨Tryz.f163.name,by decide,Tryz.func163.trans (congrArg some (by kernel_rfl))⟩
 f57:=⟨Tryz.f172.name,by decide,Tryz.func172.trans (congrArg some (by kernel_rfl))⟩
 t0:=Tryz.underlying0
 a0:=Tryz.isAgg0
 z0:=Tryz.sizeOf0
 v0:=Tryz.zeroValue0
 t3:=Tryz.underlying3
 a3:=Tryz.isAgg3
 z3:=Tryz.sizeOf3
 v3:=Tryz.zeroValue3
 t4:=Tryz.underlying4
 a4:=Tryz.isAgg4
 z4:=Tryz.sizeOf4
 v4:=Tryz.zeroValue4
 t5:=Tryz.underlying5
 a5:=Tryz.isAgg5
 z5:=Tryz.sizeOf5
 v5:=Tryz.zeroValue5
 t9:=Tryz.underlying9
 a9:=Tryz.isAgg9
 z9:=Tryz.sizeOf9
 v9:=Tryz.zeroValue9
 t22:=Tryz.underlying96
 a22:=Tryz.isAgg96
 z22:=Tryz.sizeOf96
 v22:=Tryz.zeroValue96
 t25:=Tryz.underlying149
 a25:=Tryz.isAgg149
 z25:=Tryz.sizeOf149
 v25:=Tryz.zeroValue149
 t39:=Tryz.underlying192
 a39:=Tryz.isAgg192
 z39:=Tryz.sizeOf192
 v39:=Tryz.zeroValue192
 t45:=Tryz.underlying210
 a45:=Tryz.isAgg210
 z45:=Tryz.sizeOf210
 v45:=Tryz.zeroValue210
 t46:=Tryz.underlying211
 a46:=Tryz.isAgg211
 z46:=Tryz.sizeOf211
 v46:=Tryz.zeroValue211
 t50:=Tryz.underlying135
 a50:=Tryz.isAgg135
 z50:=Tryz.sizeOf135
 v50:=Tryz.zeroValue135
 t53:=Tryz.underlying102
 a53:=Tryz.isAgg102
 z53:=Tryz.sizeOf102
 v53:=Tryz.zeroValue102
 t55:=Tryz.underlying218
 a55:=Tryz.isAgg218
 z55:=Tryz.sizeOf218
 v55:=Tryz.zeroValue218
 t66:=Tryz.underlying224
 a66:=Tryz.isAgg224
 z66:=Tryz.sizeOf224
 v66:=Tryz.zeroValue224
 t70:=Tryz.underlying228
 a70:=Tryz.isAgg228
 z70:=Tryz.sizeOf228
 v70:=Tryz.zeroValue228
 t76:=Tryz.underlying237
 a76:=Tryz.isAgg237
 z76:=Tryz.sizeOf237
 v76:=Tryz.zeroValue237
 t77:=Tryz.underlying238
 a77:=Tryz.isAgg238
 z77:=Tryz.sizeOf238
 v77:=Tryz.zeroValue238 }
def Tryz.lays106_ren:Go.Shelf.Ren:=⟨fun | 106=>89 | 213=>134 | 265=>154 | n=>n,fun | 9=>9 | 3=>3 | n=>n,fun | n=>n⟩
theorem Tryz.lays106:Go.Proofs.Lays.n106 Tryz.prog Tryz.lays106_ren:={
 mixed:=by kernel_rfl
 f106:=Tryz.func89.trans (congrArg some (by kernel_rfl))
 f213:=Tryz.func134.trans (congrArg some (by kernel_rfl))
 f265:=Tryz.func154.trans (congrArg some (by kernel_rfl))
 t3:=Tryz.underlying3
 a3:=Tryz.isAgg3
 z3:=Tryz.sizeOf3
 v3:=Tryz.zeroValue3
 t9:=Tryz.underlying9
 a9:=Tryz.isAgg9
 z9:=Tryz.sizeOf9
 v9:=Tryz.zeroValue9 }
end Go.Proofs