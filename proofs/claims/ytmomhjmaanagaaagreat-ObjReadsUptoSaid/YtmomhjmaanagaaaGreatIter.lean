/-
  DERIVED: THE SHELF's CONTRACTS AT THIS DUMP, IN PLAIN WORDS (tools/lay-plain.mjs out of 'YtmomhjmaanagaaaGreatIter.lean', which tools/lay-shelf.mjs wrote): THE SAME DECLARATIONS UNDER THE SAME NAMES: 'import', 'namespace', 'open', 'def', 'theorem' AND NOTHING ELSE: no command of the shelf's: FOR A HAND-IN. Each laying: the table of numbers ('.._ren') and one theorem, a field a fact of the dump's own or the kernel's comparison; each contract: ONE APPLICATION.
-/
import Derived.Shelf.Small.Bits
import Derived.Shelf.Strconv.Itoa0
import Derived.Ground.Names2Prog
import Derived.Shelf.Slices.Clone
import Derived.Shelf.Slices.CompactS
import Derived.Shelf.Slices.Cells
import Derived.Ground.SlgnProg
import Derived.Shelf.SlicesE.Clone
import Derived.Ground.SlgmProg
import Derived.Shelf.SortM.Plain
import Derived.Shelf.SortM.SortNone
import Derived.Test.YtmomhjmaanagaaaGreatProg
set_option linter.unusedVariables false
set_option linter.unusedSimpArgs false
namespace Go.Proofs
open Go.Shelf
def Tryz.lays194_ren:Go.Shelf.Ren:=⟨fun | 194=>99 | n=>n,fun | 31=>28 | 9=>9 | 3=>3 | 4=>4 | 0=>0 | n=>n,fun | n=>n⟩
theorem Tryz.lays194:Go.Proofs.Lays.n194 Tryz.prog Tryz.lays194_ren:={
 mixed:=by kernel_rfl
 f194:=Tryz.func99.trans (congrArg some (by kernel_rfl))
 t0:=Tryz.underlying0
 a0:=Tryz.isAgg0
 z0:=Tryz.sizeOf0
 v0:=Tryz.zeroValue0
 t3:=Tryz.underlying3
 a3:=Tryz.isAgg3
 z3:=Tryz.sizeOf3
 v3:=Tryz.zeroValue3
 t4:=Tryz.underlying4
 a4:=Tryz.isAgg4
 z4:=Tryz.sizeOf4
 v4:=Tryz.zeroValue4
 t9:=Tryz.underlying9
 a9:=Tryz.isAgg9
 z9:=Tryz.sizeOf9
 v9:=Tryz.zeroValue9
 t31:=Tryz.underlying28
 a31:=Tryz.isAgg28
 z31:=Tryz.sizeOf28
 v31:=Tryz.zeroValue28 }
open Go.RowKit Go.Lib Go.Sort in
theorem Tryz.slices_Compact_string(blk off cap:Nat)(zs:List (List UInt8))(w:World)(hH:Holds encStr w blk off zs.toArray)(hsz:zs.length≤9223372036854775807)(hcap:zs.length≤cap) :
  Calls Tryz.prog 99 #[.slice (some ⟨blk,off,none⟩) zs.length cap] w fun e w'=>e=.returned (.slice (some ⟨blk,off,none⟩) (Lib.compact zs).length cap)∧∃q,w'=putRow encStr (Sort.ahead w q) blk off (Lib.compact zs++List.replicate (zs.length - (Lib.compact zs).length) []).toArray:=Any.slices_Compact_string Tryz.lays194 blk off cap zs w hH hsz hcap
open Go.RowKit Go.Lib Go.Sort in
theorem Tryz.slices_Compact_string_empty(a:Option Addr)(cap:Nat)(w:World) :
  Calls Tryz.prog 99 #[.slice a 0 cap] w fun e w'=>e=.returned (.slice a 0 cap)∧w'=w:=Any.slices_Compact_string_empty Tryz.lays194 a cap w
def Tryz.laysSlM6_f95_ren:Go.Shelf.Ren:=⟨fun | 6=>95 | 8=>104 | 9=>103 | 19=>116 | 20=>117 | 21=>107 | 22=>108 | 23=>109 | 24=>110 | 25=>111 | 26=>112 | 27=>113 | 28=>114 | 29=>115 | 36=>118 | 31=>119 | 32=>120 | 37=>121 | 38=>122 | 39=>123 | 41=>124 | n=>n,fun | 27=>28 | 29=>9 | 3=>3 | 32=>84 | 26=>28 | 0=>0 | 44=>24 | 46=>81 | 4=>4 | 36=>127 | 35=>126 | 41=>132 | 5=>5 | 9=>9 | 53=>135 | 57=>139 | 63=>141 | 64=>142 | n=>n,fun | n=>n⟩
theorem Tryz.laysSlM6_f95:Go.Proofs.SlLaysM.n6 Tryz.prog Tryz.laysSlM6_f95_ren:={
 mixed:=by kernel_rfl
 f6:=⟨Tryz.f95.name,by decide,Tryz.func95.trans (congrArg some (by kernel_rfl))⟩
 f8:=Tryz.func104.trans (congrArg some (by kernel_rfl))
 f9:=⟨Tryz.f103.name,by decide,Tryz.func103.trans (congrArg some (by kernel_rfl))⟩
 f19:=Tryz.func116.trans (congrArg some (by kernel_rfl))
 f20:=Tryz.func117.trans (congrArg some (by kernel_rfl))
 f21:=⟨Tryz.f107.name,by decide,Tryz.func107.trans (congrArg some (by kernel_rfl))⟩
 f22:=⟨Tryz.f108.name,by decide,Tryz.func108.trans (congrArg some (by kernel_rfl))⟩
 f23:=⟨Tryz.f109.name,by decide,Tryz.func109.trans (congrArg some (by kernel_rfl))⟩
 f24:=⟨Tryz.f110.name,by decide,Tryz.func110.trans (congrArg some (by kernel_rfl))⟩
 f25:=⟨Tryz.f111.name,by decide,Tryz.func111.trans (congrArg some (by kernel_rfl))⟩
 f26:=⟨Tryz.f112.name,by decide,Tryz.func112.trans (congrArg some (by kernel_rfl))⟩
 f27:=⟨Tryz.f113.name,by decide,Tryz.func113.trans (congrArg some (by kernel_rfl))⟩
 f28:=⟨Tryz.f114.name,by decide,Tryz.func114.trans (congrArg some (by kernel_rfl))⟩
 f29:=⟨Tryz.f115.name,by decide,Tryz.func115.trans (congrArg some (by kernel_rfl))⟩
 f31:=Tryz.func119.trans (congrArg some (by kernel_rfl))
 f32:=Tryz.func120.trans (congrArg some (by kernel_rfl))
 f36:=⟨Tryz.f118.name,by decide,Tryz.func118.trans (congrArg some (by kernel_rfl))⟩
 f37:=⟨Tryz.f121.name,by decide,Tryz.func121.trans (congrArg some (by kernel_rfl))⟩
 f38:=⟨Tryz.f122.name,by decide,Tryz.func122.trans (congrArg some (by kernel_rfl))⟩
 f39:=⟨Tryz.f123.name,by decide,Tryz.func123.trans (congrArg some (by kernel_rfl))⟩
 f41:=⟨Tryz.f124.name,by decide,Tryz.func124.trans (congrArg some (by kernel_rfl))⟩
 t0:=Tryz.underlying0
 a0:=Tryz.isAgg0
 z0:=Tryz.sizeOf0
 v0:=Tryz.zeroValue0
 t3:=Tryz.underlying3
 a3:=Tryz.isAgg3
 z3:=Tryz.sizeOf3
 v3:=Tryz.zeroValue3
 t4:=Tryz.underlying4
 a4:=Tryz.isAgg4
 z4:=Tryz.sizeOf4
 v4:=Tryz.zeroValue4
 t5:=Tryz.underlying5
 a5:=Tryz.isAgg5
 z5:=Tryz.sizeOf5
 v5:=Tryz.zeroValue5
 t9:=Tryz.underlying9
 a9:=Tryz.isAgg9
 z9:=Tryz.sizeOf9
 v9:=Tryz.zeroValue9
 t26:=Tryz.underlying28
 a26:=Tryz.isAgg28
 z26:=Tryz.sizeOf28
 v26:=Tryz.zeroValue28
 t27:=Tryz.underlying28
 a27:=Tryz.isAgg28
 z27:=Tryz.sizeOf28
 v27:=Tryz.zeroValue28
 t29:=Tryz.underlying9
 a29:=Tryz.isAgg9
 z29:=Tryz.sizeOf9
 v29:=Tryz.zeroValue9
 t32:=Tryz.underlying84
 a32:=Tryz.isAgg84
 z32:=Tryz.sizeOf84
 v32:=Tryz.zeroValue84
 t35:=Tryz.underlying126
 a35:=Tryz.isAgg126
 z35:=Tryz.sizeOf126
 v35:=Tryz.zeroValue126
 t36:=Tryz.underlying127
 a36:=Tryz.isAgg127
 z36:=Tryz.sizeOf127
 v36:=Tryz.zeroValue127
 t41:=Tryz.underlying132
 a41:=Tryz.isAgg132
 z41:=Tryz.sizeOf132
 v41:=Tryz.zeroValue132
 t44:=Tryz.underlying24
 a44:=Tryz.isAgg24
 z44:=Tryz.sizeOf24
 v44:=Tryz.zeroValue24
 t46:=Tryz.underlying81
 a46:=Tryz.isAgg81
 z46:=Tryz.sizeOf81
 v46:=Tryz.zeroValue81
 t53:=Tryz.underlying135
 a53:=Tryz.isAgg135
 z53:=Tryz.sizeOf135
 v53:=Tryz.zeroValue135
 t57:=Tryz.underlying139
 a57:=Tryz.isAgg139
 z57:=Tryz.sizeOf139
 v57:=Tryz.zeroValue139
 t63:=Tryz.underlying141
 a63:=Tryz.isAgg141
 z63:=Tryz.sizeOf141
 v63:=Tryz.zeroValue141
 t64:=Tryz.underlying142
 a64:=Tryz.isAgg142
 z64:=Tryz.sizeOf142
 v64:=Tryz.zeroValue142 }
open Go.Sort Go.RowKit in
theorem Tryz.slices_Sort_string(blk off cap:Nat)(ss:List (List UInt8))(w:World)(hH:Holds encStr w blk off ss.toArray)(hblk:blk<w.heap.size)(hsz:ss.length<4611686018427387904) :
  Calls Tryz.prog 95 #[.slice (some ⟨blk,off,none⟩) ss.length cap] w fun e w'=>
   e=.returned (.tuple #[])∧∃n os,w'=grow (putRow encStr (Sort.ahead w n) blk off (ss.mergeSort fun x y=>decide (x≤y)).toArray) os:=AnyM.slices_Sort_string Tryz.laysSlM6_f95 blk off cap ss w hH hblk hsz
end Go.Proofs