/-
  DERIVED: THE SHELF's CONTRACTS AT THIS DUMP, IN PLAIN WORDS (tools/lay-plain.mjs out of 'YtlehfbdkjkgaeaaGreatDoorIter.lean', which tools/lay-shelf.mjs wrote): THE SAME DECLARATIONS UNDER THE SAME NAMES: 'import', 'namespace', 'open', 'def', 'theorem' AND NOTHING ELSE: no command of the shelf's: FOR A HAND-IN. Each laying: the table of numbers ('.._ren') and one theorem, a field a fact of the dump's own or the kernel's comparison; each contract: ONE APPLICATION.
-/
import Derived.Shelf.Strings.Builder1
import Derived.Shelf.Strings.Builder2
import Derived.Shelf.Strings.OnBuilder
import Derived.Shelf.Strings.Trim
import Derived.Shelf.Small.Utf8
import Derived.Shelf.Small.Strs
import Derived.Shelf.LaysM
import Derived.Shelf.Strconv.Clone
import Derived.Shelf.Strconv.SyntaxError
import Derived.Shelf.LaysC
import Derived.Shelf.Strconv.ToError
import Derived.Shelf.Strconv.RangeError
import Derived.Shelf.Strconv.ToErrorRange
import Derived.Shelf.Strings.Search1
import Derived.Shelf.Strings.Search2
import Derived.Shelf.Strings.Cut
import Derived.Shelf.Strings.Shaped
import Derived.Shelf.Unicode.Latin
import Derived.Shelf.Strings.Runes
import Derived.Shelf.Strings.AsciiSet
import Derived.Shelf.Unicode.DecodeSlow
import Derived.Shelf.Unicode.CaseLookup
import Derived.Shelf.Unicode.CaseConvert
import Derived.Test.YtlehfbdkjkgaeaaGreatDoorProg
namespace Go.Proofs
open Go.Shelf
def Tryz.lays158_ren : Go.Shelf.Ren := ⟨fun | 158 => 42 | 165 => 55 | 166 => 56 | 167 => 57 | 169 => 58 | 230 => 59 | 203 => 60 | 240 => 75 | 241 => 76 | 197 => 38 | 118 => 77 | 168 => 78 | 270 => 79 | 262 => 80 | 276 => 87 | 277 => 88 | 260 => 50 | 242 => 89 | 313 => 90 | 278 => 93 | 274 => 94 | 275 => 95 | n => n, fun | 9 => 9 | 4 => 4 | 3 => 3 | 5 => 5 | 72 => 84 | 0 => 0 | 76 => 86 | 75 => 69 | 107 => 91 | 70 => 81 | 20 => 20 | 37 => 82 | 127 => 106 | 21 => 21 | 105 => 63 | 164 => 116 | 162 => 122 | 203 => 120 | 119 => 94 | 46 => 95 | 139 => 98 | 138 => 97 | 51 => 126 | 160 => 127 | 208 => 136 | 206 => 134 | 80 => 89 | n => n, fun | 13 => 5 | 3 => 0 | 4 => 1 | n => n⟩
theorem Tryz.lays158 : Go.Proofs.Lays.n158 Tryz.prog Tryz.lays158_ren := {
  mixed := by kernel_rfl
  f118 := Tryz.func77.trans (congrArg some (by kernel_rfl))
  f158 := Tryz.func42.trans (congrArg some (by kernel_rfl))
  f165 := Tryz.func55.trans (congrArg some (by kernel_rfl))
  f166 := Tryz.func56.trans (congrArg some (by kernel_rfl))
  f167 := Tryz.func57.trans (congrArg some (by kernel_rfl))
  f168 := Tryz.func78.trans (congrArg some (by kernel_rfl))
  f169 := Tryz.func58.trans (congrArg some (by kernel_rfl))
  f197 := Tryz.func38.trans (congrArg some (by kernel_rfl))
  f203 := Tryz.func60.trans (congrArg some (by kernel_rfl))
  f230 := Tryz.func59.trans (congrArg some (by kernel_rfl))
  f240 := Tryz.func75.trans (congrArg some (by kernel_rfl))
  f241 := Tryz.func76.trans (congrArg some (by kernel_rfl))
  f242 := Tryz.func89.trans (congrArg some (by kernel_rfl))
  f260 := Tryz.func50.trans (congrArg some (by kernel_rfl))
  f262 := Tryz.func80.trans (congrArg some (by kernel_rfl))
  f270 := Tryz.func79.trans (congrArg some (by kernel_rfl))
  f274 := Tryz.func94.trans (congrArg some (by kernel_rfl))
  f275 := Tryz.func95.trans (congrArg some (by kernel_rfl))
  f276 := Tryz.func87.trans (congrArg some (by kernel_rfl))
  f277 := Tryz.func88.trans (congrArg some (by kernel_rfl))
  f278 := Tryz.func93.trans (congrArg some (by kernel_rfl))
  f313 := Tryz.func90.trans (congrArg some (by kernel_rfl))
  t0 := Tryz.underlying0
  a0 := Tryz.isAgg0
  z0 := Tryz.sizeOf0
  v0 := Tryz.zeroValue0
  t3 := Tryz.underlying3
  a3 := Tryz.isAgg3
  z3 := Tryz.sizeOf3
  v3 := Tryz.zeroValue3
  t4 := Tryz.underlying4
  a4 := Tryz.isAgg4
  z4 := Tryz.sizeOf4
  v4 := Tryz.zeroValue4
  t5 := Tryz.underlying5
  a5 := Tryz.isAgg5
  z5 := Tryz.sizeOf5
  v5 := Tryz.zeroValue5
  t9 := Tryz.underlying9
  a9 := Tryz.isAgg9
  z9 := Tryz.sizeOf9
  v9 := Tryz.zeroValue9
  t20 := Tryz.underlying20
  a20 := Tryz.isAgg20
  z20 := Tryz.sizeOf20
  v20 := Tryz.zeroValue20
  t21 := Tryz.underlying21
  a21 := Tryz.isAgg21
  z21 := Tryz.sizeOf21
  v21 := Tryz.zeroValue21
  t37 := Tryz.underlying82
  a37 := Tryz.isAgg82
  z37 := Tryz.sizeOf82
  v37 := Tryz.zeroValue82
  t46 := Tryz.underlying95
  a46 := Tryz.isAgg95
  z46 := Tryz.sizeOf95
  v46 := Tryz.zeroValue95
  t51 := Tryz.underlying126
  a51 := Tryz.isAgg126
  z51 := Tryz.sizeOf126
  v51 := Tryz.zeroValue126
  t70 := Tryz.underlying81
  a70 := Tryz.isAgg81
  z70 := Tryz.sizeOf81
  v70 := Tryz.zeroValue81
  t72 := Tryz.underlying84
  a72 := Tryz.isAgg84
  z72 := Tryz.sizeOf84
  v72 := Tryz.zeroValue84
  t75 := Tryz.underlying69
  a75 := Tryz.isAgg69
  z75 := Tryz.sizeOf69
  v75 := Tryz.zeroValue69
  t76 := Tryz.underlying86
  a76 := Tryz.isAgg86
  z76 := Tryz.sizeOf86
  v76 := Tryz.zeroValue86
  t105 := Tryz.underlying63
  a105 := Tryz.isAgg63
  z105 := Tryz.sizeOf63
  v105 := Tryz.zeroValue63
  t107 := Tryz.underlying91
  a107 := Tryz.isAgg91
  z107 := Tryz.sizeOf91
  v107 := Tryz.zeroValue91
  t119 := Tryz.underlying94
  a119 := Tryz.isAgg94
  z119 := Tryz.sizeOf94
  t127 := Tryz.underlying106
  a127 := Tryz.isAgg106
  z127 := Tryz.sizeOf106
  v127 := Tryz.zeroValue106
  t138 := Tryz.underlying97
  a138 := Tryz.isAgg97
  z138 := Tryz.sizeOf97
  v138 := Tryz.zeroValue97
  t139 := Tryz.underlying98
  a139 := Tryz.isAgg98
  z139 := Tryz.sizeOf98
  v139 := Tryz.zeroValue98
  t160 := Tryz.underlying127
  a160 := Tryz.isAgg127
  z160 := Tryz.sizeOf127
  v160 := Tryz.zeroValue127
  t162 := Tryz.underlying122
  a162 := Tryz.isAgg122
  z162 := Tryz.sizeOf122
  v162 := Tryz.zeroValue122
  t164 := Tryz.underlying116
  a164 := Tryz.isAgg116
  z164 := Tryz.sizeOf116
  v164 := Tryz.zeroValue116
  t203 := Tryz.underlying120
  a203 := Tryz.isAgg120
  z203 := Tryz.sizeOf120
  v203 := Tryz.zeroValue120
  t206 := Tryz.underlying134
  a206 := Tryz.isAgg134
  z206 := Tryz.sizeOf134
  v206 := Tryz.zeroValue134
  t208 := Tryz.underlying136
  a208 := Tryz.isAgg136
  z208 := Tryz.sizeOf136
  v208 := Tryz.zeroValue136
  g3 := by kernel_rfl
  g4 := by kernel_rfl
  g13 := by kernel_rfl }
theorem Tryz.Builder_Extra_158 : Builder.Extra Tryz.prog Tryz.lays158_ren := {
  sizeBuilder := by kernel_rfl
  liesBuilder := by kernel_rfl
  t5 := Tryz.underlying5
  a5 := Tryz.isAgg5
  z5 := Tryz.sizeOf5
  v5 := Tryz.zeroValue5
  infoByte := by kernel_rfl
  cellsByte := by kernel_rfl
  sizeByte := by kernel_rfl
  neB5 := by decide }
open Go.RowKit in
/-- strings.ToUpper: "ToUpper returns s with all Unicode letters mapped to their upper case.": ON ASCII TEXT OF AT MOST 2^47 BYTES. Below the heap's end the world is as it was: where a letter turns, the call makes a builder and its buffer. (LAID: no walk: one application.) -/
theorem Tryz.strings_ToUpper_ascii (s : ByteArray) (w : World) (hs : s.size ≤ 140737488355328) (hascii : ∀ (j : Nat) (b : UInt8), s.data.toList[j]? = some b → b.toNat < 128) :
    Calls Tryz.prog 42 #[.string s] w fun e w' => e = .returned (.string ⟨(Lib.toUpperA s.data.toList).toArray⟩) ∧ Below w.heap.size w w' := Any.strings_ToUpper_ascii Tryz.lays158 Tryz.Builder_Extra_158 s w hs hascii
def Tryz.lays161_ren : Go.Shelf.Ren := ⟨fun | 161 => 8 | 231 => 15 | 227 => 16 | 233 => 17 | 235 => 18 | 228 => 37 | 197 => 38 | 151 => 39 | 260 => 50 | 152 => 51 | 137 => 46 | 119 => 65 | 224 => 66 | 225 => 67 | 217 => 63 | 266 => 83 | n => n, fun | 9 => 9 | 4 => 4 | 3 => 3 | 5 => 5 | 117 => 44 | 116 => 43 | 0 => 0 | 124 => 47 | 105 => 63 | 21 => 21 | 119 => 94 | 46 => 95 | 139 => 98 | 138 => 97 | n => n, fun | 3 => 0 | 4 => 1 | n => n⟩
theorem Tryz.lays161 : Go.Proofs.Lays.n161 Tryz.prog Tryz.lays161_ren := {
  mixed := by kernel_rfl
  f119 := Tryz.func65.trans (congrArg some (by kernel_rfl))
  f137 := Tryz.func46.trans (congrArg some (by kernel_rfl))
  f151 := Tryz.func39.trans (congrArg some (by kernel_rfl))
  f152 := Tryz.func51.trans (congrArg some (by kernel_rfl))
  f161 := Tryz.func8.trans (congrArg some (by kernel_rfl))
  f197 := Tryz.func38.trans (congrArg some (by kernel_rfl))
  f217 := Tryz.func63.trans (congrArg some (by kernel_rfl))
  f224 := Tryz.func66.trans (congrArg some (by kernel_rfl))
  f225 := Tryz.func67.trans (congrArg some (by kernel_rfl))
  f227 := Tryz.func16.trans (congrArg some (by kernel_rfl))
  f228 := Tryz.func37.trans (congrArg some (by kernel_rfl))
  f231 := Tryz.func15.trans (congrArg some (by kernel_rfl))
  f233 := Tryz.func17.trans (congrArg some (by kernel_rfl))
  f235 := Tryz.func18.trans (congrArg some (by kernel_rfl))
  f260 := Tryz.func50.trans (congrArg some (by kernel_rfl))
  f266 := Tryz.func83.trans (congrArg some (by kernel_rfl))
  t0 := Tryz.underlying0
  a0 := Tryz.isAgg0
  z0 := Tryz.sizeOf0
  v0 := Tryz.zeroValue0
  t3 := Tryz.underlying3
  a3 := Tryz.isAgg3
  z3 := Tryz.sizeOf3
  v3 := Tryz.zeroValue3
  t4 := Tryz.underlying4
  a4 := Tryz.isAgg4
  z4 := Tryz.sizeOf4
  v4 := Tryz.zeroValue4
  t5 := Tryz.underlying5
  a5 := Tryz.isAgg5
  z5 := Tryz.sizeOf5
  v5 := Tryz.zeroValue5
  t9 := Tryz.underlying9
  a9 := Tryz.isAgg9
  z9 := Tryz.sizeOf9
  v9 := Tryz.zeroValue9
  t21 := Tryz.underlying21
  a21 := Tryz.isAgg21
  z21 := Tryz.sizeOf21
  v21 := Tryz.zeroValue21
  t46 := Tryz.underlying95
  a46 := Tryz.isAgg95
  z46 := Tryz.sizeOf95
  v46 := Tryz.zeroValue95
  t105 := Tryz.underlying63
  a105 := Tryz.isAgg63
  z105 := Tryz.sizeOf63
  v105 := Tryz.zeroValue63
  t116 := Tryz.underlying43
  a116 := Tryz.isAgg43
  z116 := Tryz.sizeOf43
  t117 := Tryz.underlying44
  a117 := Tryz.isAgg44
  z117 := Tryz.sizeOf44
  v117 := Tryz.zeroValue44
  t119 := Tryz.underlying94
  a119 := Tryz.isAgg94
  z119 := Tryz.sizeOf94
  t124 := Tryz.underlying47
  a124 := Tryz.isAgg47
  z124 := Tryz.sizeOf47
  v124 := Tryz.zeroValue47
  t138 := Tryz.underlying97
  a138 := Tryz.isAgg97
  z138 := Tryz.sizeOf97
  v138 := Tryz.zeroValue97
  t139 := Tryz.underlying98
  a139 := Tryz.isAgg98
  z139 := Tryz.sizeOf98
  v139 := Tryz.zeroValue98
  g3 := by kernel_rfl
  g4 := by kernel_rfl }
open Go.RowKit in
/-- strings.TrimLeft: "TrimLeft returns a slice of the string s with all leading Unicode code points contained in cutset removed.": AT A cutset OF ONE ASCII BYTE. The world is as it was. (LAID: no walk: one application.) -/
theorem Tryz.strings_TrimLeft_one (s : ByteArray) (c : UInt8) (hc : c.toNat < 128) (w : World) :
    Calls Tryz.prog 8 #[.string s, .string ⟨#[c]⟩] w fun e w' => e = .returned (.string ⟨(Lib.trimLeftB s.data.toList c).toArray⟩) ∧ w' = w := Any.strings_TrimLeft_one Tryz.lays161 s c hc w
def Tryz.laysM316_ren : Go.Shelf.Ren := ⟨fun | 316 => 84 | n => n, fun | 9 => 9 | 3 => 3 | 4 => 4 | 37 => 82 | 0 => 0 | 127 => 106 | 5 => 5 | n => n, fun | n => n⟩
theorem Tryz.laysM316 : Go.Proofs.LaysM.n316 Tryz.prog Tryz.laysM316_ren := {
  mixed := by kernel_rfl
  f316 := Tryz.func84.trans (congrArg some (by kernel_rfl))
  t0 := Tryz.underlying0
  a0 := Tryz.isAgg0
  z0 := Tryz.sizeOf0
  v0 := Tryz.zeroValue0
  t3 := Tryz.underlying3
  a3 := Tryz.isAgg3
  z3 := Tryz.sizeOf3
  v3 := Tryz.zeroValue3
  t4 := Tryz.underlying4
  a4 := Tryz.isAgg4
  z4 := Tryz.sizeOf4
  v4 := Tryz.zeroValue4
  t9 := Tryz.underlying9
  a9 := Tryz.isAgg9
  z9 := Tryz.sizeOf9
  v9 := Tryz.zeroValue9
  t37 := Tryz.underlying82
  a37 := Tryz.isAgg82
  z37 := Tryz.sizeOf82
  v37 := Tryz.zeroValue82
  t127 := Tryz.underlying106
  a127 := Tryz.isAgg106
  z127 := Tryz.sizeOf106
  v127 := Tryz.zeroValue106
  t5 := Tryz.underlying5
  a5 := Tryz.isAgg5
  z5 := Tryz.sizeOf5
  v5 := Tryz.zeroValue5
  i0 := by kernel_rfl
  i3 := by kernel_rfl
  i4 := by kernel_rfl
  i5 := by kernel_rfl
  i9 := by kernel_rfl
  i37 := by kernel_rfl
  i127 := by kernel_rfl }
open Go.RowKit in
/-- internal/stringslite.Clone (what strings.Clone calls): "Clone returns a fresh copy of s.": THE SAME BYTES. Of what was there nothing has turned (a new row is laid, and frozen, where s is not empty). (LAID: no walk: one application.) -/
theorem Tryz.stringslite_Clone (s : ByteArray) (w : World) (hlim : s.size ≤ 281474976710656) :
    Calls Tryz.prog 84 #[.string s] w fun e w' => e = .returned (.string s) ∧ Below w.heap.size w w' := Any.stringslite_Clone Tryz.laysM316 s w hlim
def Tryz.laysC245_ren : Go.Shelf.Ren := ⟨fun | 245 => 54 | 279 => 71 | 280 => 72 | 281 => 73 | 282 => 74 | 316 => 84 | 171 => 86 | 205 => 85 | 243 => 92 | 246 => 97 | 283 => 98 | 284 => 99 | 285 => 100 | 286 => 101 | 129 => 103 | 317 => 102 | 318 => 104 | 319 => 105 | 320 => 106 | 337 => 107 | 338 => 108 | n => n, fun | 9 => 9 | 3 => 3 | 75 => 69 | 167 => 101 | 4 => 4 | 168 => 103 | 210 => 113 | 37 => 82 | 0 => 0 | 127 => 106 | 145 => 125 | 143 => 123 | 2 => 2 | 171 => 137 | 53 => 66 | 5 => 5 | 173 => 140 | 212 => 143 | 51 => 126 | 20 => 20 | 213 => 144 | 46 => 95 | 232 => 148 | 233 => 149 | 80 => 89 | n => n, fun | 15 => 3 | 16 => 4 | 17 => 6 | 18 => 7 | 19 => 8 | n => n⟩
theorem Tryz.laysC245 : Go.Proofs.LaysC.n245 Tryz.prog Tryz.laysC245_ren := {
  mixed := by kernel_rfl
  f129 := Tryz.func103.trans (congrArg some (by kernel_rfl))
  f171 := Tryz.func86.trans (congrArg some (by kernel_rfl))
  f205 := Tryz.func85.trans (congrArg some (by kernel_rfl))
  f243 := Tryz.func92.trans (congrArg some (by kernel_rfl))
  f245 := Tryz.func54.trans (congrArg some (by kernel_rfl))
  f246 := Tryz.func97.trans (congrArg some (by kernel_rfl))
  f279 := Tryz.func71.trans (congrArg some (by kernel_rfl))
  f280 := Tryz.func72.trans (congrArg some (by kernel_rfl))
  f281 := Tryz.func73.trans (congrArg some (by kernel_rfl))
  f282 := Tryz.func74.trans (congrArg some (by kernel_rfl))
  f283 := Tryz.func98.trans (congrArg some (by kernel_rfl))
  f284 := Tryz.func99.trans (congrArg some (by kernel_rfl))
  f285 := Tryz.func100.trans (congrArg some (by kernel_rfl))
  f286 := Tryz.func101.trans (congrArg some (by kernel_rfl))
  f316 := Tryz.func84.trans (congrArg some (by kernel_rfl))
  f317 := Tryz.func102.trans (congrArg some (by kernel_rfl))
  f318 := Tryz.func104.trans (congrArg some (by kernel_rfl))
  f319 := Tryz.func105.trans (congrArg some (by kernel_rfl))
  f320 := Tryz.func106.trans (congrArg some (by kernel_rfl))
  f337 := Tryz.func107.trans (congrArg some (by kernel_rfl))
  f338 := Tryz.func108.trans (congrArg some (by kernel_rfl))
  t0 := Tryz.underlying0
  a0 := Tryz.isAgg0
  z0 := Tryz.sizeOf0
  v0 := Tryz.zeroValue0
  t2 := Tryz.underlying2
  a2 := Tryz.isAgg2
  z2 := Tryz.sizeOf2
  v2 := Tryz.zeroValue2
  t3 := Tryz.underlying3
  a3 := Tryz.isAgg3
  z3 := Tryz.sizeOf3
  v3 := Tryz.zeroValue3
  t4 := Tryz.underlying4
  a4 := Tryz.isAgg4
  z4 := Tryz.sizeOf4
  v4 := Tryz.zeroValue4
  t5 := Tryz.underlying5
  a5 := Tryz.isAgg5
  z5 := Tryz.sizeOf5
  v5 := Tryz.zeroValue5
  t9 := Tryz.underlying9
  a9 := Tryz.isAgg9
  z9 := Tryz.sizeOf9
  v9 := Tryz.zeroValue9
  t20 := Tryz.underlying20
  a20 := Tryz.isAgg20
  z20 := Tryz.sizeOf20
  v20 := Tryz.zeroValue20
  t37 := Tryz.underlying82
  a37 := Tryz.isAgg82
  z37 := Tryz.sizeOf82
  v37 := Tryz.zeroValue82
  t46 := Tryz.underlying95
  a46 := Tryz.isAgg95
  z46 := Tryz.sizeOf95
  v46 := Tryz.zeroValue95
  t51 := Tryz.underlying126
  a51 := Tryz.isAgg126
  z51 := Tryz.sizeOf126
  v51 := Tryz.zeroValue126
  t53 := Tryz.underlying66
  a53 := Tryz.isAgg66
  z53 := Tryz.sizeOf66
  v53 := Tryz.zeroValue66
  t75 := Tryz.underlying69
  a75 := Tryz.isAgg69
  z75 := Tryz.sizeOf69
  v75 := Tryz.zeroValue69
  t127 := Tryz.underlying106
  a127 := Tryz.isAgg106
  z127 := Tryz.sizeOf106
  v127 := Tryz.zeroValue106
  t143 := Tryz.underlying123
  a143 := Tryz.isAgg123
  z143 := Tryz.sizeOf123
  v143 := Tryz.zeroValue123
  t145 := Tryz.underlying125
  a145 := Tryz.isAgg125
  z145 := Tryz.sizeOf125
  v145 := Tryz.zeroValue125
  t167 := Tryz.underlying101
  a167 := Tryz.isAgg101
  z167 := Tryz.sizeOf101
  v167 := Tryz.zeroValue101
  t168 := Tryz.underlying103
  a168 := Tryz.isAgg103
  z168 := Tryz.sizeOf103
  v168 := Tryz.zeroValue103
  t171 := Tryz.underlying137
  a171 := Tryz.isAgg137
  z171 := Tryz.sizeOf137
  v171 := Tryz.zeroValue137
  t173 := Tryz.underlying140
  a173 := Tryz.isAgg140
  z173 := Tryz.sizeOf140
  v173 := Tryz.zeroValue140
  t210 := Tryz.underlying113
  a210 := Tryz.isAgg113
  z210 := Tryz.sizeOf113
  v210 := Tryz.zeroValue113
  t212 := Tryz.underlying143
  a212 := Tryz.isAgg143
  z212 := Tryz.sizeOf143
  v212 := Tryz.zeroValue143
  t213 := Tryz.underlying144
  a213 := Tryz.isAgg144
  z213 := Tryz.sizeOf144
  t232 := Tryz.underlying148
  a232 := Tryz.isAgg148
  z232 := Tryz.sizeOf148
  v232 := Tryz.zeroValue148
  t233 := Tryz.underlying149
  a233 := Tryz.isAgg149
  z233 := Tryz.sizeOf149
  v233 := Tryz.zeroValue149
  g15 := by kernel_rfl
  g16 := by kernel_rfl
  g17 := by kernel_rfl
  g18 := by kernel_rfl
  g19 := by kernel_rfl
  t80 := Tryz.underlying89
  a80 := Tryz.isAgg89
  z80 := Tryz.sizeOf89
  v80 := Tryz.zeroValue89
  i0 := by kernel_rfl
  i2 := by kernel_rfl
  i3 := by kernel_rfl
  i4 := by kernel_rfl
  i5 := by kernel_rfl
  i9 := by kernel_rfl
  i20 := by kernel_rfl
  i37 := by kernel_rfl
  i46 := by kernel_rfl
  i51 := by kernel_rfl
  i53 := by kernel_rfl
  i75 := by kernel_rfl
  i80 := by kernel_rfl
  i127 := by kernel_rfl
  i143 := by kernel_rfl
  i145 := by kernel_rfl
  i167 := by kernel_rfl
  i168 := by kernel_rfl
  i171 := by kernel_rfl
  i173 := by kernel_rfl
  i210 := by kernel_rfl
  i212 := by kernel_rfl
  i232 := by kernel_rfl
  i233 := by kernel_rfl
  m15 := by kernel_rfl
  m16 := by kernel_rfl
  m17 := by kernel_rfl
  m18 := by kernel_rfl
  m19 := by kernel_rfl
  c0 := by kernel_rfl
  c2 := by kernel_rfl
  c3 := by kernel_rfl
  c4 := by kernel_rfl
  c5 := by kernel_rfl
  c9 := by kernel_rfl
  c20 := by kernel_rfl
  c37 := by kernel_rfl
  c46 := by kernel_rfl
  c51 := by kernel_rfl
  c53 := by kernel_rfl
  c75 := by kernel_rfl
  c80 := by kernel_rfl
  c127 := by kernel_rfl
  c143 := by kernel_rfl
  c145 := by kernel_rfl
  c167 := by kernel_rfl
  c168 := by kernel_rfl
  c171 := by kernel_rfl
  c173 := by kernel_rfl
  c210 := by kernel_rfl
  c212 := by kernel_rfl
  c213 := by kernel_rfl
  c232 := by kernel_rfl
  c233 := by kernel_rfl }
open Go.RowKit in
/-- strconv.toError, at the inner package's ErrSyntax: 'syntaxError(fn, s)' as an error: A *NumError IN A NEW BLOCK. (LAID: no walk: one application.) -/
theorem Tryz.strconv_toError_syntax (fn s : ByteArray) (base bits : Int) (ev : Value) (w : World) (hlim : s.size ≤ 281474976710656) (hv : w.cell? ⟨3, 0, none⟩ = some ev) (hev : ev = .nilIface ∨ ∃ te pe, ev = .iface te pe) :
    Calls Tryz.prog 54 #[.string fn, .string s, .int .i64 base, .int .i64 bits, .iface 101 (.int .i64 2)] w fun e w' => ∃ N, e = .returned (.iface 103 (.pointer (some ⟨N, 0, none⟩))) ∧ w.heap.size ≤ N ∧ w'.heap[N]? = some (.cells #[.string fn, .string s, ev] 113 (0, 0)) ∧ Below w.heap.size w w' := Any.strconv_toError_syntax Tryz.laysC245 fn s base bits ev w hlim hv hev
open Go.RowKit in
/-- strconv.toError, at the inner package's ErrRange: 'rangeError(fn, s)' as an error: A *NumError IN A NEW BLOCK. (LAID: no walk: one application.) -/
theorem Tryz.strconv_toError_range (fn s : ByteArray) (base bits : Int) (ev : Value) (w : World) (hlim : s.size ≤ 281474976710656) (hv : w.cell? ⟨4, 0, none⟩ = some ev) (hev : ev = .nilIface ∨ ∃ te pe, ev = .iface te pe) :
    Calls Tryz.prog 54 #[.string fn, .string s, .int .i64 base, .int .i64 bits, .iface 101 (.int .i64 1)] w fun e w' => ∃ N, e = .returned (.iface 103 (.pointer (some ⟨N, 0, none⟩))) ∧ w.heap.size ≤ N ∧ w'.heap[N]? = some (.cells #[.string fn, .string s, ev] 113 (0, 0)) ∧ Below w.heap.size w w' := Any.strconv_toError_range Tryz.laysC245 fn s base bits ev w hlim hv hev
end Go.Proofs
