/-
  DERIVED: THE SHELF's CONTRACTS AT THIS DUMP, IN PLAIN WORDS (tools/lay-plain.mjs out of 'YtgemeilncdmapaaGreatDoorIter.lean', which tools/lay-shelf.mjs wrote): THE SAME DECLARATIONS UNDER THE SAME NAMES: 'import', 'namespace', 'open', 'def', 'theorem' AND NOTHING ELSE: no command of the shelf's: FOR A HAND-IN. Each laying: the table of numbers ('.._ren') and one theorem, a field a fact of the dump's own or the kernel's comparison; each contract: ONE APPLICATION.
-/
import Derived.Shelf.Strings.Builder1
import Derived.Shelf.Strings.Builder2
import Derived.Shelf.Strings.OnBuilder
import Derived.Shelf.Strings.Trim
import Derived.Shelf.Small.Utf8
import Derived.Shelf.Small.Strs
import Derived.Shelf.Small.Wraps
import Derived.Shelf.Utf8.RuneCount
import Derived.Shelf.Strconv.Itoa0
import Derived.Shelf.Strconv.Itoa1
import Derived.Shelf.LaysM
import Derived.Shelf.Strconv.Itoa2
import Derived.Shelf.Strconv.Itoa3
import Derived.Shelf.Strconv.Itoa4
import Derived.Shelf.Strconv.ParseIntEmpty
import Derived.Shelf.Strconv.Clone
import Derived.Shelf.Strconv.SyntaxError
import Derived.Shelf.LaysC
import Derived.Shelf.Strconv.ToError
import Derived.Shelf.Strconv.Lower
import Derived.Shelf.Strconv.ParseUint10
import Derived.Shelf.Strconv.ParseUint10Empty
import Derived.Shelf.Strconv.ParseUint10Any
import Derived.Shelf.Strconv.ParseInt10
import Derived.Shelf.Strconv.RangeError
import Derived.Shelf.Strconv.ToErrorRange
import Derived.Shelf.Strconv.ParseUintEmpty
import Derived.Shelf.Strconv.ParseUint10b64
import Derived.Shelf.Strconv.ParseUint10b32
import Derived.Shelf.Strconv.ParseUint10b16
import Derived.Shelf.Strconv.ParseUint10b8
import Derived.Shelf.Strconv.ParseUint10At
import Derived.Shelf.Strconv.ParseInt10At64
import Derived.Shelf.Strconv.ParseInt10At32
import Derived.Shelf.Strconv.ParseInt10At16
import Derived.Shelf.Strconv.ParseInt10At8
import Derived.Shelf.Strconv.ParseInt10All
import Derived.Shelf.Strconv.ParseIntPublic10
import Derived.Shelf.Strings.Search1
import Derived.Shelf.Strings.Search2
import Derived.Shelf.Strings.Search3
import Derived.Shelf.Strings.Cut
import Derived.Shelf.Strings.Count
import Derived.Shelf.Strings.Shaped
import Derived.Shelf.Strings.Prefix
import Derived.Shelf.Strings.Split
import Derived.Shelf.Strings.SplitShaped
import Derived.Shelf.Unicode.Decode
import Derived.Shelf.Strings.Runes
import Derived.Shelf.Strings.RuneCount
import Derived.Shelf.Strings.AsciiSet
import Derived.Shelf.Strings.Explode
import Derived.Shelf.Unicode.DecodeSlow
import Derived.Shelf.Unicode.DecodeAny
import Derived.Shelf.Unicode.DecodeLast
import Derived.Test.YtgemeilncdmapaaGreatDoorProg
namespace Go.Proofs
open Go.Shelf
def Tryz.lays156_ren : Go.Shelf.Ren := ⟨fun | 156 => 25 | 165 => 50 | 166 => 41 | 169 => 43 | 240 => 78 | 241 => 86 | 276 => 103 | 277 => 111 | n => n, fun | 31 => 27 | 9 => 9 | 3 => 3 | 4 => 4 | 0 => 0 | 20 => 20 | 72 => 65 | 76 => 68 | 70 => 63 | 37 => 34 | 75 => 67 | 127 => 106 | 164 => 128 | 5 => 5 | 80 => 71 | n => n, fun | n => n⟩
theorem Tryz.lays156 : Go.Proofs.Lays.n156 Tryz.prog Tryz.lays156_ren := {
  mixed := by kernel_rfl
  f156 := Tryz.func25.trans (congrArg some (by kernel_rfl))
  f165 := Tryz.func50.trans (congrArg some (by kernel_rfl))
  f166 := Tryz.func41.trans (congrArg some (by kernel_rfl))
  f169 := Tryz.func43.trans (congrArg some (by kernel_rfl))
  f240 := Tryz.func78.trans (congrArg some (by kernel_rfl))
  f241 := Tryz.func86.trans (congrArg some (by kernel_rfl))
  f276 := Tryz.func103.trans (congrArg some (by kernel_rfl))
  f277 := Tryz.func111.trans (congrArg some (by kernel_rfl))
  t0 := Tryz.underlying0
  a0 := Tryz.isAgg0
  z0 := Tryz.sizeOf0
  v0 := Tryz.zeroValue0
  t3 := Tryz.underlying3
  a3 := Tryz.isAgg3
  z3 := Tryz.sizeOf3
  v3 := Tryz.zeroValue3
  t4 := Tryz.underlying4
  a4 := Tryz.isAgg4
  z4 := Tryz.sizeOf4
  v4 := Tryz.zeroValue4
  t9 := Tryz.underlying9
  a9 := Tryz.isAgg9
  z9 := Tryz.sizeOf9
  v9 := Tryz.zeroValue9
  t20 := Tryz.underlying20
  a20 := Tryz.isAgg20
  z20 := Tryz.sizeOf20
  v20 := Tryz.zeroValue20
  t31 := Tryz.underlying27
  a31 := Tryz.isAgg27
  z31 := Tryz.sizeOf27
  v31 := Tryz.zeroValue27
  t37 := Tryz.underlying34
  a37 := Tryz.isAgg34
  z37 := Tryz.sizeOf34
  v37 := Tryz.zeroValue34
  t70 := Tryz.underlying63
  a70 := Tryz.isAgg63
  z70 := Tryz.sizeOf63
  v70 := Tryz.zeroValue63
  t72 := Tryz.underlying65
  a72 := Tryz.isAgg65
  z72 := Tryz.sizeOf65
  v72 := Tryz.zeroValue65
  t75 := Tryz.underlying67
  a75 := Tryz.isAgg67
  z75 := Tryz.sizeOf67
  v75 := Tryz.zeroValue67
  t76 := Tryz.underlying68
  a76 := Tryz.isAgg68
  z76 := Tryz.sizeOf68
  v76 := Tryz.zeroValue68
  t127 := Tryz.underlying106
  a127 := Tryz.isAgg106
  z127 := Tryz.sizeOf106
  v127 := Tryz.zeroValue106
  t164 := Tryz.underlying128
  a164 := Tryz.isAgg128
  z164 := Tryz.sizeOf128
  v164 := Tryz.zeroValue128 }
theorem Tryz.Builder_Extra_156 : Builder.Extra Tryz.prog Tryz.lays156_ren := {
  sizeBuilder := by kernel_rfl
  liesBuilder := by kernel_rfl
  t5 := Tryz.underlying5
  a5 := Tryz.isAgg5
  z5 := Tryz.sizeOf5
  v5 := Tryz.zeroValue5
  infoByte := by kernel_rfl
  cellsByte := by kernel_rfl
  sizeByte := by kernel_rfl
  neB5 := by decide }
open Go.RowKit in
/-- strings.Join: "Join concatenates the elements of its first argument to create a single string. The separator string sep is placed between elements in the resulting string.": HOWEVER MANY ELEMENTS. Below the heap's end the world is as it was. (LAID: no walk: one application.) -/
theorem Tryz.strings_Join (bk o c : Nat) (xs : List ByteArray) (sep : ByteArray) (w : World) (hcells : ∀ (j : Nat) x, xs[j]? = some x → w.cell? ⟨bk, o + j, none⟩ = some (.string x)) (hbk : bk < w.heap.size) (hN : xs.length ≤ 140737488355328) (hcap : xs.length ≤ c) (hlen : (Lib.join (xs.map (·.data.toList)) sep.data.toList).length ≤ 140737488355328) :
    Calls Tryz.prog 25 #[.slice (some ⟨bk, o, none⟩) xs.length c, .string sep] w fun e w' => e = .returned (.string ⟨(Lib.join (xs.map (·.data.toList)) sep.data.toList).toArray⟩) ∧ Below w.heap.size w w' := Any.strings_Join Tryz.lays156 Tryz.Builder_Extra_156 bk o c xs sep w hcells hbk hN hcap hlen
def Tryz.lays160_ren : Go.Shelf.Ren := ⟨fun | 160 => 37 | 232 => 59 | 231 => 58 | 227 => 60 | 234 => 62 | 233 => 61 | 236 => 64 | 235 => 63 | 228 => 93 | 271 => 96 | 151 => 95 | 197 => 94 | 120 => 120 | 152 => 119 | 260 => 118 | 137 => 128 | 119 => 129 | 224 => 116 | 225 => 115 | 217 => 114 | 266 => 126 | n => n, fun | 9 => 9 | 4 => 4 | 3 => 3 | 5 => 5 | 117 => 87 | 116 => 86 | 0 => 0 | 124 => 90 | 21 => 21 | 105 => 118 | 46 => 72 | 119 => 146 | 139 => 149 | 138 => 148 | n => n, fun | 3 => 3 | 4 => 4 | n => n⟩
theorem Tryz.lays160 : Go.Proofs.Lays.n160 Tryz.prog Tryz.lays160_ren := {
  mixed := by kernel_rfl
  f119 := Tryz.func129.trans (congrArg some (by kernel_rfl))
  f120 := Tryz.func120.trans (congrArg some (by kernel_rfl))
  f137 := Tryz.func128.trans (congrArg some (by kernel_rfl))
  f151 := Tryz.func95.trans (congrArg some (by kernel_rfl))
  f152 := Tryz.func119.trans (congrArg some (by kernel_rfl))
  f160 := Tryz.func37.trans (congrArg some (by kernel_rfl))
  f197 := Tryz.func94.trans (congrArg some (by kernel_rfl))
  f217 := Tryz.func114.trans (congrArg some (by kernel_rfl))
  f224 := Tryz.func116.trans (congrArg some (by kernel_rfl))
  f225 := Tryz.func115.trans (congrArg some (by kernel_rfl))
  f227 := Tryz.func60.trans (congrArg some (by kernel_rfl))
  f228 := Tryz.func93.trans (congrArg some (by kernel_rfl))
  f231 := Tryz.func58.trans (congrArg some (by kernel_rfl))
  f232 := Tryz.func59.trans (congrArg some (by kernel_rfl))
  f233 := Tryz.func61.trans (congrArg some (by kernel_rfl))
  f234 := Tryz.func62.trans (congrArg some (by kernel_rfl))
  f235 := Tryz.func63.trans (congrArg some (by kernel_rfl))
  f236 := Tryz.func64.trans (congrArg some (by kernel_rfl))
  f260 := Tryz.func118.trans (congrArg some (by kernel_rfl))
  f266 := Tryz.func126.trans (congrArg some (by kernel_rfl))
  f271 := Tryz.func96.trans (congrArg some (by kernel_rfl))
  t0 := Tryz.underlying0
  a0 := Tryz.isAgg0
  z0 := Tryz.sizeOf0
  v0 := Tryz.zeroValue0
  t3 := Tryz.underlying3
  a3 := Tryz.isAgg3
  z3 := Tryz.sizeOf3
  v3 := Tryz.zeroValue3
  t4 := Tryz.underlying4
  a4 := Tryz.isAgg4
  z4 := Tryz.sizeOf4
  v4 := Tryz.zeroValue4
  t5 := Tryz.underlying5
  a5 := Tryz.isAgg5
  z5 := Tryz.sizeOf5
  v5 := Tryz.zeroValue5
  t9 := Tryz.underlying9
  a9 := Tryz.isAgg9
  z9 := Tryz.sizeOf9
  v9 := Tryz.zeroValue9
  t21 := Tryz.underlying21
  a21 := Tryz.isAgg21
  z21 := Tryz.sizeOf21
  v21 := Tryz.zeroValue21
  t46 := Tryz.underlying72
  a46 := Tryz.isAgg72
  z46 := Tryz.sizeOf72
  v46 := Tryz.zeroValue72
  t105 := Tryz.underlying118
  a105 := Tryz.isAgg118
  z105 := Tryz.sizeOf118
  v105 := Tryz.zeroValue118
  t116 := Tryz.underlying86
  a116 := Tryz.isAgg86
  z116 := Tryz.sizeOf86
  t117 := Tryz.underlying87
  a117 := Tryz.isAgg87
  z117 := Tryz.sizeOf87
  v117 := Tryz.zeroValue87
  t119 := Tryz.underlying146
  a119 := Tryz.isAgg146
  z119 := Tryz.sizeOf146
  t124 := Tryz.underlying90
  a124 := Tryz.isAgg90
  z124 := Tryz.sizeOf90
  v124 := Tryz.zeroValue90
  t138 := Tryz.underlying148
  a138 := Tryz.isAgg148
  z138 := Tryz.sizeOf148
  v138 := Tryz.zeroValue148
  t139 := Tryz.underlying149
  a139 := Tryz.isAgg149
  z139 := Tryz.sizeOf149
  v139 := Tryz.zeroValue149
  g3 := by kernel_rfl
  g4 := by kernel_rfl }
def Tryz.lays103_ren : Go.Shelf.Ren := ⟨fun | 103 => 98 | 210 => 123 | 206 => 132 | n => n, fun | 9 => 9 | 4 => 4 | 24 => 123 | 3 => 3 | n => n, fun | n => n⟩
theorem Tryz.lays103 : Go.Proofs.Lays.n103 Tryz.prog Tryz.lays103_ren := {
  mixed := by kernel_rfl
  f103 := Tryz.func98.trans (congrArg some (by kernel_rfl))
  f206 := Tryz.func132.trans (congrArg some (by kernel_rfl))
  f210 := Tryz.func123.trans (congrArg some (by kernel_rfl))
  t3 := Tryz.underlying3
  a3 := Tryz.isAgg3
  z3 := Tryz.sizeOf3
  v3 := Tryz.zeroValue3
  t4 := Tryz.underlying4
  a4 := Tryz.isAgg4
  z4 := Tryz.sizeOf4
  v4 := Tryz.zeroValue4
  t9 := Tryz.underlying9
  a9 := Tryz.isAgg9
  z9 := Tryz.sizeOf9
  v9 := Tryz.zeroValue9
  t24 := Tryz.underlying123
  a24 := Tryz.isAgg123
  z24 := Tryz.sizeOf123
  v24 := Tryz.zeroValue123 }
open Go.RowKit in
/-- strings.CutPrefix: "CutPrefix returns s without the provided leading prefix string and reports whether it found the prefix. If s doesn't start with prefix, CutPrefix returns s, false. If prefix is the empty string, CutPrefix returns s, true.": IT RETURNS '(Lib.trimPrefix s p, Lib.hasPrefix s p)'; the world is as it was. (LAID: no walk: one application.) -/
theorem Tryz.strings_CutPrefix (s p : ByteArray) (w : World) :
    Calls Tryz.prog 98 #[.string s, .string p] w fun e w' => e = .returned (.tuple #[.string ⟨(Lib.trimPrefix s.data.toList p.data.toList).toArray⟩, .bool (Lib.hasPrefix s.data.toList p.data.toList)]) ∧ w' = w := Any.strings_CutPrefix Tryz.lays103 s p w
def Tryz.lays283_ren : Go.Shelf.Ren := ⟨fun | 283 => 81 | n => n, fun | 3 => 3 | 9 => 9 | 4 => 4 | n => n, fun | n => n⟩
theorem Tryz.lays283 : Go.Proofs.Lays.n283 Tryz.prog Tryz.lays283_ren := {
  mixed := by kernel_rfl
  f283 := Tryz.func81.trans (congrArg some (by kernel_rfl))
  t3 := Tryz.underlying3
  a3 := Tryz.isAgg3
  z3 := Tryz.sizeOf3
  v3 := Tryz.zeroValue3
  t4 := Tryz.underlying4
  a4 := Tryz.isAgg4
  z4 := Tryz.sizeOf4
  v4 := Tryz.zeroValue4
  t9 := Tryz.underlying9
  a9 := Tryz.isAgg9
  z9 := Tryz.sizeOf9
  v9 := Tryz.zeroValue9 }
open Go.Lib in
/-- internal/strconv.small: "small returns the string for an i with 0 <= i < nSmalls.": i's decimal numeral. The world is as it was. (LAID: no walk: one application.) -/
theorem Tryz.internal_strconv_small (i : Nat) (h : i < 100) (w : World) :
    Calls Tryz.prog 81 #[.int .i64 i] w fun e w' => e = .returned (.string ⟨(Lib.decDigits i).toArray⟩) ∧ w' = w := Any.internal_strconv_small Tryz.lays283 i h w
def Tryz.laysM284_ren : Go.Shelf.Ren := ⟨fun | 284 => 82 | 129 => 107 | 317 => 106 | 318 => 108 | n => n, fun | 53 => 48 | 3 => 3 | 212 => 132 | 0 => 0 | 4 => 4 | 46 => 72 | 5 => 5 | 9 => 9 | n => n, fun | 17 => 0 | n => n⟩
theorem Tryz.laysM284 : Go.Proofs.LaysM.n284 Tryz.prog Tryz.laysM284_ren := {
  mixed := by kernel_rfl
  f129 := Tryz.func107.trans (congrArg some (by kernel_rfl))
  f284 := Tryz.func82.trans (congrArg some (by kernel_rfl))
  f317 := Tryz.func106.trans (congrArg some (by kernel_rfl))
  f318 := Tryz.func108.trans (congrArg some (by kernel_rfl))
  t0 := Tryz.underlying0
  a0 := Tryz.isAgg0
  z0 := Tryz.sizeOf0
  v0 := Tryz.zeroValue0
  t3 := Tryz.underlying3
  a3 := Tryz.isAgg3
  z3 := Tryz.sizeOf3
  v3 := Tryz.zeroValue3
  t4 := Tryz.underlying4
  a4 := Tryz.isAgg4
  z4 := Tryz.sizeOf4
  v4 := Tryz.zeroValue4
  t5 := Tryz.underlying5
  a5 := Tryz.isAgg5
  z5 := Tryz.sizeOf5
  v5 := Tryz.zeroValue5
  t9 := Tryz.underlying9
  a9 := Tryz.isAgg9
  z9 := Tryz.sizeOf9
  v9 := Tryz.zeroValue9
  t46 := Tryz.underlying72
  a46 := Tryz.isAgg72
  z46 := Tryz.sizeOf72
  v46 := Tryz.zeroValue72
  t53 := Tryz.underlying48
  a53 := Tryz.isAgg48
  z53 := Tryz.sizeOf48
  v53 := Tryz.zeroValue48
  t212 := Tryz.underlying132
  a212 := Tryz.isAgg132
  z212 := Tryz.sizeOf132
  v212 := Tryz.zeroValue132
  g17 := by kernel_rfl
  i0 := by kernel_rfl
  i3 := by kernel_rfl
  i4 := by kernel_rfl
  i5 := by kernel_rfl
  i9 := by kernel_rfl
  i46 := by kernel_rfl
  i53 := by kernel_rfl
  i212 := by kernel_rfl
  m17 := by kernel_rfl }
open Go.Lib in
/-- internal/strconv.numDigits, at a d that is not 0: THE NUMBER OF d's DECIMAL DIGITS. The world is as it was. (LAID: no walk: one application.) -/
theorem Tryz.internal_strconv_numDigits (u : Nat) (h1 : 1 ≤ u) (h2 : u < 18446744073709551616) (w : World) (htab : Lib.TabIs Tryz.prog w "internal/strconv.uint64pow10" .u64 Lib.pow10Tab) :
    Calls Tryz.prog 82 #[.int .u64 u] w fun e w' => e = .returned (.int .i64 (Lib.nDigits u)) ∧ w' = w := Any.internal_strconv_numDigits Tryz.laysM284 u h1 h2 w htab
def Tryz.lays285_ren : Go.Shelf.Ren := ⟨fun | 285 => 83 | n => n, fun | 37 => 34 | 53 => 48 | 3 => 3 | 4 => 4 | 51 => 23 | 9 => 9 | 5 => 5 | 0 => 0 | n => n, fun | n => n⟩
theorem Tryz.lays285 : Go.Proofs.Lays.n285 Tryz.prog Tryz.lays285_ren := {
  mixed := by kernel_rfl
  f285 := Tryz.func83.trans (congrArg some (by kernel_rfl))
  t0 := Tryz.underlying0
  a0 := Tryz.isAgg0
  z0 := Tryz.sizeOf0
  v0 := Tryz.zeroValue0
  t3 := Tryz.underlying3
  a3 := Tryz.isAgg3
  z3 := Tryz.sizeOf3
  v3 := Tryz.zeroValue3
  t4 := Tryz.underlying4
  a4 := Tryz.isAgg4
  z4 := Tryz.sizeOf4
  v4 := Tryz.zeroValue4
  t5 := Tryz.underlying5
  a5 := Tryz.isAgg5
  z5 := Tryz.sizeOf5
  v5 := Tryz.zeroValue5
  t9 := Tryz.underlying9
  a9 := Tryz.isAgg9
  z9 := Tryz.sizeOf9
  v9 := Tryz.zeroValue9
  t37 := Tryz.underlying34
  a37 := Tryz.isAgg34
  z37 := Tryz.sizeOf34
  v37 := Tryz.zeroValue34
  t51 := Tryz.underlying23
  a51 := Tryz.isAgg23
  z51 := Tryz.sizeOf23
  v51 := Tryz.zeroValue23
  t53 := Tryz.underlying48
  a53 := Tryz.isAgg48
  z53 := Tryz.sizeOf48
  v53 := Tryz.zeroValue48 }
open Go.RowKit Go.Sort Go.Lib in
/-- internal/strconv.formatBase10: "formatBase10 formats the decimal representation of u into a. The caller is responsible for ensuring that a is big enough to hold u. If a is too big, leading zeros will be filled in as needed.": THE ROW HOLDS u's DIGITS ('FmtInv .. 0 ..': every place t holds 'dg u (len - 1 - t)'); all else is as it was but for the count of draws. (LAID: no walk: one application.) -/
theorem Tryz.internal_strconv_formatBase10 (blk off cap : Nat) (u : Nat) (d : Array UInt8) (w : World) (hH : Holds (fun (b : UInt8) => Value.int .u8 (b.toNat : Int)) w blk off d) (hu : u < 10 ^ d.size) (hu64 : u < 18446744073709551616) (hsz : d.size < 4611686018427387904) :
    Calls Tryz.prog 83 #[.slice (some ⟨blk, off, none⟩) d.size cap, .int .u64 u] w fun e w' =>
      e = .returned (.tuple #[]) ∧ ∃ (n v' : Nat) (dk : Array UInt8), w' = (putRow (fun (b : UInt8) => Value.int .u8 (b.toNat : Int)) w blk off dk).drewN n ∧ FmtInv d.size u 0 v' dk := Any.internal_strconv_formatBase10 Tryz.lays285 blk off cap u d w hH hu hu64 hsz
def Tryz.laysM171_ren : Go.Shelf.Ren := ⟨fun | 171 => 23 | 243 => 47 | 246 => 85 | 283 => 81 | 284 => 82 | 285 => 83 | 286 => 84 | 129 => 107 | 317 => 106 | 318 => 108 | 319 => 109 | 320 => 110 | 337 => 124 | 338 => 125 | n => n, fun | 3 => 3 | 9 => 9 | 2 => 2 | 4 => 4 | 171 => 108 | 0 => 0 | 53 => 48 | 37 => 34 | 5 => 5 | 173 => 111 | 212 => 132 | 51 => 23 | 20 => 20 | 213 => 133 | 46 => 72 | 232 => 153 | 233 => 154 | n => n, fun | 17 => 0 | 18 => 5 | 19 => 6 | n => n⟩
theorem Tryz.laysM171 : Go.Proofs.LaysM.n171 Tryz.prog Tryz.laysM171_ren := {
  mixed := by kernel_rfl
  f129 := Tryz.func107.trans (congrArg some (by kernel_rfl))
  f171 := Tryz.func23.trans (congrArg some (by kernel_rfl))
  f243 := Tryz.func47.trans (congrArg some (by kernel_rfl))
  f246 := Tryz.func85.trans (congrArg some (by kernel_rfl))
  f283 := Tryz.func81.trans (congrArg some (by kernel_rfl))
  f284 := Tryz.func82.trans (congrArg some (by kernel_rfl))
  f285 := Tryz.func83.trans (congrArg some (by kernel_rfl))
  f286 := Tryz.func84.trans (congrArg some (by kernel_rfl))
  f317 := Tryz.func106.trans (congrArg some (by kernel_rfl))
  f318 := Tryz.func108.trans (congrArg some (by kernel_rfl))
  f319 := Tryz.func109.trans (congrArg some (by kernel_rfl))
  f320 := Tryz.func110.trans (congrArg some (by kernel_rfl))
  f337 := Tryz.func124.trans (congrArg some (by kernel_rfl))
  f338 := Tryz.func125.trans (congrArg some (by kernel_rfl))
  t0 := Tryz.underlying0
  a0 := Tryz.isAgg0
  z0 := Tryz.sizeOf0
  v0 := Tryz.zeroValue0
  t2 := Tryz.underlying2
  a2 := Tryz.isAgg2
  z2 := Tryz.sizeOf2
  v2 := Tryz.zeroValue2
  t3 := Tryz.underlying3
  a3 := Tryz.isAgg3
  z3 := Tryz.sizeOf3
  v3 := Tryz.zeroValue3
  t4 := Tryz.underlying4
  a4 := Tryz.isAgg4
  z4 := Tryz.sizeOf4
  v4 := Tryz.zeroValue4
  t5 := Tryz.underlying5
  a5 := Tryz.isAgg5
  z5 := Tryz.sizeOf5
  v5 := Tryz.zeroValue5
  t9 := Tryz.underlying9
  a9 := Tryz.isAgg9
  z9 := Tryz.sizeOf9
  v9 := Tryz.zeroValue9
  t20 := Tryz.underlying20
  a20 := Tryz.isAgg20
  z20 := Tryz.sizeOf20
  v20 := Tryz.zeroValue20
  t37 := Tryz.underlying34
  a37 := Tryz.isAgg34
  z37 := Tryz.sizeOf34
  v37 := Tryz.zeroValue34
  t46 := Tryz.underlying72
  a46 := Tryz.isAgg72
  z46 := Tryz.sizeOf72
  v46 := Tryz.zeroValue72
  t51 := Tryz.underlying23
  a51 := Tryz.isAgg23
  z51 := Tryz.sizeOf23
  v51 := Tryz.zeroValue23
  t53 := Tryz.underlying48
  a53 := Tryz.isAgg48
  z53 := Tryz.sizeOf48
  v53 := Tryz.zeroValue48
  t171 := Tryz.underlying108
  a171 := Tryz.isAgg108
  z171 := Tryz.sizeOf108
  v171 := Tryz.zeroValue108
  t173 := Tryz.underlying111
  a173 := Tryz.isAgg111
  z173 := Tryz.sizeOf111
  v173 := Tryz.zeroValue111
  t212 := Tryz.underlying132
  a212 := Tryz.isAgg132
  z212 := Tryz.sizeOf132
  v212 := Tryz.zeroValue132
  t213 := Tryz.underlying133
  a213 := Tryz.isAgg133
  z213 := Tryz.sizeOf133
  t232 := Tryz.underlying153
  a232 := Tryz.isAgg153
  z232 := Tryz.sizeOf153
  v232 := Tryz.zeroValue153
  t233 := Tryz.underlying154
  a233 := Tryz.isAgg154
  z233 := Tryz.sizeOf154
  v233 := Tryz.zeroValue154
  g17 := by kernel_rfl
  g18 := by kernel_rfl
  g19 := by kernel_rfl
  i0 := by kernel_rfl
  i2 := by kernel_rfl
  i3 := by kernel_rfl
  i4 := by kernel_rfl
  i5 := by kernel_rfl
  i9 := by kernel_rfl
  i20 := by kernel_rfl
  i37 := by kernel_rfl
  i46 := by kernel_rfl
  i51 := by kernel_rfl
  i53 := by kernel_rfl
  i171 := by kernel_rfl
  i173 := by kernel_rfl
  i212 := by kernel_rfl
  i232 := by kernel_rfl
  i233 := by kernel_rfl
  m17 := by kernel_rfl
  m18 := by kernel_rfl
  m19 := by kernel_rfl }
open Go.RowKit Go.Sort Go.Lib in
/-- strconv.Itoa: "Itoa is equivalent to FormatInt(int64(i), 10).": i's DECIMAL NUMERAL ('Lib.itoa': a '-' where i is negative, then the digits), FOR EVERY int. The world behind the call: the world before it, new blocks behind the heap (the library's 'var a [24]byte'), draws. (LAID: no walk: one application.) -/
theorem Tryz.strconv_Itoa (n : Int) (h0 : -9223372036854775808 ≤ n) (h1 : n ≤ 9223372036854775807) (w : World) (htab : Lib.TabIs Tryz.prog w "internal/strconv.uint64pow10" .u64 Lib.pow10Tab) :
    Calls Tryz.prog 23 #[.int .i64 n] w fun e w' => e = .returned (.string ⟨(Lib.itoa n).toArray⟩) ∧ ∃ k os, w' = grow (w.drewN k) os := Any.strconv_Itoa Tryz.laysM171 n h0 h1 w htab
def Tryz.laysM173_ren : Go.Shelf.Ren := ⟨fun | 173 => 122 | 246 => 85 | 283 => 81 | 284 => 82 | 285 => 83 | 286 => 84 | 129 => 107 | 317 => 106 | 318 => 108 | 319 => 109 | 320 => 110 | 337 => 124 | 338 => 125 | n => n, fun | 2 => 2 | 3 => 3 | 9 => 9 | 4 => 4 | 171 => 108 | 0 => 0 | 53 => 48 | 37 => 34 | 5 => 5 | 173 => 111 | 212 => 132 | 51 => 23 | 20 => 20 | 213 => 133 | 46 => 72 | 232 => 153 | 233 => 154 | n => n, fun | 17 => 0 | 18 => 5 | 19 => 6 | n => n⟩
theorem Tryz.laysM173 : Go.Proofs.LaysM.n173 Tryz.prog Tryz.laysM173_ren := {
  mixed := by kernel_rfl
  f129 := Tryz.func107.trans (congrArg some (by kernel_rfl))
  f173 := Tryz.func122.trans (congrArg some (by kernel_rfl))
  f246 := Tryz.func85.trans (congrArg some (by kernel_rfl))
  f283 := Tryz.func81.trans (congrArg some (by kernel_rfl))
  f284 := Tryz.func82.trans (congrArg some (by kernel_rfl))
  f285 := Tryz.func83.trans (congrArg some (by kernel_rfl))
  f286 := Tryz.func84.trans (congrArg some (by kernel_rfl))
  f317 := Tryz.func106.trans (congrArg some (by kernel_rfl))
  f318 := Tryz.func108.trans (congrArg some (by kernel_rfl))
  f319 := Tryz.func109.trans (congrArg some (by kernel_rfl))
  f320 := Tryz.func110.trans (congrArg some (by kernel_rfl))
  f337 := Tryz.func124.trans (congrArg some (by kernel_rfl))
  f338 := Tryz.func125.trans (congrArg some (by kernel_rfl))
  t0 := Tryz.underlying0
  a0 := Tryz.isAgg0
  z0 := Tryz.sizeOf0
  v0 := Tryz.zeroValue0
  t2 := Tryz.underlying2
  a2 := Tryz.isAgg2
  z2 := Tryz.sizeOf2
  v2 := Tryz.zeroValue2
  t3 := Tryz.underlying3
  a3 := Tryz.isAgg3
  z3 := Tryz.sizeOf3
  v3 := Tryz.zeroValue3
  t4 := Tryz.underlying4
  a4 := Tryz.isAgg4
  z4 := Tryz.sizeOf4
  v4 := Tryz.zeroValue4
  t5 := Tryz.underlying5
  a5 := Tryz.isAgg5
  z5 := Tryz.sizeOf5
  v5 := Tryz.zeroValue5
  t9 := Tryz.underlying9
  a9 := Tryz.isAgg9
  z9 := Tryz.sizeOf9
  v9 := Tryz.zeroValue9
  t20 := Tryz.underlying20
  a20 := Tryz.isAgg20
  z20 := Tryz.sizeOf20
  v20 := Tryz.zeroValue20
  t37 := Tryz.underlying34
  a37 := Tryz.isAgg34
  z37 := Tryz.sizeOf34
  v37 := Tryz.zeroValue34
  t46 := Tryz.underlying72
  a46 := Tryz.isAgg72
  z46 := Tryz.sizeOf72
  v46 := Tryz.zeroValue72
  t51 := Tryz.underlying23
  a51 := Tryz.isAgg23
  z51 := Tryz.sizeOf23
  v51 := Tryz.zeroValue23
  t53 := Tryz.underlying48
  a53 := Tryz.isAgg48
  z53 := Tryz.sizeOf48
  v53 := Tryz.zeroValue48
  t171 := Tryz.underlying108
  a171 := Tryz.isAgg108
  z171 := Tryz.sizeOf108
  v171 := Tryz.zeroValue108
  t173 := Tryz.underlying111
  a173 := Tryz.isAgg111
  z173 := Tryz.sizeOf111
  v173 := Tryz.zeroValue111
  t212 := Tryz.underlying132
  a212 := Tryz.isAgg132
  z212 := Tryz.sizeOf132
  v212 := Tryz.zeroValue132
  t213 := Tryz.underlying133
  a213 := Tryz.isAgg133
  z213 := Tryz.sizeOf133
  t232 := Tryz.underlying153
  a232 := Tryz.isAgg153
  z232 := Tryz.sizeOf153
  v232 := Tryz.zeroValue153
  t233 := Tryz.underlying154
  a233 := Tryz.isAgg154
  z233 := Tryz.sizeOf154
  v233 := Tryz.zeroValue154
  g17 := by kernel_rfl
  g18 := by kernel_rfl
  g19 := by kernel_rfl
  i0 := by kernel_rfl
  i2 := by kernel_rfl
  i3 := by kernel_rfl
  i4 := by kernel_rfl
  i5 := by kernel_rfl
  i9 := by kernel_rfl
  i20 := by kernel_rfl
  i37 := by kernel_rfl
  i46 := by kernel_rfl
  i51 := by kernel_rfl
  i53 := by kernel_rfl
  i171 := by kernel_rfl
  i173 := by kernel_rfl
  i212 := by kernel_rfl
  i232 := by kernel_rfl
  i233 := by kernel_rfl
  m17 := by kernel_rfl
  m18 := by kernel_rfl
  m19 := by kernel_rfl }
open Go.RowKit Go.Sort Go.Lib in
/-- strconv.FormatInt: "FormatInt returns the string representation of i in the given base": AT BASE 10: i's decimal numeral, for every int64. (LAID: no walk: one application.) -/
theorem Tryz.strconv_FormatInt_10 (n : Int) (h0 : -9223372036854775808 ≤ n) (h1 : n ≤ 9223372036854775807) (w : World) (htab : Lib.TabIs Tryz.prog w "internal/strconv.uint64pow10" .u64 Lib.pow10Tab) :
    Calls Tryz.prog 122 #[.int .i64 n, .int .i64 10] w fun e w' => e = .returned (.string ⟨(Lib.itoa n).toArray⟩) ∧ ∃ k os, w' = grow (w.drewN k) os := Any.strconv_FormatInt_10 Tryz.laysM173 n h0 h1 w htab
def Tryz.laysC174_ren : Go.Shelf.Ren := ⟨fun | 174 => 121 | 247 => 130 | 245 => 131 | 287 => 133 | 279 => 134 | 280 => 135 | 281 => 136 | 282 => 137 | 321 => 138 | 322 => 139 | 316 => 140 | 171 => 23 | 205 => 141 | 243 => 47 | 246 => 85 | 283 => 81 | 284 => 82 | 285 => 83 | 286 => 84 | 129 => 107 | 317 => 106 | 318 => 108 | 319 => 109 | 320 => 110 | 337 => 124 | 338 => 125 | n => n, fun | 9 => 9 | 3 => 3 | 2 => 2 | 75 => 67 | 85 => 140 | 4 => 4 | 167 => 155 | 5 => 5 | 53 => 48 | 175 => 156 | 46 => 72 | 168 => 158 | 37 => 34 | 0 => 0 | 210 => 163 | 21 => 21 | 127 => 106 | 145 => 167 | 143 => 165 | 171 => 108 | 173 => 111 | 212 => 132 | 51 => 23 | 20 => 20 | 213 => 133 | 232 => 153 | 233 => 154 | 80 => 71 | n => n, fun | 15 => 7 | 16 => 8 | 17 => 0 | 18 => 5 | 19 => 6 | n => n⟩
theorem Tryz.laysC174 : Go.Proofs.LaysC.n174 Tryz.prog Tryz.laysC174_ren := {
  mixed := by kernel_rfl
  f129 := Tryz.func107.trans (congrArg some (by kernel_rfl))
  f171 := Tryz.func23.trans (congrArg some (by kernel_rfl))
  f174 := Tryz.func121.trans (congrArg some (by kernel_rfl))
  f205 := Tryz.func141.trans (congrArg some (by kernel_rfl))
  f243 := Tryz.func47.trans (congrArg some (by kernel_rfl))
  f245 := Tryz.func131.trans (congrArg some (by kernel_rfl))
  f246 := Tryz.func85.trans (congrArg some (by kernel_rfl))
  f247 := Tryz.func130.trans (congrArg some (by kernel_rfl))
  f279 := Tryz.func134.trans (congrArg some (by kernel_rfl))
  f280 := Tryz.func135.trans (congrArg some (by kernel_rfl))
  f281 := Tryz.func136.trans (congrArg some (by kernel_rfl))
  f282 := Tryz.func137.trans (congrArg some (by kernel_rfl))
  f283 := Tryz.func81.trans (congrArg some (by kernel_rfl))
  f284 := Tryz.func82.trans (congrArg some (by kernel_rfl))
  f285 := Tryz.func83.trans (congrArg some (by kernel_rfl))
  f286 := Tryz.func84.trans (congrArg some (by kernel_rfl))
  f287 := Tryz.func133.trans (congrArg some (by kernel_rfl))
  f316 := Tryz.func140.trans (congrArg some (by kernel_rfl))
  f317 := Tryz.func106.trans (congrArg some (by kernel_rfl))
  f318 := Tryz.func108.trans (congrArg some (by kernel_rfl))
  f319 := Tryz.func109.trans (congrArg some (by kernel_rfl))
  f320 := Tryz.func110.trans (congrArg some (by kernel_rfl))
  f321 := Tryz.func138.trans (congrArg some (by kernel_rfl))
  f322 := Tryz.func139.trans (congrArg some (by kernel_rfl))
  f337 := Tryz.func124.trans (congrArg some (by kernel_rfl))
  f338 := Tryz.func125.trans (congrArg some (by kernel_rfl))
  t0 := Tryz.underlying0
  a0 := Tryz.isAgg0
  z0 := Tryz.sizeOf0
  v0 := Tryz.zeroValue0
  t2 := Tryz.underlying2
  a2 := Tryz.isAgg2
  z2 := Tryz.sizeOf2
  v2 := Tryz.zeroValue2
  t3 := Tryz.underlying3
  a3 := Tryz.isAgg3
  z3 := Tryz.sizeOf3
  v3 := Tryz.zeroValue3
  t4 := Tryz.underlying4
  a4 := Tryz.isAgg4
  z4 := Tryz.sizeOf4
  v4 := Tryz.zeroValue4
  t5 := Tryz.underlying5
  a5 := Tryz.isAgg5
  z5 := Tryz.sizeOf5
  v5 := Tryz.zeroValue5
  t9 := Tryz.underlying9
  a9 := Tryz.isAgg9
  z9 := Tryz.sizeOf9
  v9 := Tryz.zeroValue9
  t20 := Tryz.underlying20
  a20 := Tryz.isAgg20
  z20 := Tryz.sizeOf20
  v20 := Tryz.zeroValue20
  t21 := Tryz.underlying21
  a21 := Tryz.isAgg21
  z21 := Tryz.sizeOf21
  v21 := Tryz.zeroValue21
  t37 := Tryz.underlying34
  a37 := Tryz.isAgg34
  z37 := Tryz.sizeOf34
  v37 := Tryz.zeroValue34
  t46 := Tryz.underlying72
  a46 := Tryz.isAgg72
  z46 := Tryz.sizeOf72
  v46 := Tryz.zeroValue72
  t51 := Tryz.underlying23
  a51 := Tryz.isAgg23
  z51 := Tryz.sizeOf23
  v51 := Tryz.zeroValue23
  t53 := Tryz.underlying48
  a53 := Tryz.isAgg48
  z53 := Tryz.sizeOf48
  v53 := Tryz.zeroValue48
  t75 := Tryz.underlying67
  a75 := Tryz.isAgg67
  z75 := Tryz.sizeOf67
  v75 := Tryz.zeroValue67
  t85 := Tryz.underlying140
  a85 := Tryz.isAgg140
  z85 := Tryz.sizeOf140
  v85 := Tryz.zeroValue140
  t127 := Tryz.underlying106
  a127 := Tryz.isAgg106
  z127 := Tryz.sizeOf106
  v127 := Tryz.zeroValue106
  t143 := Tryz.underlying165
  a143 := Tryz.isAgg165
  z143 := Tryz.sizeOf165
  v143 := Tryz.zeroValue165
  t145 := Tryz.underlying167
  a145 := Tryz.isAgg167
  z145 := Tryz.sizeOf167
  v145 := Tryz.zeroValue167
  t167 := Tryz.underlying155
  a167 := Tryz.isAgg155
  z167 := Tryz.sizeOf155
  v167 := Tryz.zeroValue155
  t168 := Tryz.underlying158
  a168 := Tryz.isAgg158
  z168 := Tryz.sizeOf158
  v168 := Tryz.zeroValue158
  t171 := Tryz.underlying108
  a171 := Tryz.isAgg108
  z171 := Tryz.sizeOf108
  v171 := Tryz.zeroValue108
  t173 := Tryz.underlying111
  a173 := Tryz.isAgg111
  z173 := Tryz.sizeOf111
  v173 := Tryz.zeroValue111
  t175 := Tryz.underlying156
  a175 := Tryz.isAgg156
  z175 := Tryz.sizeOf156
  v175 := Tryz.zeroValue156
  t210 := Tryz.underlying163
  a210 := Tryz.isAgg163
  z210 := Tryz.sizeOf163
  v210 := Tryz.zeroValue163
  t212 := Tryz.underlying132
  a212 := Tryz.isAgg132
  z212 := Tryz.sizeOf132
  v212 := Tryz.zeroValue132
  t213 := Tryz.underlying133
  a213 := Tryz.isAgg133
  z213 := Tryz.sizeOf133
  t232 := Tryz.underlying153
  a232 := Tryz.isAgg153
  z232 := Tryz.sizeOf153
  v232 := Tryz.zeroValue153
  t233 := Tryz.underlying154
  a233 := Tryz.isAgg154
  z233 := Tryz.sizeOf154
  v233 := Tryz.zeroValue154
  g15 := by kernel_rfl
  g16 := by kernel_rfl
  g17 := by kernel_rfl
  g18 := by kernel_rfl
  g19 := by kernel_rfl
  t80 := Tryz.underlying71
  a80 := Tryz.isAgg71
  z80 := Tryz.sizeOf71
  v80 := Tryz.zeroValue71
  i0 := by kernel_rfl
  i2 := by kernel_rfl
  i3 := by kernel_rfl
  i4 := by kernel_rfl
  i5 := by kernel_rfl
  i9 := by kernel_rfl
  i20 := by kernel_rfl
  i21 := by kernel_rfl
  i37 := by kernel_rfl
  i46 := by kernel_rfl
  i51 := by kernel_rfl
  i53 := by kernel_rfl
  i75 := by kernel_rfl
  i80 := by kernel_rfl
  i85 := by kernel_rfl
  i127 := by kernel_rfl
  i143 := by kernel_rfl
  i145 := by kernel_rfl
  i167 := by kernel_rfl
  i168 := by kernel_rfl
  i171 := by kernel_rfl
  i173 := by kernel_rfl
  i175 := by kernel_rfl
  i210 := by kernel_rfl
  i212 := by kernel_rfl
  i232 := by kernel_rfl
  i233 := by kernel_rfl
  m15 := by kernel_rfl
  m16 := by kernel_rfl
  m17 := by kernel_rfl
  m18 := by kernel_rfl
  m19 := by kernel_rfl
  c0 := by kernel_rfl
  c2 := by kernel_rfl
  c3 := by kernel_rfl
  c4 := by kernel_rfl
  c5 := by kernel_rfl
  c9 := by kernel_rfl
  c20 := by kernel_rfl
  c21 := by kernel_rfl
  c37 := by kernel_rfl
  c46 := by kernel_rfl
  c51 := by kernel_rfl
  c53 := by kernel_rfl
  c75 := by kernel_rfl
  c80 := by kernel_rfl
  c85 := by kernel_rfl
  c127 := by kernel_rfl
  c143 := by kernel_rfl
  c145 := by kernel_rfl
  c167 := by kernel_rfl
  c168 := by kernel_rfl
  c171 := by kernel_rfl
  c173 := by kernel_rfl
  c175 := by kernel_rfl
  c210 := by kernel_rfl
  c212 := by kernel_rfl
  c213 := by kernel_rfl
  c232 := by kernel_rfl
  c233 := by kernel_rfl }
open Go.RowKit in
/-- strconv.ParseInt(s, 10, 64), AT EVERY STRING THAT SPELLS AN int64 ('Lib.parseIntB 64 s.data.toList = .ok v'): v, AND NO ERROR. (LAID: no walk: one application.) -/
theorem Tryz.strconv_ParseInt_10_at64_ok (s : ByteArray) (hmax : s.size ≤ 9223372036854775806) (v : Int) (h : Lib.parseIntB 64 s.data.toList = .ok v) (w : World) :
    Calls Tryz.prog 121 #[.string s, .int .i64 10, .int .i64 64] w fun e w' => e = .returned (.tuple #[.int .i64 v, .nilIface]) ∧ (w' = w ∨ ∃ t, w' = Lib.bytesWorld w 5 t) := Any.strconv_ParseInt_10_at64_ok Tryz.laysC174 s hmax v h w
open Go.RowKit in
/-- strconv.ParseInt(s, 10, 64), AT EVERY STRING THAT IS NO DECIMAL NUMERAL: 0, AND AN ERROR THAT IS NOT nil: a *NumError in a new block N: {Func: "ParseInt", Num: s's bytes, Err: what the variable ErrSyntax holds}. Of what was there nothing has turned. (LAID: no walk: one application.) -/
theorem Tryz.strconv_ParseInt_10_at64_bad (s : ByteArray) (hlim : s.size ≤ 281474976710656) (hn : ∀ v, ¬ Lib.parseIntB 64 s.data.toList = .ok v) (hr : ¬ Lib.parseIntB 64 s.data.toList = .range) (ev : Value) (w : World) (hv : w.cell? ⟨7, 0, none⟩ = some ev) (hev : ev = .nilIface ∨ ∃ te pe, ev = .iface te pe) :
    Calls Tryz.prog 121 #[.string s, .int .i64 10, .int .i64 64] w fun e w' => ∃ N, e = .returned (.tuple #[.int .i64 (0), .iface 158 (.pointer (some ⟨N, 0, none⟩))]) ∧ w.heap.size ≤ N ∧ w'.heap[N]? = some (.cells #[.string ⟨#[80, 97, 114, 115, 101, 73, 110, 116]⟩, .string s, ev] 163 (0, 0)) ∧ Below w.heap.size w w' := Any.strconv_ParseInt_10_at64_syntax Tryz.laysC174 s hlim (by cases hc : Lib.parseIntB 64 s.data.toList <;> first | rfl | exact absurd hc (hn _) | exact absurd hc hr) ev w hv hev
open Go.RowKit in
/-- strconv.ParseInt(s, 10, 64), AT EVERY NUMERAL THAT NO int64 HOLDS: THE GREATEST OR THE LEAST int64, BY THE SIGN ('Lib.intSat 64'), AND AN ERROR THAT IS NOT nil: a *NumError in a new block N: {Func: "ParseInt", Num: s's bytes, Err: what the variable ErrRange holds}. Of what was there nothing has turned. (LAID: no walk: one application.) -/
theorem Tryz.strconv_ParseInt_10_at64_range (s : ByteArray) (hlim : s.size ≤ 281474976710656) (h : Lib.parseIntB 64 s.data.toList = .range) (ev : Value) (w : World) (hv : w.cell? ⟨8, 0, none⟩ = some ev) (hev : ev = .nilIface ∨ ∃ te pe, ev = .iface te pe) :
    Calls Tryz.prog 121 #[.string s, .int .i64 10, .int .i64 64] w fun e w' => ∃ N, e = .returned (.tuple #[.int .i64 (Lib.intSat 64 s.data.toList), .iface 158 (.pointer (some ⟨N, 0, none⟩))]) ∧ w.heap.size ≤ N ∧ w'.heap[N]? = some (.cells #[.string ⟨#[80, 97, 114, 115, 101, 73, 110, 116]⟩, .string s, ev] 163 (0, 0)) ∧ Below w.heap.size w w' := Any.strconv_ParseInt_10_at64_range Tryz.laysC174 s hlim h ev w hv hev
end Go.Proofs
