/-
  DERIVED: THE SHELF's CONTRACTS AT THIS DUMP, IN PLAIN WORDS (tools/lay-plain.mjs out of 'TryzShelf.lean', which tools/lay-shelf.mjs wrote): THE SAME DECLARATIONS UNDER THE SAME NAMES: 'import', 'namespace', 'open', 'def', 'theorem' AND NOTHING ELSE: no command of the shelf's: FOR A HAND-IN. Each laying: the table of numbers ('.._ren') and one theorem, a field a fact of the dump's own or the kernel's comparison; each contract: ONE APPLICATION.
-/
import Derived.Shelf.Strings.Builder1
import Derived.Shelf.Strings.Builder2
import Derived.Shelf.Strings.OnBuilder
import Derived.Shelf.Strings.Trim
import Derived.Shelf.Small.Utf8
import Derived.Shelf.Small.Strs
import Derived.Shelf.Small.Wraps
import Derived.Shelf.Strings.BuilderF
import Derived.Shelf.Strings.BuilderK
import Derived.Shelf.Strings.BuilderRune
import Derived.Shelf.Utf8.AppendRune
import Derived.Shelf.Utf8.AppendRunePlain
import Derived.Shelf.Utf8.RuneCount
import Derived.Shelf.Strings.Builder2Cap
import Derived.Shelf.Strconv.Atoi
import Derived.Shelf.Strconv.Itoa0
import Derived.Shelf.Strconv.Itoa1
import Derived.Shelf.LaysM
import Derived.Shelf.Strconv.Itoa2
import Derived.Shelf.Strconv.Itoa3
import Derived.Shelf.Strconv.AtoiErrFast
import Derived.Shelf.Strconv.ParseIntEmpty
import Derived.Shelf.Strconv.AtoiFail
import Derived.Shelf.Strconv.Clone
import Derived.Shelf.Strconv.SyntaxError
import Derived.Shelf.LaysC
import Derived.Shelf.Strconv.ToError
import Derived.Shelf.Strconv.AtoiErr
import Derived.Shelf.Strconv.ErrVar
import Derived.Shelf.Strconv.Lower
import Derived.Shelf.Strconv.ParseUint10
import Derived.Shelf.Strconv.ParseUint10Empty
import Derived.Shelf.Strconv.ParseUint10Any
import Derived.Shelf.Strconv.ParseInt10
import Derived.Shelf.Strconv.AtoiLong
import Derived.Shelf.Strconv.AtoiInnerAll
import Derived.Shelf.Strconv.RangeError
import Derived.Shelf.Strconv.ToErrorRange
import Derived.Shelf.Strconv.AtoiAll
import Derived.Shelf.Strconv.ErrVarAll
import Derived.Shelf.Strconv.ParseUintEmpty
import Derived.Shelf.Strconv.ParseUint10b64
import Derived.Shelf.Strconv.ParseUint10b32
import Derived.Shelf.Strconv.ParseUint10b16
import Derived.Shelf.Strconv.ParseUint10b8
import Derived.Shelf.Strconv.ParseUint10At
import Derived.Shelf.Strconv.ParseInt10At64
import Derived.Shelf.Strconv.ParseInt10At32
import Derived.Shelf.Strconv.ParseInt10At16
import Derived.Shelf.Strconv.ParseInt10At8
import Derived.Shelf.Strconv.ParseInt10All
import Derived.Shelf.Strings.Search1
import Derived.Shelf.Strings.Search2
import Derived.Shelf.Strings.Search3
import Derived.Shelf.Strings.Cut
import Derived.Shelf.Strings.Count
import Derived.Shelf.Strings.Shaped
import Derived.Shelf.Strings.Prefix
import Derived.Shelf.Strings.Split
import Derived.Shelf.Strings.Replace
import Derived.Shelf.Strings.SplitShaped
import Derived.Shelf.Unicode.Latin
import Derived.Shelf.Unicode.Decode
import Derived.Shelf.Strings.Runes
import Derived.Shelf.Strings.RuneCount
import Derived.Shelf.Strings.AsciiSet
import Derived.Shelf.Strings.Explode
import Derived.Shelf.Bits.Mul64
import Derived.Shelf.Strings.Repeat
import Derived.Shelf.Unicode.DecodeSlow
import Derived.Shelf.Unicode.DecodeAny
import Derived.Shelf.Unicode.DecodeLast
import Derived.Shelf.Unicode.CaseLookup
import Derived.Shelf.Unicode.CaseConvert
import Derived.Shelf.Unicode.CaseTo
import Derived.Shelf.Unicode.CaseLaid
import Derived.Shelf.Strings.MapAny
import Derived.Shelf.Strings.CaseAny
import Derived.Shelf.Strings.BuilderCap
import Derived.Test.YtnlaecjniellpaaGreatDoorProg
namespace Go.Proofs
open Go.Shelf
def Tryz.lays169_ren : Go.Shelf.Ren := ⟨fun | 169 => 134 | n => n, fun | 70 => 119 | 9 => 9 | 0 => 0 | 72 => 121 | 37 => 87 | 127 => 191 | 3 => 3 | 5 => 5 | n => n, fun | n => n⟩
theorem Tryz.lays169 : Go.Proofs.Lays.n169 Tryz.prog Tryz.lays169_ren := {
  mixed := by kernel_rfl
  f169 := Tryz.func134.trans (congrArg some (by kernel_rfl))
  t0 := Tryz.underlying0
  a0 := Tryz.isAgg0
  z0 := Tryz.sizeOf0
  v0 := Tryz.zeroValue0
  t3 := Tryz.underlying3
  a3 := Tryz.isAgg3
  z3 := Tryz.sizeOf3
  v3 := Tryz.zeroValue3
  t9 := Tryz.underlying9
  a9 := Tryz.isAgg9
  z9 := Tryz.sizeOf9
  v9 := Tryz.zeroValue9
  t37 := Tryz.underlying87
  a37 := Tryz.isAgg87
  z37 := Tryz.sizeOf87
  v37 := Tryz.zeroValue87
  t70 := Tryz.underlying119
  a70 := Tryz.isAgg119
  z70 := Tryz.sizeOf119
  v70 := Tryz.zeroValue119
  t72 := Tryz.underlying121
  a72 := Tryz.isAgg121
  z72 := Tryz.sizeOf121
  v72 := Tryz.zeroValue121
  t127 := Tryz.underlying191
  a127 := Tryz.isAgg191
  z127 := Tryz.sizeOf191
  v127 := Tryz.zeroValue191 }
theorem Tryz.Builder_Extra_169 : Builder.Extra Tryz.prog Tryz.lays169_ren := {
  sizeBuilder := by kernel_rfl
  liesBuilder := by kernel_rfl
  t5 := Tryz.underlying5
  a5 := Tryz.isAgg5
  z5 := Tryz.sizeOf5
  v5 := Tryz.zeroValue5
  infoByte := by kernel_rfl
  cellsByte := by kernel_rfl
  sizeByte := by kernel_rfl
  neB5 := by decide }
def Tryz.lays159_ren : Go.Shelf.Ren := ⟨fun | 159 => 253 | 165 => 132 | 166 => 133 | 167 => 209 | 169 => 134 | 230 => 108 | 204 => 298 | 240 => 229 | 241 => 230 | 197 => 121 | 118 => 206 | 168 => 207 | 270 => 208 | 262 => 337 | 276 => 283 | 277 => 284 | 260 => 215 | 242 => 262 | 313 => 368 | 278 => 308 | 274 => 383 | 275 => 384 | n => n, fun | 9 => 9 | 4 => 4 | 3 => 3 | 5 => 5 | 72 => 121 | 0 => 0 | 76 => 124 | 75 => 123 | 107 => 91 | 70 => 119 | 20 => 20 | 37 => 87 | 127 => 191 | 21 => 21 | 105 => 102 | 164 => 250 | 162 => 321 | 203 => 319 | 119 => 224 | 46 => 166 | 139 => 227 | 138 => 226 | 51 => 198 | 160 => 334 | 208 => 352 | 206 => 350 | 80 => 51 | n => n, fun | 13 => 7 | 3 => 1 | 4 => 2 | n => n⟩
theorem Tryz.lays159 : Go.Proofs.Lays.n159 Tryz.prog Tryz.lays159_ren := {
  mixed := by kernel_rfl
  f118 := Tryz.func206.trans (congrArg some (by kernel_rfl))
  f159 := Tryz.func253.trans (congrArg some (by kernel_rfl))
  f165 := Tryz.func132.trans (congrArg some (by kernel_rfl))
  f166 := Tryz.func133.trans (congrArg some (by kernel_rfl))
  f167 := Tryz.func209.trans (congrArg some (by kernel_rfl))
  f168 := Tryz.func207.trans (congrArg some (by kernel_rfl))
  f169 := Tryz.func134.trans (congrArg some (by kernel_rfl))
  f197 := Tryz.func121.trans (congrArg some (by kernel_rfl))
  f204 := Tryz.func298.trans (congrArg some (by kernel_rfl))
  f230 := Tryz.func108.trans (congrArg some (by kernel_rfl))
  f240 := Tryz.func229.trans (congrArg some (by kernel_rfl))
  f241 := Tryz.func230.trans (congrArg some (by kernel_rfl))
  f242 := Tryz.func262.trans (congrArg some (by kernel_rfl))
  f260 := Tryz.func215.trans (congrArg some (by kernel_rfl))
  f262 := Tryz.func337.trans (congrArg some (by kernel_rfl))
  f270 := Tryz.func208.trans (congrArg some (by kernel_rfl))
  f274 := Tryz.func383.trans (congrArg some (by kernel_rfl))
  f275 := Tryz.func384.trans (congrArg some (by kernel_rfl))
  f276 := Tryz.func283.trans (congrArg some (by kernel_rfl))
  f277 := Tryz.func284.trans (congrArg some (by kernel_rfl))
  f278 := Tryz.func308.trans (congrArg some (by kernel_rfl))
  f313 := Tryz.func368.trans (congrArg some (by kernel_rfl))
  t0 := Tryz.underlying0
  a0 := Tryz.isAgg0
  z0 := Tryz.sizeOf0
  v0 := Tryz.zeroValue0
  t3 := Tryz.underlying3
  a3 := Tryz.isAgg3
  z3 := Tryz.sizeOf3
  v3 := Tryz.zeroValue3
  t4 := Tryz.underlying4
  a4 := Tryz.isAgg4
  z4 := Tryz.sizeOf4
  v4 := Tryz.zeroValue4
  t5 := Tryz.underlying5
  a5 := Tryz.isAgg5
  z5 := Tryz.sizeOf5
  v5 := Tryz.zeroValue5
  t9 := Tryz.underlying9
  a9 := Tryz.isAgg9
  z9 := Tryz.sizeOf9
  v9 := Tryz.zeroValue9
  t20 := Tryz.underlying20
  a20 := Tryz.isAgg20
  z20 := Tryz.sizeOf20
  v20 := Tryz.zeroValue20
  t21 := Tryz.underlying21
  a21 := Tryz.isAgg21
  z21 := Tryz.sizeOf21
  v21 := Tryz.zeroValue21
  t37 := Tryz.underlying87
  a37 := Tryz.isAgg87
  z37 := Tryz.sizeOf87
  v37 := Tryz.zeroValue87
  t46 := Tryz.underlying166
  a46 := Tryz.isAgg166
  z46 := Tryz.sizeOf166
  v46 := Tryz.zeroValue166
  t51 := Tryz.underlying198
  a51 := Tryz.isAgg198
  z51 := Tryz.sizeOf198
  v51 := Tryz.zeroValue198
  t70 := Tryz.underlying119
  a70 := Tryz.isAgg119
  z70 := Tryz.sizeOf119
  v70 := Tryz.zeroValue119
  t72 := Tryz.underlying121
  a72 := Tryz.isAgg121
  z72 := Tryz.sizeOf121
  v72 := Tryz.zeroValue121
  t75 := Tryz.underlying123
  a75 := Tryz.isAgg123
  z75 := Tryz.sizeOf123
  v75 := Tryz.zeroValue123
  t76 := Tryz.underlying124
  a76 := Tryz.isAgg124
  z76 := Tryz.sizeOf124
  v76 := Tryz.zeroValue124
  t105 := Tryz.underlying102
  a105 := Tryz.isAgg102
  z105 := Tryz.sizeOf102
  v105 := Tryz.zeroValue102
  t107 := Tryz.underlying91
  a107 := Tryz.isAgg91
  z107 := Tryz.sizeOf91
  v107 := Tryz.zeroValue91
  t119 := Tryz.underlying224
  a119 := Tryz.isAgg224
  z119 := Tryz.sizeOf224
  t127 := Tryz.underlying191
  a127 := Tryz.isAgg191
  z127 := Tryz.sizeOf191
  v127 := Tryz.zeroValue191
  t138 := Tryz.underlying226
  a138 := Tryz.isAgg226
  z138 := Tryz.sizeOf226
  v138 := Tryz.zeroValue226
  t139 := Tryz.underlying227
  a139 := Tryz.isAgg227
  z139 := Tryz.sizeOf227
  v139 := Tryz.zeroValue227
  t160 := Tryz.underlying334
  a160 := Tryz.isAgg334
  z160 := Tryz.sizeOf334
  v160 := Tryz.zeroValue334
  t162 := Tryz.underlying321
  a162 := Tryz.isAgg321
  z162 := Tryz.sizeOf321
  v162 := Tryz.zeroValue321
  t164 := Tryz.underlying250
  a164 := Tryz.isAgg250
  z164 := Tryz.sizeOf250
  v164 := Tryz.zeroValue250
  t203 := Tryz.underlying319
  a203 := Tryz.isAgg319
  z203 := Tryz.sizeOf319
  v203 := Tryz.zeroValue319
  t206 := Tryz.underlying350
  a206 := Tryz.isAgg350
  z206 := Tryz.sizeOf350
  v206 := Tryz.zeroValue350
  t208 := Tryz.underlying352
  a208 := Tryz.isAgg352
  z208 := Tryz.sizeOf352
  v208 := Tryz.zeroValue352
  g3 := by kernel_rfl
  g4 := by kernel_rfl
  g13 := by kernel_rfl }
theorem Tryz.Builder_Extra_159 : Builder.Extra Tryz.prog Tryz.lays159_ren := {
  sizeBuilder := by kernel_rfl
  liesBuilder := by kernel_rfl
  t5 := Tryz.underlying5
  a5 := Tryz.isAgg5
  z5 := Tryz.sizeOf5
  v5 := Tryz.zeroValue5
  infoByte := by kernel_rfl
  cellsByte := by kernel_rfl
  sizeByte := by kernel_rfl
  neB5 := by decide }
open Go.RowKit in
/-- strings.ToLower: "ToLower returns s with all Unicode letters mapped to their lower case.": ON ASCII TEXT OF AT MOST 2^47 BYTES. Below the heap's end the world is as it was: where a letter turns, the call makes a builder and its buffer. (LAID: no walk: one application.) -/
theorem Tryz.strings_ToLower_ascii (s : ByteArray) (w : World) (hs : s.size ≤ 140737488355328) (hascii : ∀ (j : Nat) (b : UInt8), s.data.toList[j]? = some b → b.toNat < 128) :
    Calls Tryz.prog 253 #[.string s] w fun e w' => e = .returned (.string ⟨(Lib.toLowerA s.data.toList).toArray⟩) ∧ Below w.heap.size w w' := Any.strings_ToLower_ascii Tryz.lays159 Tryz.Builder_Extra_159 s w hs hascii
def Tryz.lays160_ren : Go.Shelf.Ren := ⟨fun | 160 => 96 | 232 => 192 | 231 => 191 | 227 => 193 | 234 => 195 | 233 => 194 | 236 => 197 | 235 => 196 | 228 => 255 | 271 => 257 | 151 => 256 | 197 => 121 | 120 => 303 | 152 => 252 | 260 => 215 | 137 => 294 | 119 => 295 | 224 => 296 | 225 => 297 | 217 => 318 | 266 => 352 | n => n, fun | 9 => 9 | 4 => 4 | 3 => 3 | 5 => 5 | 117 => 155 | 116 => 154 | 0 => 0 | 124 => 158 | 21 => 21 | 105 => 102 | 46 => 166 | 119 => 224 | 139 => 227 | 138 => 226 | n => n, fun | 3 => 1 | 4 => 2 | n => n⟩
theorem Tryz.lays160 : Go.Proofs.Lays.n160 Tryz.prog Tryz.lays160_ren := {
  mixed := by kernel_rfl
  f119 := Tryz.func295.trans (congrArg some (by kernel_rfl))
  f120 := Tryz.func303.trans (congrArg some (by kernel_rfl))
  f137 := Tryz.func294.trans (congrArg some (by kernel_rfl))
  f151 := Tryz.func256.trans (congrArg some (by kernel_rfl))
  f152 := Tryz.func252.trans (congrArg some (by kernel_rfl))
  f160 := Tryz.func96.trans (congrArg some (by kernel_rfl))
  f197 := Tryz.func121.trans (congrArg some (by kernel_rfl))
  f217 := Tryz.func318.trans (congrArg some (by kernel_rfl))
  f224 := Tryz.func296.trans (congrArg some (by kernel_rfl))
  f225 := Tryz.func297.trans (congrArg some (by kernel_rfl))
  f227 := Tryz.func193.trans (congrArg some (by kernel_rfl))
  f228 := Tryz.func255.trans (congrArg some (by kernel_rfl))
  f231 := Tryz.func191.trans (congrArg some (by kernel_rfl))
  f232 := Tryz.func192.trans (congrArg some (by kernel_rfl))
  f233 := Tryz.func194.trans (congrArg some (by kernel_rfl))
  f234 := Tryz.func195.trans (congrArg some (by kernel_rfl))
  f235 := Tryz.func196.trans (congrArg some (by kernel_rfl))
  f236 := Tryz.func197.trans (congrArg some (by kernel_rfl))
  f260 := Tryz.func215.trans (congrArg some (by kernel_rfl))
  f266 := Tryz.func352.trans (congrArg some (by kernel_rfl))
  f271 := Tryz.func257.trans (congrArg some (by kernel_rfl))
  t0 := Tryz.underlying0
  a0 := Tryz.isAgg0
  z0 := Tryz.sizeOf0
  v0 := Tryz.zeroValue0
  t3 := Tryz.underlying3
  a3 := Tryz.isAgg3
  z3 := Tryz.sizeOf3
  v3 := Tryz.zeroValue3
  t4 := Tryz.underlying4
  a4 := Tryz.isAgg4
  z4 := Tryz.sizeOf4
  v4 := Tryz.zeroValue4
  t5 := Tryz.underlying5
  a5 := Tryz.isAgg5
  z5 := Tryz.sizeOf5
  v5 := Tryz.zeroValue5
  t9 := Tryz.underlying9
  a9 := Tryz.isAgg9
  z9 := Tryz.sizeOf9
  v9 := Tryz.zeroValue9
  t21 := Tryz.underlying21
  a21 := Tryz.isAgg21
  z21 := Tryz.sizeOf21
  v21 := Tryz.zeroValue21
  t46 := Tryz.underlying166
  a46 := Tryz.isAgg166
  z46 := Tryz.sizeOf166
  v46 := Tryz.zeroValue166
  t105 := Tryz.underlying102
  a105 := Tryz.isAgg102
  z105 := Tryz.sizeOf102
  v105 := Tryz.zeroValue102
  t116 := Tryz.underlying154
  a116 := Tryz.isAgg154
  z116 := Tryz.sizeOf154
  t117 := Tryz.underlying155
  a117 := Tryz.isAgg155
  z117 := Tryz.sizeOf155
  v117 := Tryz.zeroValue155
  t119 := Tryz.underlying224
  a119 := Tryz.isAgg224
  z119 := Tryz.sizeOf224
  t124 := Tryz.underlying158
  a124 := Tryz.isAgg158
  z124 := Tryz.sizeOf158
  v124 := Tryz.zeroValue158
  t138 := Tryz.underlying226
  a138 := Tryz.isAgg226
  z138 := Tryz.sizeOf226
  v138 := Tryz.zeroValue226
  t139 := Tryz.underlying227
  a139 := Tryz.isAgg227
  z139 := Tryz.sizeOf227
  v139 := Tryz.zeroValue227
  g3 := by kernel_rfl
  g4 := by kernel_rfl }
def Tryz.lays103_ren : Go.Shelf.Ren := ⟨fun | 103 => 129 | 210 => 223 | 206 => 115 | n => n, fun | 9 => 9 | 4 => 4 | 24 => 113 | 3 => 3 | n => n, fun | n => n⟩
theorem Tryz.lays103 : Go.Proofs.Lays.n103 Tryz.prog Tryz.lays103_ren := {
  mixed := by kernel_rfl
  f103 := Tryz.func129.trans (congrArg some (by kernel_rfl))
  f206 := Tryz.func115.trans (congrArg some (by kernel_rfl))
  f210 := Tryz.func223.trans (congrArg some (by kernel_rfl))
  t3 := Tryz.underlying3
  a3 := Tryz.isAgg3
  z3 := Tryz.sizeOf3
  v3 := Tryz.zeroValue3
  t4 := Tryz.underlying4
  a4 := Tryz.isAgg4
  z4 := Tryz.sizeOf4
  v4 := Tryz.zeroValue4
  t9 := Tryz.underlying9
  a9 := Tryz.isAgg9
  z9 := Tryz.sizeOf9
  v9 := Tryz.zeroValue9
  t24 := Tryz.underlying113
  a24 := Tryz.isAgg113
  z24 := Tryz.sizeOf113
  v24 := Tryz.zeroValue113 }
open Go.RowKit in
/-- strings.CutPrefix: "CutPrefix returns s without the provided leading prefix string and reports whether it found the prefix. If s doesn't start with prefix, CutPrefix returns s, false. If prefix is the empty string, CutPrefix returns s, true.": IT RETURNS '(Lib.trimPrefix s p, Lib.hasPrefix s p)'; the world is as it was. (LAID: no walk: one application.) -/
theorem Tryz.strings_CutPrefix (s p : ByteArray) (w : World) :
    Calls Tryz.prog 129 #[.string s, .string p] w fun e w' => e = .returned (.tuple #[.string ⟨(Lib.trimPrefix s.data.toList p.data.toList).toArray⟩, .bool (Lib.hasPrefix s.data.toList p.data.toList)]) ∧ w' = w := Any.strings_CutPrefix Tryz.lays103 s p w
open Go.RowKit in
/-- (*strings.Builder).String: "String returns the accumulated string.": OF A BUILDER THAT HOLDS AT LEAST ONE BYTE. ✋ THE MODEL FREEZES THOSE BYTES IN THE BUFFER (unsafe.String): a later write INTO them ends the model's run without an answer; a later append BEHIND them goes on. The statement's order of evaluation is drawn: one draw. THE FORM '_k': OVER 'Lib.IsBuilderF' (a builder that 'String()' may have read), AND WITH THE FRAME THAT REACHES ABOVE THE BUILDER: 'Lib.OthersKept': every block that is not b and is no row of uint8's stands as it stood: the iterator of a range among them. (LAID: no walk: one application.) -/
theorem Tryz.Builder_String_k (B b : Nat) (l : List UInt8) (w : World) (h : Lib.IsBuilderF 121 5 B b (Lib.byteCells l) w) (h0 : l ≠ []) :
    Calls Tryz.prog 134 #[.pointer (some ⟨b, 0, none⟩)] w fun e w' => e = .returned (.string ⟨l.toArray⟩) ∧ (Lib.IsBuilderF 121 5 B b (Lib.byteCells l) w' ∧ Below B w w' ∧ Lib.OthersKept 5 (some b) w w') := Any.Builder_String_k Tryz.lays169 Tryz.Builder_Extra_169 B b l w h h0
open Go.RowKit in
/-- (*strings.Builder).String: "String returns the accumulated string.": WHATEVER THE BUILDER HOLDS; THE FORM '_k': OVER 'Lib.IsBuilderF' (a builder that 'String()' may have read), AND WITH THE FRAME THAT REACHES ABOVE THE BUILDER: 'Lib.OthersKept': every block that is not b and is no row of uint8's stands as it stood: the iterator of a range among them. (LAID: no walk: one application.) -/
theorem Tryz.Builder_String_any_k (B b : Nat) (l : List UInt8) (w : World) (h : Lib.IsBuilderF 121 5 B b (Lib.byteCells l) w) (hBw : B ≤ w.heap.size) :
    Calls Tryz.prog 134 #[.pointer (some ⟨b, 0, none⟩)] w fun e w' => e = .returned (.string ⟨l.toArray⟩) ∧ (Lib.IsBuilderF 121 5 B b (Lib.byteCells l) w' ∧ Below B w w' ∧ Lib.OthersKept 5 (some b) w w') := Any.Builder_String_any_k Tryz.lays169 Tryz.Builder_Extra_169 B b l w h hBw
def Tryz.lays172_ren : Go.Shelf.Ren := ⟨fun | 172 => 244 | 244 => 292 | 245 => 293 | 247 => 332 | 279 => 333 | 280 => 334 | 281 => 335 | 282 => 336 | 287 => 365 | 316 => 366 | 171 => 95 | 205 => 367 | 321 => 381 | 322 => 382 | 243 => 190 | 246 => 254 | 283 => 299 | 284 => 300 | 285 => 301 | 286 => 302 | 129 => 339 | 317 => 338 | 318 => 340 | 319 => 341 | 320 => 342 | 337 => 369 | 338 => 370 | n => n, fun | 9 => 9 | 3 => 3 | 75 => 123 | 76 => 124 | 4 => 4 | 5 => 5 | 167 => 283 | 37 => 87 | 0 => 0 | 85 => 284 | 2 => 2 | 168 => 286 | 53 => 221 | 175 => 314 | 46 => 166 | 210 => 317 | 127 => 191 | 145 => 333 | 143 => 331 | 21 => 21 | 171 => 258 | 173 => 261 | 212 => 291 | 51 => 198 | 20 => 20 | 213 => 292 | 232 => 337 | 233 => 338 | 80 => 51 | n => n, fun | 15 => 5 | 16 => 6 | 17 => 4 | 18 => 10 | 19 => 11 | n => n⟩
theorem Tryz.lays172 : Go.Proofs.Lays.n172 Tryz.prog Tryz.lays172_ren := {
  mixed := by kernel_rfl
  f129 := Tryz.func339.trans (congrArg some (by kernel_rfl))
  f171 := Tryz.func95.trans (congrArg some (by kernel_rfl))
  f172 := Tryz.func244.trans (congrArg some (by kernel_rfl))
  f205 := Tryz.func367.trans (congrArg some (by kernel_rfl))
  f243 := Tryz.func190.trans (congrArg some (by kernel_rfl))
  f244 := Tryz.func292.trans (congrArg some (by kernel_rfl))
  f245 := Tryz.func293.trans (congrArg some (by kernel_rfl))
  f246 := Tryz.func254.trans (congrArg some (by kernel_rfl))
  f247 := Tryz.func332.trans (congrArg some (by kernel_rfl))
  f279 := Tryz.func333.trans (congrArg some (by kernel_rfl))
  f280 := Tryz.func334.trans (congrArg some (by kernel_rfl))
  f281 := Tryz.func335.trans (congrArg some (by kernel_rfl))
  f282 := Tryz.func336.trans (congrArg some (by kernel_rfl))
  f283 := Tryz.func299.trans (congrArg some (by kernel_rfl))
  f284 := Tryz.func300.trans (congrArg some (by kernel_rfl))
  f285 := Tryz.func301.trans (congrArg some (by kernel_rfl))
  f286 := Tryz.func302.trans (congrArg some (by kernel_rfl))
  f287 := Tryz.func365.trans (congrArg some (by kernel_rfl))
  f316 := Tryz.func366.trans (congrArg some (by kernel_rfl))
  f317 := Tryz.func338.trans (congrArg some (by kernel_rfl))
  f318 := Tryz.func340.trans (congrArg some (by kernel_rfl))
  f319 := Tryz.func341.trans (congrArg some (by kernel_rfl))
  f320 := Tryz.func342.trans (congrArg some (by kernel_rfl))
  f321 := Tryz.func381.trans (congrArg some (by kernel_rfl))
  f322 := Tryz.func382.trans (congrArg some (by kernel_rfl))
  f337 := Tryz.func369.trans (congrArg some (by kernel_rfl))
  f338 := Tryz.func370.trans (congrArg some (by kernel_rfl))
  t0 := Tryz.underlying0
  a0 := Tryz.isAgg0
  z0 := Tryz.sizeOf0
  v0 := Tryz.zeroValue0
  t2 := Tryz.underlying2
  a2 := Tryz.isAgg2
  z2 := Tryz.sizeOf2
  v2 := Tryz.zeroValue2
  t3 := Tryz.underlying3
  a3 := Tryz.isAgg3
  z3 := Tryz.sizeOf3
  v3 := Tryz.zeroValue3
  t4 := Tryz.underlying4
  a4 := Tryz.isAgg4
  z4 := Tryz.sizeOf4
  v4 := Tryz.zeroValue4
  t5 := Tryz.underlying5
  a5 := Tryz.isAgg5
  z5 := Tryz.sizeOf5
  v5 := Tryz.zeroValue5
  t9 := Tryz.underlying9
  a9 := Tryz.isAgg9
  z9 := Tryz.sizeOf9
  v9 := Tryz.zeroValue9
  t20 := Tryz.underlying20
  a20 := Tryz.isAgg20
  z20 := Tryz.sizeOf20
  v20 := Tryz.zeroValue20
  t21 := Tryz.underlying21
  a21 := Tryz.isAgg21
  z21 := Tryz.sizeOf21
  v21 := Tryz.zeroValue21
  t37 := Tryz.underlying87
  a37 := Tryz.isAgg87
  z37 := Tryz.sizeOf87
  v37 := Tryz.zeroValue87
  t46 := Tryz.underlying166
  a46 := Tryz.isAgg166
  z46 := Tryz.sizeOf166
  v46 := Tryz.zeroValue166
  t51 := Tryz.underlying198
  a51 := Tryz.isAgg198
  z51 := Tryz.sizeOf198
  v51 := Tryz.zeroValue198
  t53 := Tryz.underlying221
  a53 := Tryz.isAgg221
  z53 := Tryz.sizeOf221
  v53 := Tryz.zeroValue221
  t75 := Tryz.underlying123
  a75 := Tryz.isAgg123
  z75 := Tryz.sizeOf123
  v75 := Tryz.zeroValue123
  t76 := Tryz.underlying124
  a76 := Tryz.isAgg124
  z76 := Tryz.sizeOf124
  v76 := Tryz.zeroValue124
  t85 := Tryz.underlying284
  a85 := Tryz.isAgg284
  z85 := Tryz.sizeOf284
  v85 := Tryz.zeroValue284
  t127 := Tryz.underlying191
  a127 := Tryz.isAgg191
  z127 := Tryz.sizeOf191
  v127 := Tryz.zeroValue191
  t143 := Tryz.underlying331
  a143 := Tryz.isAgg331
  z143 := Tryz.sizeOf331
  v143 := Tryz.zeroValue331
  t145 := Tryz.underlying333
  a145 := Tryz.isAgg333
  z145 := Tryz.sizeOf333
  v145 := Tryz.zeroValue333
  t167 := Tryz.underlying283
  a167 := Tryz.isAgg283
  z167 := Tryz.sizeOf283
  v167 := Tryz.zeroValue283
  t168 := Tryz.underlying286
  a168 := Tryz.isAgg286
  z168 := Tryz.sizeOf286
  v168 := Tryz.zeroValue286
  t171 := Tryz.underlying258
  a171 := Tryz.isAgg258
  z171 := Tryz.sizeOf258
  v171 := Tryz.zeroValue258
  t173 := Tryz.underlying261
  a173 := Tryz.isAgg261
  z173 := Tryz.sizeOf261
  v173 := Tryz.zeroValue261
  t175 := Tryz.underlying314
  a175 := Tryz.isAgg314
  z175 := Tryz.sizeOf314
  v175 := Tryz.zeroValue314
  t210 := Tryz.underlying317
  a210 := Tryz.isAgg317
  z210 := Tryz.sizeOf317
  v210 := Tryz.zeroValue317
  t212 := Tryz.underlying291
  a212 := Tryz.isAgg291
  z212 := Tryz.sizeOf291
  v212 := Tryz.zeroValue291
  t213 := Tryz.underlying292
  a213 := Tryz.isAgg292
  z213 := Tryz.sizeOf292
  t232 := Tryz.underlying337
  a232 := Tryz.isAgg337
  z232 := Tryz.sizeOf337
  v232 := Tryz.zeroValue337
  t233 := Tryz.underlying338
  a233 := Tryz.isAgg338
  z233 := Tryz.sizeOf338
  v233 := Tryz.zeroValue338
  g15 := by kernel_rfl
  g16 := by kernel_rfl
  g17 := by kernel_rfl
  g18 := by kernel_rfl
  g19 := by kernel_rfl }
open Go.RowKit in
/-- strconv.Atoi: "Atoi is equivalent to ParseInt(s, 10, 0), converted to type int.": AT A DECIMAL NUMERAL OF AT MOST 18 BYTES: its value, and a nil error. The world behind the call: the one new row that the library's '[]byte(s)' lays. (LAID: no walk: one application.) -/
theorem Tryz.strconv_Atoi (s : ByteArray) (n : Int) (hl : s.size ≤ 18) (h : Lib.atoi s.data.toList = some n) (w : World) :
    Calls Tryz.prog 244 #[.string s] w fun e w' => e = .returned (.tuple #[.int .i64 n, .nilIface]) ∧ ∃ t, w' = Lib.bytesWorld w 5 t := Any.strconv_Atoi Tryz.lays172 s n hl h w
def Tryz.laysM171_ren : Go.Shelf.Ren := ⟨fun | 171 => 95 | 243 => 190 | 246 => 254 | 283 => 299 | 284 => 300 | 285 => 301 | 286 => 302 | 129 => 339 | 317 => 338 | 318 => 340 | 319 => 341 | 320 => 342 | 337 => 369 | 338 => 370 | n => n, fun | 3 => 3 | 9 => 9 | 2 => 2 | 4 => 4 | 171 => 258 | 0 => 0 | 53 => 221 | 37 => 87 | 5 => 5 | 173 => 261 | 212 => 291 | 51 => 198 | 20 => 20 | 213 => 292 | 46 => 166 | 232 => 337 | 233 => 338 | n => n, fun | 17 => 4 | 18 => 10 | 19 => 11 | n => n⟩
theorem Tryz.laysM171 : Go.Proofs.LaysM.n171 Tryz.prog Tryz.laysM171_ren := {
  mixed := by kernel_rfl
  f129 := Tryz.func339.trans (congrArg some (by kernel_rfl))
  f171 := Tryz.func95.trans (congrArg some (by kernel_rfl))
  f243 := Tryz.func190.trans (congrArg some (by kernel_rfl))
  f246 := Tryz.func254.trans (congrArg some (by kernel_rfl))
  f283 := Tryz.func299.trans (congrArg some (by kernel_rfl))
  f284 := Tryz.func300.trans (congrArg some (by kernel_rfl))
  f285 := Tryz.func301.trans (congrArg some (by kernel_rfl))
  f286 := Tryz.func302.trans (congrArg some (by kernel_rfl))
  f317 := Tryz.func338.trans (congrArg some (by kernel_rfl))
  f318 := Tryz.func340.trans (congrArg some (by kernel_rfl))
  f319 := Tryz.func341.trans (congrArg some (by kernel_rfl))
  f320 := Tryz.func342.trans (congrArg some (by kernel_rfl))
  f337 := Tryz.func369.trans (congrArg some (by kernel_rfl))
  f338 := Tryz.func370.trans (congrArg some (by kernel_rfl))
  t0 := Tryz.underlying0
  a0 := Tryz.isAgg0
  z0 := Tryz.sizeOf0
  v0 := Tryz.zeroValue0
  t2 := Tryz.underlying2
  a2 := Tryz.isAgg2
  z2 := Tryz.sizeOf2
  v2 := Tryz.zeroValue2
  t3 := Tryz.underlying3
  a3 := Tryz.isAgg3
  z3 := Tryz.sizeOf3
  v3 := Tryz.zeroValue3
  t4 := Tryz.underlying4
  a4 := Tryz.isAgg4
  z4 := Tryz.sizeOf4
  v4 := Tryz.zeroValue4
  t5 := Tryz.underlying5
  a5 := Tryz.isAgg5
  z5 := Tryz.sizeOf5
  v5 := Tryz.zeroValue5
  t9 := Tryz.underlying9
  a9 := Tryz.isAgg9
  z9 := Tryz.sizeOf9
  v9 := Tryz.zeroValue9
  t20 := Tryz.underlying20
  a20 := Tryz.isAgg20
  z20 := Tryz.sizeOf20
  v20 := Tryz.zeroValue20
  t37 := Tryz.underlying87
  a37 := Tryz.isAgg87
  z37 := Tryz.sizeOf87
  v37 := Tryz.zeroValue87
  t46 := Tryz.underlying166
  a46 := Tryz.isAgg166
  z46 := Tryz.sizeOf166
  v46 := Tryz.zeroValue166
  t51 := Tryz.underlying198
  a51 := Tryz.isAgg198
  z51 := Tryz.sizeOf198
  v51 := Tryz.zeroValue198
  t53 := Tryz.underlying221
  a53 := Tryz.isAgg221
  z53 := Tryz.sizeOf221
  v53 := Tryz.zeroValue221
  t171 := Tryz.underlying258
  a171 := Tryz.isAgg258
  z171 := Tryz.sizeOf258
  v171 := Tryz.zeroValue258
  t173 := Tryz.underlying261
  a173 := Tryz.isAgg261
  z173 := Tryz.sizeOf261
  v173 := Tryz.zeroValue261
  t212 := Tryz.underlying291
  a212 := Tryz.isAgg291
  z212 := Tryz.sizeOf291
  v212 := Tryz.zeroValue291
  t213 := Tryz.underlying292
  a213 := Tryz.isAgg292
  z213 := Tryz.sizeOf292
  t232 := Tryz.underlying337
  a232 := Tryz.isAgg337
  z232 := Tryz.sizeOf337
  v232 := Tryz.zeroValue337
  t233 := Tryz.underlying338
  a233 := Tryz.isAgg338
  z233 := Tryz.sizeOf338
  v233 := Tryz.zeroValue338
  g17 := by kernel_rfl
  g18 := by kernel_rfl
  g19 := by kernel_rfl
  i0 := by kernel_rfl
  i2 := by kernel_rfl
  i3 := by kernel_rfl
  i4 := by kernel_rfl
  i5 := by kernel_rfl
  i9 := by kernel_rfl
  i20 := by kernel_rfl
  i37 := by kernel_rfl
  i46 := by kernel_rfl
  i51 := by kernel_rfl
  i53 := by kernel_rfl
  i171 := by kernel_rfl
  i173 := by kernel_rfl
  i212 := by kernel_rfl
  i232 := by kernel_rfl
  i233 := by kernel_rfl
  m17 := by kernel_rfl
  m18 := by kernel_rfl
  m19 := by kernel_rfl }
open Go.RowKit Go.Sort Go.Lib in
/-- strconv.Itoa: "Itoa is equivalent to FormatInt(int64(i), 10).": i's DECIMAL NUMERAL ('Lib.itoa': a '-' where i is negative, then the digits), FOR EVERY int. The world behind the call: the world before it, new blocks behind the heap (the library's 'var a [24]byte'), draws. (LAID: no walk: one application.) -/
theorem Tryz.strconv_Itoa (n : Int) (h0 : -9223372036854775808 ≤ n) (h1 : n ≤ 9223372036854775807) (w : World) (htab : Lib.TabIs Tryz.prog w "internal/strconv.uint64pow10" .u64 Lib.pow10Tab) :
    Calls Tryz.prog 95 #[.int .i64 n] w fun e w' => e = .returned (.string ⟨(Lib.itoa n).toArray⟩) ∧ ∃ k os, w' = grow (w.drewN k) os := Any.strconv_Itoa Tryz.laysM171 n h0 h1 w htab
def Tryz.lays152_ren : Go.Shelf.Ren := ⟨fun | 152 => 252 | 137 => 294 | 119 => 295 | 224 => 296 | 225 => 297 | 217 => 318 | 266 => 352 | n => n, fun | 9 => 9 | 21 => 21 | 3 => 3 | 4 => 4 | 5 => 5 | 0 => 0 | 46 => 166 | n => n, fun | n => n⟩
theorem Tryz.lays152 : Go.Proofs.Lays.n152 Tryz.prog Tryz.lays152_ren := {
  mixed := by kernel_rfl
  f119 := Tryz.func295.trans (congrArg some (by kernel_rfl))
  f137 := Tryz.func294.trans (congrArg some (by kernel_rfl))
  f152 := Tryz.func252.trans (congrArg some (by kernel_rfl))
  f217 := Tryz.func318.trans (congrArg some (by kernel_rfl))
  f224 := Tryz.func296.trans (congrArg some (by kernel_rfl))
  f225 := Tryz.func297.trans (congrArg some (by kernel_rfl))
  f266 := Tryz.func352.trans (congrArg some (by kernel_rfl))
  t0 := Tryz.underlying0
  a0 := Tryz.isAgg0
  z0 := Tryz.sizeOf0
  v0 := Tryz.zeroValue0
  t3 := Tryz.underlying3
  a3 := Tryz.isAgg3
  z3 := Tryz.sizeOf3
  v3 := Tryz.zeroValue3
  t4 := Tryz.underlying4
  a4 := Tryz.isAgg4
  z4 := Tryz.sizeOf4
  v4 := Tryz.zeroValue4
  t5 := Tryz.underlying5
  a5 := Tryz.isAgg5
  z5 := Tryz.sizeOf5
  v5 := Tryz.zeroValue5
  t9 := Tryz.underlying9
  a9 := Tryz.isAgg9
  z9 := Tryz.sizeOf9
  v9 := Tryz.zeroValue9
  t21 := Tryz.underlying21
  a21 := Tryz.isAgg21
  z21 := Tryz.sizeOf21
  v21 := Tryz.zeroValue21
  t46 := Tryz.underlying166
  a46 := Tryz.isAgg166
  z46 := Tryz.sizeOf166
  v46 := Tryz.zeroValue166 }
open Go.RowKit Go.Lib in
theorem Tryz.strings_IndexRune_ascii (s : ByteArray) (r : Int) (w : World) (h0 : 0 ≤ r) (h1 : r < 128) :
    Calls Tryz.prog 252 #[.string s, .int .i32 r] w fun e w' => e = .returned (.int .i64 (Lib.indexByte s.data.toList r.toNat.toUInt8)) ∧ w' = w := Any.strings_IndexRune_ascii Tryz.lays152 s r w h0 h1
def Tryz.lays105_ren : Go.Shelf.Ren := ⟨fun | 105 => 114 | 212 => 211 | 99 => 38 | 165 => 132 | 166 => 133 | 170 => 212 | 169 => 134 | 263 => 263 | 264 => 264 | 206 => 115 | 240 => 229 | 241 => 230 | 276 => 283 | 277 => 284 | n => n, fun | 9 => 9 | 3 => 3 | 4 => 4 | 20 => 20 | 0 => 0 | 46 => 166 | 109 => 167 | 5 => 5 | 72 => 121 | 76 => 124 | 51 => 198 | 146 => 219 | 53 => 221 | 148 => 222 | 70 => 119 | 37 => 87 | 75 => 123 | 127 => 191 | 164 => 250 | 80 => 51 | n => n, fun | n => n⟩
theorem Tryz.lays105 : Go.Proofs.Lays.n105 Tryz.prog Tryz.lays105_ren := {
  mixed := by kernel_rfl
  f99 := Tryz.func38.trans (congrArg some (by kernel_rfl))
  f105 := Tryz.func114.trans (congrArg some (by kernel_rfl))
  f165 := Tryz.func132.trans (congrArg some (by kernel_rfl))
  f166 := Tryz.func133.trans (congrArg some (by kernel_rfl))
  f169 := Tryz.func134.trans (congrArg some (by kernel_rfl))
  f170 := Tryz.func212.trans (congrArg some (by kernel_rfl))
  f206 := Tryz.func115.trans (congrArg some (by kernel_rfl))
  f212 := Tryz.func211.trans (congrArg some (by kernel_rfl))
  f240 := Tryz.func229.trans (congrArg some (by kernel_rfl))
  f241 := Tryz.func230.trans (congrArg some (by kernel_rfl))
  f263 := Tryz.func263.trans (congrArg some (by kernel_rfl))
  f264 := Tryz.func264.trans (congrArg some (by kernel_rfl))
  f276 := Tryz.func283.trans (congrArg some (by kernel_rfl))
  f277 := Tryz.func284.trans (congrArg some (by kernel_rfl))
  t0 := Tryz.underlying0
  a0 := Tryz.isAgg0
  z0 := Tryz.sizeOf0
  v0 := Tryz.zeroValue0
  t3 := Tryz.underlying3
  a3 := Tryz.isAgg3
  z3 := Tryz.sizeOf3
  v3 := Tryz.zeroValue3
  t4 := Tryz.underlying4
  a4 := Tryz.isAgg4
  z4 := Tryz.sizeOf4
  v4 := Tryz.zeroValue4
  t5 := Tryz.underlying5
  a5 := Tryz.isAgg5
  z5 := Tryz.sizeOf5
  v5 := Tryz.zeroValue5
  t9 := Tryz.underlying9
  a9 := Tryz.isAgg9
  z9 := Tryz.sizeOf9
  v9 := Tryz.zeroValue9
  t20 := Tryz.underlying20
  a20 := Tryz.isAgg20
  z20 := Tryz.sizeOf20
  v20 := Tryz.zeroValue20
  t37 := Tryz.underlying87
  a37 := Tryz.isAgg87
  z37 := Tryz.sizeOf87
  v37 := Tryz.zeroValue87
  t46 := Tryz.underlying166
  a46 := Tryz.isAgg166
  z46 := Tryz.sizeOf166
  v46 := Tryz.zeroValue166
  t51 := Tryz.underlying198
  a51 := Tryz.isAgg198
  z51 := Tryz.sizeOf198
  v51 := Tryz.zeroValue198
  t53 := Tryz.underlying221
  a53 := Tryz.isAgg221
  z53 := Tryz.sizeOf221
  v53 := Tryz.zeroValue221
  t70 := Tryz.underlying119
  a70 := Tryz.isAgg119
  z70 := Tryz.sizeOf119
  v70 := Tryz.zeroValue119
  t72 := Tryz.underlying121
  a72 := Tryz.isAgg121
  z72 := Tryz.sizeOf121
  v72 := Tryz.zeroValue121
  t75 := Tryz.underlying123
  a75 := Tryz.isAgg123
  z75 := Tryz.sizeOf123
  v75 := Tryz.zeroValue123
  t76 := Tryz.underlying124
  a76 := Tryz.isAgg124
  z76 := Tryz.sizeOf124
  v76 := Tryz.zeroValue124
  t109 := Tryz.underlying167
  a109 := Tryz.isAgg167
  z109 := Tryz.sizeOf167
  v109 := Tryz.zeroValue167
  t127 := Tryz.underlying191
  a127 := Tryz.isAgg191
  z127 := Tryz.sizeOf191
  v127 := Tryz.zeroValue191
  t146 := Tryz.underlying219
  a146 := Tryz.isAgg219
  z146 := Tryz.sizeOf219
  v146 := Tryz.zeroValue219
  t148 := Tryz.underlying222
  a148 := Tryz.isAgg222
  z148 := Tryz.sizeOf222
  v148 := Tryz.zeroValue222
  t164 := Tryz.underlying250
  a164 := Tryz.isAgg250
  z164 := Tryz.sizeOf250
  v164 := Tryz.zeroValue250 }
theorem Tryz.Builder_Extra_105 : Builder.Extra Tryz.prog Tryz.lays105_ren := {
  sizeBuilder := by kernel_rfl
  liesBuilder := by kernel_rfl
  t5 := Tryz.underlying5
  a5 := Tryz.isAgg5
  z5 := Tryz.sizeOf5
  v5 := Tryz.zeroValue5
  infoByte := by kernel_rfl
  cellsByte := by kernel_rfl
  sizeByte := by kernel_rfl
  neB5 := by decide }
open Go.RowKit Go.Lib in
/-- **strings.Repeat: count ≥ 0, the result within one allocation: count copies of s.** (LAID: no walk: one application.) -/
theorem Tryz.strings_Repeat (s : ByteArray) (c : Nat) (w : World) (hc : c ≤ 9223372036854775807) (hlen : s.size * c ≤ 140737488355328) :
    Calls Tryz.prog 114 #[.string s, .int .i64 c] w fun e w' => e = .returned (.string ⟨(Lib.repeatL s.data.toList c).toArray⟩) ∧ Below w.heap.size w w' := Any.strings_Repeat Tryz.lays105 Tryz.Builder_Extra_105 s c w hc hlen
end Go.Proofs
