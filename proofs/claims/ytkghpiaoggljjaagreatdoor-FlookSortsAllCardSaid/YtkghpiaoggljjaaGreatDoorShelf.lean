/-
  DERIVED: THE SHELF's CONTRACTS AT THIS DUMP, IN PLAIN WORDS (tools/lay-plain.mjs out of 'TryzShelf.lean', which tools/lay-shelf.mjs wrote): THE SAME DECLARATIONS UNDER THE SAME NAMES: 'import', 'namespace', 'open', 'def', 'theorem' AND NOTHING ELSE: no command of the shelf's: FOR A HAND-IN. Each laying: the table of numbers ('.._ren') and one theorem, a field a fact of the dump's own or the kernel's comparison; each contract: ONE APPLICATION.
-/
import Derived.Shelf.Strings.Builder1
import Derived.Shelf.Strings.Builder2
import Derived.Shelf.Strings.OnBuilder
import Derived.Shelf.Strings.Trim
import Derived.Shelf.Small.Utf8
import Derived.Shelf.Small.Bits
import Derived.Shelf.Small.Strs
import Derived.Shelf.Small.Wraps
import Derived.Shelf.Strings.BuilderF
import Derived.Shelf.Strings.BuilderK
import Derived.Shelf.Strings.BuilderRune
import Derived.Shelf.Utf8.AppendRune
import Derived.Shelf.Utf8.AppendRunePlain
import Derived.Shelf.Utf8.RuneCount
import Derived.Shelf.Strings.Builder2Cap
import Derived.Shelf.Strconv.Atoi
import Derived.Shelf.Strconv.Itoa0
import Derived.Shelf.Strconv.Itoa1
import Derived.Shelf.LaysM
import Derived.Shelf.Strconv.Itoa2
import Derived.Shelf.Strconv.Itoa3
import Derived.Shelf.Strconv.AtoiErrFast
import Derived.Shelf.Strconv.ParseIntEmpty
import Derived.Shelf.Strconv.AtoiFail
import Derived.Shelf.Strconv.Clone
import Derived.Shelf.Strconv.SyntaxError
import Derived.Shelf.LaysC
import Derived.Shelf.Strconv.ToError
import Derived.Shelf.Strconv.AtoiErr
import Derived.Shelf.Strconv.ErrVar
import Derived.Shelf.Strconv.Lower
import Derived.Shelf.Strconv.ParseUint10
import Derived.Shelf.Strconv.ParseUint10Empty
import Derived.Shelf.Strconv.ParseUint10Any
import Derived.Shelf.Strconv.ParseInt10
import Derived.Shelf.Strconv.AtoiLong
import Derived.Shelf.Strconv.AtoiInnerAll
import Derived.Shelf.Strconv.RangeError
import Derived.Shelf.Strconv.ToErrorRange
import Derived.Shelf.Strconv.AtoiAll
import Derived.Shelf.Strconv.ErrVarAll
import Derived.Shelf.Strconv.ParseUintEmpty
import Derived.Shelf.Strconv.ParseUint10b64
import Derived.Shelf.Strconv.ParseUint10b32
import Derived.Shelf.Strconv.ParseUint10b16
import Derived.Shelf.Strconv.ParseUint10b8
import Derived.Shelf.Strconv.ParseUint10At
import Derived.Shelf.Strconv.ParseInt10At64
import Derived.Shelf.Strconv.ParseInt10At32
import Derived.Shelf.Strconv.ParseInt10At16
import Derived.Shelf.Strconv.ParseInt10At8
import Derived.Shelf.Strconv.ParseInt10All
import Derived.Shelf.Strings.Search1
import Derived.Shelf.Strings.Search2
import Derived.Shelf.Strings.Search3
import Derived.Shelf.Strings.Cut
import Derived.Shelf.Strings.Count
import Derived.Shelf.Strings.Shaped
import Derived.Shelf.Sort.Plain
import Derived.Shelf.Strings.Prefix
import Derived.Shelf.Strings.Split
import Derived.Shelf.Strings.SplitShaped
import Derived.Shelf.Unicode.Latin
import Derived.Shelf.Unicode.Decode
import Derived.Shelf.Strings.Runes
import Derived.Shelf.Strings.RuneCount
import Derived.Shelf.Strings.IndexAny
import Derived.Shelf.Strings.AsciiSet
import Derived.Shelf.Strings.IndexAnyAll
import Derived.Shelf.Strings.Explode
import Derived.Shelf.Bits.Mul64
import Derived.Shelf.Strings.Repeat
import Derived.Shelf.Unicode.DecodeSlow
import Derived.Shelf.Unicode.DecodeAny
import Derived.Shelf.Unicode.DecodeLast
import Derived.Shelf.Unicode.CaseLookup
import Derived.Shelf.Unicode.CaseConvert
import Derived.Shelf.Unicode.CaseTo
import Derived.Shelf.Unicode.CaseLaid
import Derived.Shelf.Strings.MapAny
import Derived.Shelf.Strings.CaseAny
import Derived.Shelf.Strings.BuilderCap
import Derived.Shelf.Strings.MapGrows
import Derived.Ground.Names2Prog
import Derived.Shelf.Slices.SearchI
import Derived.Shelf.Slices.In.SortNone
import Derived.Ground.SlsfProg
import Derived.Shelf.SlSortCmp.Insertion
import Derived.Test.YtkghpiaoggljjaaGreatDoorProg
namespace Go.Proofs
open Go.Shelf
def Tryz.lays169_ren : Go.Shelf.Ren := ⟨fun | 169 => 269 | n => n, fun | 70 => 207 | 9 => 9 | 0 => 0 | 72 => 209 | 37 => 85 | 127 => 258 | 3 => 3 | 5 => 5 | n => n, fun | n => n⟩
theorem Tryz.lays169 : Go.Proofs.Lays.n169 Tryz.prog Tryz.lays169_ren := {
  mixed := by kernel_rfl
  f169 := Tryz.func269.trans (congrArg some (by kernel_rfl))
  t0 := Tryz.underlying0
  a0 := Tryz.isAgg0
  z0 := Tryz.sizeOf0
  v0 := Tryz.zeroValue0
  t3 := Tryz.underlying3
  a3 := Tryz.isAgg3
  z3 := Tryz.sizeOf3
  v3 := Tryz.zeroValue3
  t9 := Tryz.underlying9
  a9 := Tryz.isAgg9
  z9 := Tryz.sizeOf9
  v9 := Tryz.zeroValue9
  t37 := Tryz.underlying85
  a37 := Tryz.isAgg85
  z37 := Tryz.sizeOf85
  v37 := Tryz.zeroValue85
  t70 := Tryz.underlying207
  a70 := Tryz.isAgg207
  z70 := Tryz.sizeOf207
  v70 := Tryz.zeroValue207
  t72 := Tryz.underlying209
  a72 := Tryz.isAgg209
  z72 := Tryz.sizeOf209
  v72 := Tryz.zeroValue209
  t127 := Tryz.underlying258
  a127 := Tryz.isAgg258
  z127 := Tryz.sizeOf258
  v127 := Tryz.zeroValue258 }
theorem Tryz.Builder_Extra_169 : Builder.Extra Tryz.prog Tryz.lays169_ren := {
  sizeBuilder := by kernel_rfl
  liesBuilder := by kernel_rfl
  t5 := Tryz.underlying5
  a5 := Tryz.isAgg5
  z5 := Tryz.sizeOf5
  v5 := Tryz.zeroValue5
  infoByte := by kernel_rfl
  cellsByte := by kernel_rfl
  sizeByte := by kernel_rfl
  neB5 := by decide }
def Tryz.lays160_ren : Go.Shelf.Ren := ⟨fun | 160 => 114 | 232 => 215 | 231 => 214 | 227 => 216 | 234 => 218 | 233 => 217 | 236 => 220 | 235 => 219 | 228 => 270 | 271 => 272 | 151 => 271 | 197 => 151 | 120 => 325 | 152 => 266 | 260 => 243 | 137 => 317 | 119 => 318 | 224 => 319 | 225 => 320 | 217 => 359 | 266 => 388 | n => n, fun | 9 => 9 | 4 => 4 | 3 => 3 | 5 => 5 | 117 => 162 | 116 => 161 | 0 => 0 | 124 => 165 | 21 => 21 | 105 => 128 | 46 => 173 | 119 => 247 | 139 => 250 | 138 => 249 | n => n, fun | 3 => 1 | 4 => 2 | n => n⟩
theorem Tryz.lays160 : Go.Proofs.Lays.n160 Tryz.prog Tryz.lays160_ren := {
  mixed := by kernel_rfl
  f119 := Tryz.func318.trans (congrArg some (by kernel_rfl))
  f120 := Tryz.func325.trans (congrArg some (by kernel_rfl))
  f137 := Tryz.func317.trans (congrArg some (by kernel_rfl))
  f151 := Tryz.func271.trans (congrArg some (by kernel_rfl))
  f152 := Tryz.func266.trans (congrArg some (by kernel_rfl))
  f160 := Tryz.func114.trans (congrArg some (by kernel_rfl))
  f197 := Tryz.func151.trans (congrArg some (by kernel_rfl))
  f217 := Tryz.func359.trans (congrArg some (by kernel_rfl))
  f224 := Tryz.func319.trans (congrArg some (by kernel_rfl))
  f225 := Tryz.func320.trans (congrArg some (by kernel_rfl))
  f227 := Tryz.func216.trans (congrArg some (by kernel_rfl))
  f228 := Tryz.func270.trans (congrArg some (by kernel_rfl))
  f231 := Tryz.func214.trans (congrArg some (by kernel_rfl))
  f232 := Tryz.func215.trans (congrArg some (by kernel_rfl))
  f233 := Tryz.func217.trans (congrArg some (by kernel_rfl))
  f234 := Tryz.func218.trans (congrArg some (by kernel_rfl))
  f235 := Tryz.func219.trans (congrArg some (by kernel_rfl))
  f236 := Tryz.func220.trans (congrArg some (by kernel_rfl))
  f260 := Tryz.func243.trans (congrArg some (by kernel_rfl))
  f266 := Tryz.func388.trans (congrArg some (by kernel_rfl))
  f271 := Tryz.func272.trans (congrArg some (by kernel_rfl))
  t0 := Tryz.underlying0
  a0 := Tryz.isAgg0
  z0 := Tryz.sizeOf0
  v0 := Tryz.zeroValue0
  t3 := Tryz.underlying3
  a3 := Tryz.isAgg3
  z3 := Tryz.sizeOf3
  v3 := Tryz.zeroValue3
  t4 := Tryz.underlying4
  a4 := Tryz.isAgg4
  z4 := Tryz.sizeOf4
  v4 := Tryz.zeroValue4
  t5 := Tryz.underlying5
  a5 := Tryz.isAgg5
  z5 := Tryz.sizeOf5
  v5 := Tryz.zeroValue5
  t9 := Tryz.underlying9
  a9 := Tryz.isAgg9
  z9 := Tryz.sizeOf9
  v9 := Tryz.zeroValue9
  t21 := Tryz.underlying21
  a21 := Tryz.isAgg21
  z21 := Tryz.sizeOf21
  v21 := Tryz.zeroValue21
  t46 := Tryz.underlying173
  a46 := Tryz.isAgg173
  z46 := Tryz.sizeOf173
  v46 := Tryz.zeroValue173
  t105 := Tryz.underlying128
  a105 := Tryz.isAgg128
  z105 := Tryz.sizeOf128
  v105 := Tryz.zeroValue128
  t116 := Tryz.underlying161
  a116 := Tryz.isAgg161
  z116 := Tryz.sizeOf161
  t117 := Tryz.underlying162
  a117 := Tryz.isAgg162
  z117 := Tryz.sizeOf162
  v117 := Tryz.zeroValue162
  t119 := Tryz.underlying247
  a119 := Tryz.isAgg247
  z119 := Tryz.sizeOf247
  t124 := Tryz.underlying165
  a124 := Tryz.isAgg165
  z124 := Tryz.sizeOf165
  v124 := Tryz.zeroValue165
  t138 := Tryz.underlying249
  a138 := Tryz.isAgg249
  z138 := Tryz.sizeOf249
  v138 := Tryz.zeroValue249
  t139 := Tryz.underlying250
  a139 := Tryz.isAgg250
  z139 := Tryz.sizeOf250
  v139 := Tryz.zeroValue250
  g3 := by kernel_rfl
  g4 := by kernel_rfl }
def Tryz.lays103_ren : Go.Shelf.Ren := ⟨fun | 103 => 238 | 210 => 306 | 206 => 351 | n => n, fun | 9 => 9 | 4 => 4 | 24 => 180 | 3 => 3 | n => n, fun | n => n⟩
theorem Tryz.lays103 : Go.Proofs.Lays.n103 Tryz.prog Tryz.lays103_ren := {
  mixed := by kernel_rfl
  f103 := Tryz.func238.trans (congrArg some (by kernel_rfl))
  f206 := Tryz.func351.trans (congrArg some (by kernel_rfl))
  f210 := Tryz.func306.trans (congrArg some (by kernel_rfl))
  t3 := Tryz.underlying3
  a3 := Tryz.isAgg3
  z3 := Tryz.sizeOf3
  v3 := Tryz.zeroValue3
  t4 := Tryz.underlying4
  a4 := Tryz.isAgg4
  z4 := Tryz.sizeOf4
  v4 := Tryz.zeroValue4
  t9 := Tryz.underlying9
  a9 := Tryz.isAgg9
  z9 := Tryz.sizeOf9
  v9 := Tryz.zeroValue9
  t24 := Tryz.underlying180
  a24 := Tryz.isAgg180
  z24 := Tryz.sizeOf180
  v24 := Tryz.zeroValue180 }
open Go.RowKit in
/-- strings.CutPrefix: "CutPrefix returns s without the provided leading prefix string and reports whether it found the prefix. If s doesn't start with prefix, CutPrefix returns s, false. If prefix is the empty string, CutPrefix returns s, true.": IT RETURNS '(Lib.trimPrefix s p, Lib.hasPrefix s p)'; the world is as it was. (LAID: no walk: one application.) -/
theorem Tryz.strings_CutPrefix (s p : ByteArray) (w : World) :
    Calls Tryz.prog 238 #[.string s, .string p] w fun e w' => e = .returned (.tuple #[.string ⟨(Lib.trimPrefix s.data.toList p.data.toList).toArray⟩, .bool (Lib.hasPrefix s.data.toList p.data.toList)]) ∧ w' = w := Any.strings_CutPrefix Tryz.lays103 s p w
open Go.RowKit in
/-- (*strings.Builder).String: "String returns the accumulated string.": OF A BUILDER THAT HOLDS AT LEAST ONE BYTE. ✋ THE MODEL FREEZES THOSE BYTES IN THE BUFFER (unsafe.String): a later write INTO them ends the model's run without an answer; a later append BEHIND them goes on. The statement's order of evaluation is drawn: one draw. THE FORM '_k': OVER 'Lib.IsBuilderF' (a builder that 'String()' may have read), AND WITH THE FRAME THAT REACHES ABOVE THE BUILDER: 'Lib.OthersKept': every block that is not b and is no row of uint8's stands as it stood: the iterator of a range among them. (LAID: no walk: one application.) -/
theorem Tryz.Builder_String_k (B b : Nat) (l : List UInt8) (w : World) (h : Lib.IsBuilderF 209 5 B b (Lib.byteCells l) w) (h0 : l ≠ []) :
    Calls Tryz.prog 269 #[.pointer (some ⟨b, 0, none⟩)] w fun e w' => e = .returned (.string ⟨l.toArray⟩) ∧ (Lib.IsBuilderF 209 5 B b (Lib.byteCells l) w' ∧ Below B w w' ∧ Lib.OthersKept 5 (some b) w w') := Any.Builder_String_k Tryz.lays169 Tryz.Builder_Extra_169 B b l w h h0
def Tryz.lays172_ren : Go.Shelf.Ren := ⟨fun | 172 => 257 | 244 => 312 | 245 => 313 | 247 => 353 | 279 => 354 | 280 => 355 | 281 => 356 | 282 => 357 | 287 => 384 | 316 => 385 | 171 => 70 | 205 => 386 | 321 => 398 | 322 => 399 | 243 => 149 | 246 => 237 | 283 => 302 | 284 => 303 | 285 => 304 | 286 => 305 | 129 => 301 | 317 => 347 | 318 => 348 | 319 => 349 | 320 => 350 | 337 => 381 | 338 => 382 | n => n, fun | 9 => 9 | 3 => 3 | 75 => 197 | 76 => 198 | 4 => 4 | 5 => 5 | 167 => 286 | 37 => 85 | 0 => 0 | 85 => 287 | 2 => 2 | 168 => 289 | 53 => 185 | 175 => 308 | 46 => 173 | 210 => 311 | 127 => 258 | 145 => 324 | 143 => 322 | 21 => 21 | 171 => 243 | 173 => 245 | 212 => 281 | 51 => 184 | 20 => 20 | 213 => 282 | 232 => 319 | 233 => 320 | 80 => 205 | n => n, fun | 15 => 5 | 16 => 6 | 17 => 3 | 18 => 8 | 19 => 9 | n => n⟩
theorem Tryz.lays172 : Go.Proofs.Lays.n172 Tryz.prog Tryz.lays172_ren := {
  mixed := by kernel_rfl
  f129 := Tryz.func301.trans (congrArg some (by kernel_rfl))
  f171 := Tryz.func70.trans (congrArg some (by kernel_rfl))
  f172 := Tryz.func257.trans (congrArg some (by kernel_rfl))
  f205 := Tryz.func386.trans (congrArg some (by kernel_rfl))
  f243 := Tryz.func149.trans (congrArg some (by kernel_rfl))
  f244 := Tryz.func312.trans (congrArg some (by kernel_rfl))
  f245 := Tryz.func313.trans (congrArg some (by kernel_rfl))
  f246 := Tryz.func237.trans (congrArg some (by kernel_rfl))
  f247 := Tryz.func353.trans (congrArg some (by kernel_rfl))
  f279 := Tryz.func354.trans (congrArg some (by kernel_rfl))
  f280 := Tryz.func355.trans (congrArg some (by kernel_rfl))
  f281 := Tryz.func356.trans (congrArg some (by kernel_rfl))
  f282 := Tryz.func357.trans (congrArg some (by kernel_rfl))
  f283 := Tryz.func302.trans (congrArg some (by kernel_rfl))
  f284 := Tryz.func303.trans (congrArg some (by kernel_rfl))
  f285 := Tryz.func304.trans (congrArg some (by kernel_rfl))
  f286 := Tryz.func305.trans (congrArg some (by kernel_rfl))
  f287 := Tryz.func384.trans (congrArg some (by kernel_rfl))
  f316 := Tryz.func385.trans (congrArg some (by kernel_rfl))
  f317 := Tryz.func347.trans (congrArg some (by kernel_rfl))
  f318 := Tryz.func348.trans (congrArg some (by kernel_rfl))
  f319 := Tryz.func349.trans (congrArg some (by kernel_rfl))
  f320 := Tryz.func350.trans (congrArg some (by kernel_rfl))
  f321 := Tryz.func398.trans (congrArg some (by kernel_rfl))
  f322 := Tryz.func399.trans (congrArg some (by kernel_rfl))
  f337 := Tryz.func381.trans (congrArg some (by kernel_rfl))
  f338 := Tryz.func382.trans (congrArg some (by kernel_rfl))
  t0 := Tryz.underlying0
  a0 := Tryz.isAgg0
  z0 := Tryz.sizeOf0
  v0 := Tryz.zeroValue0
  t2 := Tryz.underlying2
  a2 := Tryz.isAgg2
  z2 := Tryz.sizeOf2
  v2 := Tryz.zeroValue2
  t3 := Tryz.underlying3
  a3 := Tryz.isAgg3
  z3 := Tryz.sizeOf3
  v3 := Tryz.zeroValue3
  t4 := Tryz.underlying4
  a4 := Tryz.isAgg4
  z4 := Tryz.sizeOf4
  v4 := Tryz.zeroValue4
  t5 := Tryz.underlying5
  a5 := Tryz.isAgg5
  z5 := Tryz.sizeOf5
  v5 := Tryz.zeroValue5
  t9 := Tryz.underlying9
  a9 := Tryz.isAgg9
  z9 := Tryz.sizeOf9
  v9 := Tryz.zeroValue9
  t20 := Tryz.underlying20
  a20 := Tryz.isAgg20
  z20 := Tryz.sizeOf20
  v20 := Tryz.zeroValue20
  t21 := Tryz.underlying21
  a21 := Tryz.isAgg21
  z21 := Tryz.sizeOf21
  v21 := Tryz.zeroValue21
  t37 := Tryz.underlying85
  a37 := Tryz.isAgg85
  z37 := Tryz.sizeOf85
  v37 := Tryz.zeroValue85
  t46 := Tryz.underlying173
  a46 := Tryz.isAgg173
  z46 := Tryz.sizeOf173
  v46 := Tryz.zeroValue173
  t51 := Tryz.underlying184
  a51 := Tryz.isAgg184
  z51 := Tryz.sizeOf184
  v51 := Tryz.zeroValue184
  t53 := Tryz.underlying185
  a53 := Tryz.isAgg185
  z53 := Tryz.sizeOf185
  v53 := Tryz.zeroValue185
  t75 := Tryz.underlying197
  a75 := Tryz.isAgg197
  z75 := Tryz.sizeOf197
  v75 := Tryz.zeroValue197
  t76 := Tryz.underlying198
  a76 := Tryz.isAgg198
  z76 := Tryz.sizeOf198
  v76 := Tryz.zeroValue198
  t85 := Tryz.underlying287
  a85 := Tryz.isAgg287
  z85 := Tryz.sizeOf287
  v85 := Tryz.zeroValue287
  t127 := Tryz.underlying258
  a127 := Tryz.isAgg258
  z127 := Tryz.sizeOf258
  v127 := Tryz.zeroValue258
  t143 := Tryz.underlying322
  a143 := Tryz.isAgg322
  z143 := Tryz.sizeOf322
  v143 := Tryz.zeroValue322
  t145 := Tryz.underlying324
  a145 := Tryz.isAgg324
  z145 := Tryz.sizeOf324
  v145 := Tryz.zeroValue324
  t167 := Tryz.underlying286
  a167 := Tryz.isAgg286
  z167 := Tryz.sizeOf286
  v167 := Tryz.zeroValue286
  t168 := Tryz.underlying289
  a168 := Tryz.isAgg289
  z168 := Tryz.sizeOf289
  v168 := Tryz.zeroValue289
  t171 := Tryz.underlying243
  a171 := Tryz.isAgg243
  z171 := Tryz.sizeOf243
  v171 := Tryz.zeroValue243
  t173 := Tryz.underlying245
  a173 := Tryz.isAgg245
  z173 := Tryz.sizeOf245
  v173 := Tryz.zeroValue245
  t175 := Tryz.underlying308
  a175 := Tryz.isAgg308
  z175 := Tryz.sizeOf308
  v175 := Tryz.zeroValue308
  t210 := Tryz.underlying311
  a210 := Tryz.isAgg311
  z210 := Tryz.sizeOf311
  v210 := Tryz.zeroValue311
  t212 := Tryz.underlying281
  a212 := Tryz.isAgg281
  z212 := Tryz.sizeOf281
  v212 := Tryz.zeroValue281
  t213 := Tryz.underlying282
  a213 := Tryz.isAgg282
  z213 := Tryz.sizeOf282
  t232 := Tryz.underlying319
  a232 := Tryz.isAgg319
  z232 := Tryz.sizeOf319
  v232 := Tryz.zeroValue319
  t233 := Tryz.underlying320
  a233 := Tryz.isAgg320
  z233 := Tryz.sizeOf320
  v233 := Tryz.zeroValue320
  g15 := by kernel_rfl
  g16 := by kernel_rfl
  g17 := by kernel_rfl
  g18 := by kernel_rfl
  g19 := by kernel_rfl }
open Go.RowKit in
/-- strconv.Atoi: "Atoi is equivalent to ParseInt(s, 10, 0), converted to type int.": AT A DECIMAL NUMERAL OF AT MOST 18 BYTES: its value, and a nil error. The world behind the call: the one new row that the library's '[]byte(s)' lays. (LAID: no walk: one application.) -/
theorem Tryz.strconv_Atoi (s : ByteArray) (n : Int) (hl : s.size ≤ 18) (h : Lib.atoi s.data.toList = some n) (w : World) :
    Calls Tryz.prog 257 #[.string s] w fun e w' => e = .returned (.tuple #[.int .i64 n, .nilIface]) ∧ ∃ t, w' = Lib.bytesWorld w 5 t := Any.strconv_Atoi Tryz.lays172 s n hl h w
def Tryz.laysM171_ren : Go.Shelf.Ren := ⟨fun | 171 => 70 | 243 => 149 | 246 => 237 | 283 => 302 | 284 => 303 | 285 => 304 | 286 => 305 | 129 => 301 | 317 => 347 | 318 => 348 | 319 => 349 | 320 => 350 | 337 => 381 | 338 => 382 | n => n, fun | 3 => 3 | 9 => 9 | 2 => 2 | 4 => 4 | 171 => 243 | 0 => 0 | 53 => 185 | 37 => 85 | 5 => 5 | 173 => 245 | 212 => 281 | 51 => 184 | 20 => 20 | 213 => 282 | 46 => 173 | 232 => 319 | 233 => 320 | n => n, fun | 17 => 3 | 18 => 8 | 19 => 9 | n => n⟩
theorem Tryz.laysM171 : Go.Proofs.LaysM.n171 Tryz.prog Tryz.laysM171_ren := {
  mixed := by kernel_rfl
  f129 := Tryz.func301.trans (congrArg some (by kernel_rfl))
  f171 := Tryz.func70.trans (congrArg some (by kernel_rfl))
  f243 := Tryz.func149.trans (congrArg some (by kernel_rfl))
  f246 := Tryz.func237.trans (congrArg some (by kernel_rfl))
  f283 := Tryz.func302.trans (congrArg some (by kernel_rfl))
  f284 := Tryz.func303.trans (congrArg some (by kernel_rfl))
  f285 := Tryz.func304.trans (congrArg some (by kernel_rfl))
  f286 := Tryz.func305.trans (congrArg some (by kernel_rfl))
  f317 := Tryz.func347.trans (congrArg some (by kernel_rfl))
  f318 := Tryz.func348.trans (congrArg some (by kernel_rfl))
  f319 := Tryz.func349.trans (congrArg some (by kernel_rfl))
  f320 := Tryz.func350.trans (congrArg some (by kernel_rfl))
  f337 := Tryz.func381.trans (congrArg some (by kernel_rfl))
  f338 := Tryz.func382.trans (congrArg some (by kernel_rfl))
  t0 := Tryz.underlying0
  a0 := Tryz.isAgg0
  z0 := Tryz.sizeOf0
  v0 := Tryz.zeroValue0
  t2 := Tryz.underlying2
  a2 := Tryz.isAgg2
  z2 := Tryz.sizeOf2
  v2 := Tryz.zeroValue2
  t3 := Tryz.underlying3
  a3 := Tryz.isAgg3
  z3 := Tryz.sizeOf3
  v3 := Tryz.zeroValue3
  t4 := Tryz.underlying4
  a4 := Tryz.isAgg4
  z4 := Tryz.sizeOf4
  v4 := Tryz.zeroValue4
  t5 := Tryz.underlying5
  a5 := Tryz.isAgg5
  z5 := Tryz.sizeOf5
  v5 := Tryz.zeroValue5
  t9 := Tryz.underlying9
  a9 := Tryz.isAgg9
  z9 := Tryz.sizeOf9
  v9 := Tryz.zeroValue9
  t20 := Tryz.underlying20
  a20 := Tryz.isAgg20
  z20 := Tryz.sizeOf20
  v20 := Tryz.zeroValue20
  t37 := Tryz.underlying85
  a37 := Tryz.isAgg85
  z37 := Tryz.sizeOf85
  v37 := Tryz.zeroValue85
  t46 := Tryz.underlying173
  a46 := Tryz.isAgg173
  z46 := Tryz.sizeOf173
  v46 := Tryz.zeroValue173
  t51 := Tryz.underlying184
  a51 := Tryz.isAgg184
  z51 := Tryz.sizeOf184
  v51 := Tryz.zeroValue184
  t53 := Tryz.underlying185
  a53 := Tryz.isAgg185
  z53 := Tryz.sizeOf185
  v53 := Tryz.zeroValue185
  t171 := Tryz.underlying243
  a171 := Tryz.isAgg243
  z171 := Tryz.sizeOf243
  v171 := Tryz.zeroValue243
  t173 := Tryz.underlying245
  a173 := Tryz.isAgg245
  z173 := Tryz.sizeOf245
  v173 := Tryz.zeroValue245
  t212 := Tryz.underlying281
  a212 := Tryz.isAgg281
  z212 := Tryz.sizeOf281
  v212 := Tryz.zeroValue281
  t213 := Tryz.underlying282
  a213 := Tryz.isAgg282
  z213 := Tryz.sizeOf282
  t232 := Tryz.underlying319
  a232 := Tryz.isAgg319
  z232 := Tryz.sizeOf319
  v232 := Tryz.zeroValue319
  t233 := Tryz.underlying320
  a233 := Tryz.isAgg320
  z233 := Tryz.sizeOf320
  v233 := Tryz.zeroValue320
  g17 := by kernel_rfl
  g18 := by kernel_rfl
  g19 := by kernel_rfl
  i0 := by kernel_rfl
  i2 := by kernel_rfl
  i3 := by kernel_rfl
  i4 := by kernel_rfl
  i5 := by kernel_rfl
  i9 := by kernel_rfl
  i20 := by kernel_rfl
  i37 := by kernel_rfl
  i46 := by kernel_rfl
  i51 := by kernel_rfl
  i53 := by kernel_rfl
  i171 := by kernel_rfl
  i173 := by kernel_rfl
  i212 := by kernel_rfl
  i232 := by kernel_rfl
  i233 := by kernel_rfl
  m17 := by kernel_rfl
  m18 := by kernel_rfl
  m19 := by kernel_rfl }
open Go.RowKit Go.Sort Go.Lib in
/-- strconv.Itoa: "Itoa is equivalent to FormatInt(int64(i), 10).": i's DECIMAL NUMERAL ('Lib.itoa': a '-' where i is negative, then the digits), FOR EVERY int. The world behind the call: the world before it, new blocks behind the heap (the library's 'var a [24]byte'), draws. (LAID: no walk: one application.) -/
theorem Tryz.strconv_Itoa (n : Int) (h0 : -9223372036854775808 ≤ n) (h1 : n ≤ 9223372036854775807) (w : World) (htab : Lib.TabIs Tryz.prog w "internal/strconv.uint64pow10" .u64 Lib.pow10Tab) :
    Calls Tryz.prog 70 #[.int .i64 n] w fun e w' => e = .returned (.string ⟨(Lib.itoa n).toArray⟩) ∧ ∃ k os, w' = grow (w.drewN k) os := Any.strconv_Itoa Tryz.laysM171 n h0 h1 w htab
def Tryz.lays105_ren : Go.Shelf.Ren := ⟨fun | 105 => 264 | 212 => 232 | 99 => 314 | 165 => 315 | 166 => 268 | 170 => 316 | 169 => 269 | 263 => 281 | 264 => 282 | 206 => 351 | 240 => 324 | 241 => 358 | 276 => 364 | 277 => 387 | n => n, fun | 9 => 9 | 3 => 3 | 4 => 4 | 20 => 20 | 0 => 0 | 46 => 173 | 109 => 174 | 5 => 5 | 72 => 209 | 76 => 198 | 51 => 184 | 146 => 223 | 53 => 185 | 148 => 225 | 70 => 207 | 37 => 85 | 75 => 197 | 127 => 258 | 164 => 295 | 80 => 205 | n => n, fun | n => n⟩
theorem Tryz.lays105 : Go.Proofs.Lays.n105 Tryz.prog Tryz.lays105_ren := {
  mixed := by kernel_rfl
  f99 := Tryz.func314.trans (congrArg some (by kernel_rfl))
  f105 := Tryz.func264.trans (congrArg some (by kernel_rfl))
  f165 := Tryz.func315.trans (congrArg some (by kernel_rfl))
  f166 := Tryz.func268.trans (congrArg some (by kernel_rfl))
  f169 := Tryz.func269.trans (congrArg some (by kernel_rfl))
  f170 := Tryz.func316.trans (congrArg some (by kernel_rfl))
  f206 := Tryz.func351.trans (congrArg some (by kernel_rfl))
  f212 := Tryz.func232.trans (congrArg some (by kernel_rfl))
  f240 := Tryz.func324.trans (congrArg some (by kernel_rfl))
  f241 := Tryz.func358.trans (congrArg some (by kernel_rfl))
  f263 := Tryz.func281.trans (congrArg some (by kernel_rfl))
  f264 := Tryz.func282.trans (congrArg some (by kernel_rfl))
  f276 := Tryz.func364.trans (congrArg some (by kernel_rfl))
  f277 := Tryz.func387.trans (congrArg some (by kernel_rfl))
  t0 := Tryz.underlying0
  a0 := Tryz.isAgg0
  z0 := Tryz.sizeOf0
  v0 := Tryz.zeroValue0
  t3 := Tryz.underlying3
  a3 := Tryz.isAgg3
  z3 := Tryz.sizeOf3
  v3 := Tryz.zeroValue3
  t4 := Tryz.underlying4
  a4 := Tryz.isAgg4
  z4 := Tryz.sizeOf4
  v4 := Tryz.zeroValue4
  t5 := Tryz.underlying5
  a5 := Tryz.isAgg5
  z5 := Tryz.sizeOf5
  v5 := Tryz.zeroValue5
  t9 := Tryz.underlying9
  a9 := Tryz.isAgg9
  z9 := Tryz.sizeOf9
  v9 := Tryz.zeroValue9
  t20 := Tryz.underlying20
  a20 := Tryz.isAgg20
  z20 := Tryz.sizeOf20
  v20 := Tryz.zeroValue20
  t37 := Tryz.underlying85
  a37 := Tryz.isAgg85
  z37 := Tryz.sizeOf85
  v37 := Tryz.zeroValue85
  t46 := Tryz.underlying173
  a46 := Tryz.isAgg173
  z46 := Tryz.sizeOf173
  v46 := Tryz.zeroValue173
  t51 := Tryz.underlying184
  a51 := Tryz.isAgg184
  z51 := Tryz.sizeOf184
  v51 := Tryz.zeroValue184
  t53 := Tryz.underlying185
  a53 := Tryz.isAgg185
  z53 := Tryz.sizeOf185
  v53 := Tryz.zeroValue185
  t70 := Tryz.underlying207
  a70 := Tryz.isAgg207
  z70 := Tryz.sizeOf207
  v70 := Tryz.zeroValue207
  t72 := Tryz.underlying209
  a72 := Tryz.isAgg209
  z72 := Tryz.sizeOf209
  v72 := Tryz.zeroValue209
  t75 := Tryz.underlying197
  a75 := Tryz.isAgg197
  z75 := Tryz.sizeOf197
  v75 := Tryz.zeroValue197
  t76 := Tryz.underlying198
  a76 := Tryz.isAgg198
  z76 := Tryz.sizeOf198
  v76 := Tryz.zeroValue198
  t109 := Tryz.underlying174
  a109 := Tryz.isAgg174
  z109 := Tryz.sizeOf174
  v109 := Tryz.zeroValue174
  t127 := Tryz.underlying258
  a127 := Tryz.isAgg258
  z127 := Tryz.sizeOf258
  v127 := Tryz.zeroValue258
  t146 := Tryz.underlying223
  a146 := Tryz.isAgg223
  z146 := Tryz.sizeOf223
  v146 := Tryz.zeroValue223
  t148 := Tryz.underlying225
  a148 := Tryz.isAgg225
  z148 := Tryz.sizeOf225
  v148 := Tryz.zeroValue225
  t164 := Tryz.underlying295
  a164 := Tryz.isAgg295
  z164 := Tryz.sizeOf295
  v164 := Tryz.zeroValue295 }
theorem Tryz.Builder_Extra_105 : Builder.Extra Tryz.prog Tryz.lays105_ren := {
  sizeBuilder := by kernel_rfl
  liesBuilder := by kernel_rfl
  t5 := Tryz.underlying5
  a5 := Tryz.isAgg5
  z5 := Tryz.sizeOf5
  v5 := Tryz.zeroValue5
  infoByte := by kernel_rfl
  cellsByte := by kernel_rfl
  sizeByte := by kernel_rfl
  neB5 := by decide }
open Go.RowKit Go.Lib in
/-- **strings.Repeat: count ≥ 0, the result within one allocation: count copies of s.** (LAID: no walk: one application.) -/
theorem Tryz.strings_Repeat (s : ByteArray) (c : Nat) (w : World) (hc : c ≤ 9223372036854775807) (hlen : s.size * c ≤ 140737488355328) :
    Calls Tryz.prog 264 #[.string s, .int .i64 c] w fun e w' => e = .returned (.string ⟨(Lib.repeatL s.data.toList c).toArray⟩) ∧ Below w.heap.size w w' := Any.strings_Repeat Tryz.lays105 Tryz.Builder_Extra_105 s c w hc hlen
end Go.Proofs
