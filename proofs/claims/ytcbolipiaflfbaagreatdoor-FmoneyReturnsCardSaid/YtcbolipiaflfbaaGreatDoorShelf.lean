/-
  DERIVED: THE SHELF's CONTRACTS AT THIS DUMP, IN PLAIN WORDS (tools/lay-plain.mjs out of 'TryzShelf.lean', which tools/lay-shelf.mjs wrote): THE SAME DECLARATIONS UNDER THE SAME NAMES: 'import', 'namespace', 'open', 'def', 'theorem' AND NOTHING ELSE: no command of the shelf's: FOR A HAND-IN. Each laying: the table of numbers ('.._ren') and one theorem, a field a fact of the dump's own or the kernel's comparison; each contract: ONE APPLICATION.
-/
import Derived.Shelf.Strings.Builder1
import Derived.Shelf.Strings.Builder2
import Derived.Shelf.Strings.OnBuilder
import Derived.Shelf.Strings.Trim
import Derived.Shelf.Small.Utf8
import Derived.Shelf.Small.Bits
import Derived.Shelf.Small.Strs
import Derived.Shelf.Small.Wraps
import Derived.Shelf.Strings.BuilderF
import Derived.Shelf.Strings.BuilderK
import Derived.Shelf.Strings.BuilderRune
import Derived.Shelf.Utf8.AppendRune
import Derived.Shelf.Utf8.AppendRunePlain
import Derived.Shelf.Utf8.RuneCount
import Derived.Shelf.Strings.Builder2Cap
import Derived.Shelf.Strconv.Atoi
import Derived.Shelf.Strconv.Itoa0
import Derived.Shelf.Strconv.Itoa1
import Derived.Shelf.LaysM
import Derived.Shelf.Strconv.Itoa2
import Derived.Shelf.Strconv.Itoa3
import Derived.Shelf.Strconv.AtoiErrFast
import Derived.Shelf.Strconv.ParseIntEmpty
import Derived.Shelf.Strconv.AtoiFail
import Derived.Shelf.Strconv.Clone
import Derived.Shelf.Strconv.SyntaxError
import Derived.Shelf.LaysC
import Derived.Shelf.Strconv.ToError
import Derived.Shelf.Strconv.AtoiErr
import Derived.Shelf.Strconv.ErrVar
import Derived.Shelf.Strconv.Lower
import Derived.Shelf.Strconv.ParseUint10
import Derived.Shelf.Strconv.ParseUint10Empty
import Derived.Shelf.Strconv.ParseUint10Any
import Derived.Shelf.Strconv.ParseInt10
import Derived.Shelf.Strconv.AtoiLong
import Derived.Shelf.Strconv.AtoiInnerAll
import Derived.Shelf.Strconv.RangeError
import Derived.Shelf.Strconv.ToErrorRange
import Derived.Shelf.Strconv.AtoiAll
import Derived.Shelf.Strconv.ErrVarAll
import Derived.Shelf.Strconv.ParseUintEmpty
import Derived.Shelf.Strconv.ParseUint10b64
import Derived.Shelf.Strconv.ParseUint10b32
import Derived.Shelf.Strconv.ParseUint10b16
import Derived.Shelf.Strconv.ParseUint10b8
import Derived.Shelf.Strconv.ParseUint10At
import Derived.Shelf.Strconv.ParseInt10At64
import Derived.Shelf.Strconv.ParseInt10At32
import Derived.Shelf.Strconv.ParseInt10At16
import Derived.Shelf.Strconv.ParseInt10At8
import Derived.Shelf.Strconv.ParseInt10All
import Derived.Shelf.Strings.Search1
import Derived.Shelf.Strings.Search2
import Derived.Shelf.Strings.Search3
import Derived.Shelf.Strings.Cut
import Derived.Shelf.Strings.Count
import Derived.Shelf.Strings.Shaped
import Derived.Shelf.Strings.Prefix
import Derived.Shelf.Strings.Split
import Derived.Shelf.Strings.SplitShaped
import Derived.Shelf.Unicode.Latin
import Derived.Shelf.Unicode.Decode
import Derived.Shelf.Strings.Runes
import Derived.Shelf.Strings.RuneCount
import Derived.Shelf.Strings.AsciiSet
import Derived.Shelf.Strings.Explode
import Derived.Shelf.Bits.Mul64
import Derived.Shelf.Strings.Repeat
import Derived.Shelf.Unicode.DecodeSlow
import Derived.Shelf.Unicode.DecodeAny
import Derived.Shelf.Unicode.DecodeLast
import Derived.Shelf.Unicode.CaseLookup
import Derived.Shelf.Unicode.CaseConvert
import Derived.Shelf.Unicode.CaseTo
import Derived.Shelf.Unicode.CaseLaid
import Derived.Shelf.Strings.MapAny
import Derived.Shelf.Strings.CaseAny
import Derived.Shelf.Strings.BuilderCap
import Derived.Ground.Names2Prog
import Derived.Shelf.Slices.SearchI
import Derived.Test.YtcbolipiaflfbaaGreatDoorProg
namespace Go.Proofs
open Go.Shelf
def Tryz.lays169_ren : Go.Shelf.Ren := ⟨fun | 169 => 154 | n => n, fun | 70 => 132 | 9 => 9 | 0 => 0 | 72 => 134 | 37 => 127 | 127 => 194 | 3 => 3 | 5 => 5 | n => n, fun | n => n⟩
theorem Tryz.lays169 : Go.Proofs.Lays.n169 Tryz.prog Tryz.lays169_ren := {
  mixed := by kernel_rfl
  f169 := Tryz.func154.trans (congrArg some (by kernel_rfl))
  t0 := Tryz.underlying0
  a0 := Tryz.isAgg0
  z0 := Tryz.sizeOf0
  v0 := Tryz.zeroValue0
  t3 := Tryz.underlying3
  a3 := Tryz.isAgg3
  z3 := Tryz.sizeOf3
  v3 := Tryz.zeroValue3
  t9 := Tryz.underlying9
  a9 := Tryz.isAgg9
  z9 := Tryz.sizeOf9
  v9 := Tryz.zeroValue9
  t37 := Tryz.underlying127
  a37 := Tryz.isAgg127
  z37 := Tryz.sizeOf127
  v37 := Tryz.zeroValue127
  t70 := Tryz.underlying132
  a70 := Tryz.isAgg132
  z70 := Tryz.sizeOf132
  v70 := Tryz.zeroValue132
  t72 := Tryz.underlying134
  a72 := Tryz.isAgg134
  z72 := Tryz.sizeOf134
  v72 := Tryz.zeroValue134
  t127 := Tryz.underlying194
  a127 := Tryz.isAgg194
  z127 := Tryz.sizeOf194
  v127 := Tryz.zeroValue194 }
theorem Tryz.Builder_Extra_169 : Builder.Extra Tryz.prog Tryz.lays169_ren := {
  sizeBuilder := by kernel_rfl
  liesBuilder := by kernel_rfl
  t5 := Tryz.underlying5
  a5 := Tryz.isAgg5
  z5 := Tryz.sizeOf5
  v5 := Tryz.zeroValue5
  infoByte := by kernel_rfl
  cellsByte := by kernel_rfl
  sizeByte := by kernel_rfl
  neB5 := by decide }
def Tryz.lays160_ren : Go.Shelf.Ren := ⟨fun | 160 => 193 | 232 => 324 | 231 => 323 | 227 => 325 | 234 => 327 | 233 => 326 | 236 => 329 | 235 => 328 | 228 => 363 | 271 => 365 | 151 => 364 | 197 => 265 | 120 => 396 | 152 => 343 | 260 => 347 | 137 => 376 | 119 => 377 | 224 => 378 | 225 => 379 | 217 => 411 | 266 => 432 | n => n, fun | 9 => 9 | 4 => 4 | 3 => 3 | 5 => 5 | 117 => 213 | 116 => 212 | 0 => 0 | 124 => 216 | 21 => 21 | 105 => 179 | 46 => 231 | 119 => 258 | 139 => 261 | 138 => 260 | n => n, fun | 3 => 6 | 4 => 7 | n => n⟩
theorem Tryz.lays160 : Go.Proofs.Lays.n160 Tryz.prog Tryz.lays160_ren := {
  mixed := by kernel_rfl
  f119 := Tryz.func377.trans (congrArg some (by kernel_rfl))
  f120 := Tryz.func396.trans (congrArg some (by kernel_rfl))
  f137 := Tryz.func376.trans (congrArg some (by kernel_rfl))
  f151 := Tryz.func364.trans (congrArg some (by kernel_rfl))
  f152 := Tryz.func343.trans (congrArg some (by kernel_rfl))
  f160 := Tryz.func193.trans (congrArg some (by kernel_rfl))
  f197 := Tryz.func265.trans (congrArg some (by kernel_rfl))
  f217 := Tryz.func411.trans (congrArg some (by kernel_rfl))
  f224 := Tryz.func378.trans (congrArg some (by kernel_rfl))
  f225 := Tryz.func379.trans (congrArg some (by kernel_rfl))
  f227 := Tryz.func325.trans (congrArg some (by kernel_rfl))
  f228 := Tryz.func363.trans (congrArg some (by kernel_rfl))
  f231 := Tryz.func323.trans (congrArg some (by kernel_rfl))
  f232 := Tryz.func324.trans (congrArg some (by kernel_rfl))
  f233 := Tryz.func326.trans (congrArg some (by kernel_rfl))
  f234 := Tryz.func327.trans (congrArg some (by kernel_rfl))
  f235 := Tryz.func328.trans (congrArg some (by kernel_rfl))
  f236 := Tryz.func329.trans (congrArg some (by kernel_rfl))
  f260 := Tryz.func347.trans (congrArg some (by kernel_rfl))
  f266 := Tryz.func432.trans (congrArg some (by kernel_rfl))
  f271 := Tryz.func365.trans (congrArg some (by kernel_rfl))
  t0 := Tryz.underlying0
  a0 := Tryz.isAgg0
  z0 := Tryz.sizeOf0
  v0 := Tryz.zeroValue0
  t3 := Tryz.underlying3
  a3 := Tryz.isAgg3
  z3 := Tryz.sizeOf3
  v3 := Tryz.zeroValue3
  t4 := Tryz.underlying4
  a4 := Tryz.isAgg4
  z4 := Tryz.sizeOf4
  v4 := Tryz.zeroValue4
  t5 := Tryz.underlying5
  a5 := Tryz.isAgg5
  z5 := Tryz.sizeOf5
  v5 := Tryz.zeroValue5
  t9 := Tryz.underlying9
  a9 := Tryz.isAgg9
  z9 := Tryz.sizeOf9
  v9 := Tryz.zeroValue9
  t21 := Tryz.underlying21
  a21 := Tryz.isAgg21
  z21 := Tryz.sizeOf21
  v21 := Tryz.zeroValue21
  t46 := Tryz.underlying231
  a46 := Tryz.isAgg231
  z46 := Tryz.sizeOf231
  v46 := Tryz.zeroValue231
  t105 := Tryz.underlying179
  a105 := Tryz.isAgg179
  z105 := Tryz.sizeOf179
  v105 := Tryz.zeroValue179
  t116 := Tryz.underlying212
  a116 := Tryz.isAgg212
  z116 := Tryz.sizeOf212
  t117 := Tryz.underlying213
  a117 := Tryz.isAgg213
  z117 := Tryz.sizeOf213
  v117 := Tryz.zeroValue213
  t119 := Tryz.underlying258
  a119 := Tryz.isAgg258
  z119 := Tryz.sizeOf258
  t124 := Tryz.underlying216
  a124 := Tryz.isAgg216
  z124 := Tryz.sizeOf216
  v124 := Tryz.zeroValue216
  t138 := Tryz.underlying260
  a138 := Tryz.isAgg260
  z138 := Tryz.sizeOf260
  v138 := Tryz.zeroValue260
  t139 := Tryz.underlying261
  a139 := Tryz.isAgg261
  z139 := Tryz.sizeOf261
  v139 := Tryz.zeroValue261
  g3 := by kernel_rfl
  g4 := by kernel_rfl }
def Tryz.lays103_ren : Go.Shelf.Ren := ⟨fun | 103 => 36 | 210 => 53 | 206 => 147 | n => n, fun | 9 => 9 | 4 => 4 | 24 => 56 | 3 => 3 | n => n, fun | n => n⟩
theorem Tryz.lays103 : Go.Proofs.Lays.n103 Tryz.prog Tryz.lays103_ren := {
  mixed := by kernel_rfl
  f103 := Tryz.func36.trans (congrArg some (by kernel_rfl))
  f206 := Tryz.func147.trans (congrArg some (by kernel_rfl))
  f210 := Tryz.func53.trans (congrArg some (by kernel_rfl))
  t3 := Tryz.underlying3
  a3 := Tryz.isAgg3
  z3 := Tryz.sizeOf3
  v3 := Tryz.zeroValue3
  t4 := Tryz.underlying4
  a4 := Tryz.isAgg4
  z4 := Tryz.sizeOf4
  v4 := Tryz.zeroValue4
  t9 := Tryz.underlying9
  a9 := Tryz.isAgg9
  z9 := Tryz.sizeOf9
  v9 := Tryz.zeroValue9
  t24 := Tryz.underlying56
  a24 := Tryz.isAgg56
  z24 := Tryz.sizeOf56
  v24 := Tryz.zeroValue56 }
open Go.RowKit in
/-- strings.CutPrefix: "CutPrefix returns s without the provided leading prefix string and reports whether it found the prefix. If s doesn't start with prefix, CutPrefix returns s, false. If prefix is the empty string, CutPrefix returns s, true.": IT RETURNS '(Lib.trimPrefix s p, Lib.hasPrefix s p)'; the world is as it was. (LAID: no walk: one application.) -/
theorem Tryz.strings_CutPrefix (s p : ByteArray) (w : World) :
    Calls Tryz.prog 36 #[.string s, .string p] w fun e w' => e = .returned (.tuple #[.string ⟨(Lib.trimPrefix s.data.toList p.data.toList).toArray⟩, .bool (Lib.hasPrefix s.data.toList p.data.toList)]) ∧ w' = w := Any.strings_CutPrefix Tryz.lays103 s p w
open Go.RowKit in
/-- (*strings.Builder).String: "String returns the accumulated string.": OF A BUILDER THAT HOLDS AT LEAST ONE BYTE. ✋ THE MODEL FREEZES THOSE BYTES IN THE BUFFER (unsafe.String): a later write INTO them ends the model's run without an answer; a later append BEHIND them goes on. The statement's order of evaluation is drawn: one draw. THE FORM '_k': OVER 'Lib.IsBuilderF' (a builder that 'String()' may have read), AND WITH THE FRAME THAT REACHES ABOVE THE BUILDER: 'Lib.OthersKept': every block that is not b and is no row of uint8's stands as it stood: the iterator of a range among them. (LAID: no walk: one application.) -/
theorem Tryz.Builder_String_k (B b : Nat) (l : List UInt8) (w : World) (h : Lib.IsBuilderF 134 5 B b (Lib.byteCells l) w) (h0 : l ≠ []) :
    Calls Tryz.prog 154 #[.pointer (some ⟨b, 0, none⟩)] w fun e w' => e = .returned (.string ⟨l.toArray⟩) ∧ (Lib.IsBuilderF 134 5 B b (Lib.byteCells l) w' ∧ Below B w w' ∧ Lib.OthersKept 5 (some b) w w') := Any.Builder_String_k Tryz.lays169 Tryz.Builder_Extra_169 B b l w h h0
def Tryz.lays172_ren : Go.Shelf.Ren := ⟨fun | 172 => 55 | 244 => 149 | 245 => 150 | 247 => 271 | 279 => 272 | 280 => 273 | 281 => 274 | 282 => 275 | 287 => 353 | 316 => 354 | 171 => 37 | 205 => 355 | 321 => 385 | 322 => 386 | 243 => 54 | 246 => 148 | 283 => 267 | 284 => 268 | 285 => 269 | 286 => 270 | 129 => 349 | 317 => 348 | 318 => 350 | 319 => 351 | 320 => 352 | 337 => 383 | 338 => 384 | n => n, fun | 9 => 9 | 3 => 3 | 75 => 79 | 76 => 80 | 4 => 4 | 5 => 5 | 167 => 187 | 37 => 127 | 0 => 0 | 85 => 188 | 2 => 2 | 168 => 190 | 53 => 139 | 175 => 233 | 46 => 231 | 210 => 236 | 127 => 194 | 145 => 266 | 143 => 264 | 21 => 21 | 171 => 182 | 173 => 185 | 212 => 229 | 51 => 82 | 20 => 20 | 213 => 230 | 232 => 291 | 233 => 292 | 80 => 88 | n => n, fun | 15 => 4 | 16 => 5 | 17 => 3 | 18 => 9 | 19 => 10 | n => n⟩
theorem Tryz.lays172 : Go.Proofs.Lays.n172 Tryz.prog Tryz.lays172_ren := {
  mixed := by kernel_rfl
  f129 := Tryz.func349.trans (congrArg some (by kernel_rfl))
  f171 := Tryz.func37.trans (congrArg some (by kernel_rfl))
  f172 := Tryz.func55.trans (congrArg some (by kernel_rfl))
  f205 := Tryz.func355.trans (congrArg some (by kernel_rfl))
  f243 := Tryz.func54.trans (congrArg some (by kernel_rfl))
  f244 := Tryz.func149.trans (congrArg some (by kernel_rfl))
  f245 := Tryz.func150.trans (congrArg some (by kernel_rfl))
  f246 := Tryz.func148.trans (congrArg some (by kernel_rfl))
  f247 := Tryz.func271.trans (congrArg some (by kernel_rfl))
  f279 := Tryz.func272.trans (congrArg some (by kernel_rfl))
  f280 := Tryz.func273.trans (congrArg some (by kernel_rfl))
  f281 := Tryz.func274.trans (congrArg some (by kernel_rfl))
  f282 := Tryz.func275.trans (congrArg some (by kernel_rfl))
  f283 := Tryz.func267.trans (congrArg some (by kernel_rfl))
  f284 := Tryz.func268.trans (congrArg some (by kernel_rfl))
  f285 := Tryz.func269.trans (congrArg some (by kernel_rfl))
  f286 := Tryz.func270.trans (congrArg some (by kernel_rfl))
  f287 := Tryz.func353.trans (congrArg some (by kernel_rfl))
  f316 := Tryz.func354.trans (congrArg some (by kernel_rfl))
  f317 := Tryz.func348.trans (congrArg some (by kernel_rfl))
  f318 := Tryz.func350.trans (congrArg some (by kernel_rfl))
  f319 := Tryz.func351.trans (congrArg some (by kernel_rfl))
  f320 := Tryz.func352.trans (congrArg some (by kernel_rfl))
  f321 := Tryz.func385.trans (congrArg some (by kernel_rfl))
  f322 := Tryz.func386.trans (congrArg some (by kernel_rfl))
  f337 := Tryz.func383.trans (congrArg some (by kernel_rfl))
  f338 := Tryz.func384.trans (congrArg some (by kernel_rfl))
  t0 := Tryz.underlying0
  a0 := Tryz.isAgg0
  z0 := Tryz.sizeOf0
  v0 := Tryz.zeroValue0
  t2 := Tryz.underlying2
  a2 := Tryz.isAgg2
  z2 := Tryz.sizeOf2
  v2 := Tryz.zeroValue2
  t3 := Tryz.underlying3
  a3 := Tryz.isAgg3
  z3 := Tryz.sizeOf3
  v3 := Tryz.zeroValue3
  t4 := Tryz.underlying4
  a4 := Tryz.isAgg4
  z4 := Tryz.sizeOf4
  v4 := Tryz.zeroValue4
  t5 := Tryz.underlying5
  a5 := Tryz.isAgg5
  z5 := Tryz.sizeOf5
  v5 := Tryz.zeroValue5
  t9 := Tryz.underlying9
  a9 := Tryz.isAgg9
  z9 := Tryz.sizeOf9
  v9 := Tryz.zeroValue9
  t20 := Tryz.underlying20
  a20 := Tryz.isAgg20
  z20 := Tryz.sizeOf20
  v20 := Tryz.zeroValue20
  t21 := Tryz.underlying21
  a21 := Tryz.isAgg21
  z21 := Tryz.sizeOf21
  v21 := Tryz.zeroValue21
  t37 := Tryz.underlying127
  a37 := Tryz.isAgg127
  z37 := Tryz.sizeOf127
  v37 := Tryz.zeroValue127
  t46 := Tryz.underlying231
  a46 := Tryz.isAgg231
  z46 := Tryz.sizeOf231
  v46 := Tryz.zeroValue231
  t51 := Tryz.underlying82
  a51 := Tryz.isAgg82
  z51 := Tryz.sizeOf82
  v51 := Tryz.zeroValue82
  t53 := Tryz.underlying139
  a53 := Tryz.isAgg139
  z53 := Tryz.sizeOf139
  v53 := Tryz.zeroValue139
  t75 := Tryz.underlying79
  a75 := Tryz.isAgg79
  z75 := Tryz.sizeOf79
  v75 := Tryz.zeroValue79
  t76 := Tryz.underlying80
  a76 := Tryz.isAgg80
  z76 := Tryz.sizeOf80
  v76 := Tryz.zeroValue80
  t85 := Tryz.underlying188
  a85 := Tryz.isAgg188
  z85 := Tryz.sizeOf188
  v85 := Tryz.zeroValue188
  t127 := Tryz.underlying194
  a127 := Tryz.isAgg194
  z127 := Tryz.sizeOf194
  v127 := Tryz.zeroValue194
  t143 := Tryz.underlying264
  a143 := Tryz.isAgg264
  z143 := Tryz.sizeOf264
  v143 := Tryz.zeroValue264
  t145 := Tryz.underlying266
  a145 := Tryz.isAgg266
  z145 := Tryz.sizeOf266
  v145 := Tryz.zeroValue266
  t167 := Tryz.underlying187
  a167 := Tryz.isAgg187
  z167 := Tryz.sizeOf187
  v167 := Tryz.zeroValue187
  t168 := Tryz.underlying190
  a168 := Tryz.isAgg190
  z168 := Tryz.sizeOf190
  v168 := Tryz.zeroValue190
  t171 := Tryz.underlying182
  a171 := Tryz.isAgg182
  z171 := Tryz.sizeOf182
  v171 := Tryz.zeroValue182
  t173 := Tryz.underlying185
  a173 := Tryz.isAgg185
  z173 := Tryz.sizeOf185
  v173 := Tryz.zeroValue185
  t175 := Tryz.underlying233
  a175 := Tryz.isAgg233
  z175 := Tryz.sizeOf233
  v175 := Tryz.zeroValue233
  t210 := Tryz.underlying236
  a210 := Tryz.isAgg236
  z210 := Tryz.sizeOf236
  v210 := Tryz.zeroValue236
  t212 := Tryz.underlying229
  a212 := Tryz.isAgg229
  z212 := Tryz.sizeOf229
  v212 := Tryz.zeroValue229
  t213 := Tryz.underlying230
  a213 := Tryz.isAgg230
  z213 := Tryz.sizeOf230
  t232 := Tryz.underlying291
  a232 := Tryz.isAgg291
  z232 := Tryz.sizeOf291
  v232 := Tryz.zeroValue291
  t233 := Tryz.underlying292
  a233 := Tryz.isAgg292
  z233 := Tryz.sizeOf292
  v233 := Tryz.zeroValue292
  g15 := by kernel_rfl
  g16 := by kernel_rfl
  g17 := by kernel_rfl
  g18 := by kernel_rfl
  g19 := by kernel_rfl }
open Go.RowKit in
/-- strconv.Atoi: "Atoi is equivalent to ParseInt(s, 10, 0), converted to type int.": AT A DECIMAL NUMERAL OF AT MOST 18 BYTES: its value, and a nil error. The world behind the call: the one new row that the library's '[]byte(s)' lays. (LAID: no walk: one application.) -/
theorem Tryz.strconv_Atoi (s : ByteArray) (n : Int) (hl : s.size ≤ 18) (h : Lib.atoi s.data.toList = some n) (w : World) :
    Calls Tryz.prog 55 #[.string s] w fun e w' => e = .returned (.tuple #[.int .i64 n, .nilIface]) ∧ ∃ t, w' = Lib.bytesWorld w 5 t := Any.strconv_Atoi Tryz.lays172 s n hl h w
def Tryz.laysM171_ren : Go.Shelf.Ren := ⟨fun | 171 => 37 | 243 => 54 | 246 => 148 | 283 => 267 | 284 => 268 | 285 => 269 | 286 => 270 | 129 => 349 | 317 => 348 | 318 => 350 | 319 => 351 | 320 => 352 | 337 => 383 | 338 => 384 | n => n, fun | 3 => 3 | 9 => 9 | 2 => 2 | 4 => 4 | 171 => 182 | 0 => 0 | 53 => 139 | 37 => 127 | 5 => 5 | 173 => 185 | 212 => 229 | 51 => 82 | 20 => 20 | 213 => 230 | 46 => 231 | 232 => 291 | 233 => 292 | n => n, fun | 17 => 3 | 18 => 9 | 19 => 10 | n => n⟩
theorem Tryz.laysM171 : Go.Proofs.LaysM.n171 Tryz.prog Tryz.laysM171_ren := {
  mixed := by kernel_rfl
  f129 := Tryz.func349.trans (congrArg some (by kernel_rfl))
  f171 := Tryz.func37.trans (congrArg some (by kernel_rfl))
  f243 := Tryz.func54.trans (congrArg some (by kernel_rfl))
  f246 := Tryz.func148.trans (congrArg some (by kernel_rfl))
  f283 := Tryz.func267.trans (congrArg some (by kernel_rfl))
  f284 := Tryz.func268.trans (congrArg some (by kernel_rfl))
  f285 := Tryz.func269.trans (congrArg some (by kernel_rfl))
  f286 := Tryz.func270.trans (congrArg some (by kernel_rfl))
  f317 := Tryz.func348.trans (congrArg some (by kernel_rfl))
  f318 := Tryz.func350.trans (congrArg some (by kernel_rfl))
  f319 := Tryz.func351.trans (congrArg some (by kernel_rfl))
  f320 := Tryz.func352.trans (congrArg some (by kernel_rfl))
  f337 := Tryz.func383.trans (congrArg some (by kernel_rfl))
  f338 := Tryz.func384.trans (congrArg some (by kernel_rfl))
  t0 := Tryz.underlying0
  a0 := Tryz.isAgg0
  z0 := Tryz.sizeOf0
  v0 := Tryz.zeroValue0
  t2 := Tryz.underlying2
  a2 := Tryz.isAgg2
  z2 := Tryz.sizeOf2
  v2 := Tryz.zeroValue2
  t3 := Tryz.underlying3
  a3 := Tryz.isAgg3
  z3 := Tryz.sizeOf3
  v3 := Tryz.zeroValue3
  t4 := Tryz.underlying4
  a4 := Tryz.isAgg4
  z4 := Tryz.sizeOf4
  v4 := Tryz.zeroValue4
  t5 := Tryz.underlying5
  a5 := Tryz.isAgg5
  z5 := Tryz.sizeOf5
  v5 := Tryz.zeroValue5
  t9 := Tryz.underlying9
  a9 := Tryz.isAgg9
  z9 := Tryz.sizeOf9
  v9 := Tryz.zeroValue9
  t20 := Tryz.underlying20
  a20 := Tryz.isAgg20
  z20 := Tryz.sizeOf20
  v20 := Tryz.zeroValue20
  t37 := Tryz.underlying127
  a37 := Tryz.isAgg127
  z37 := Tryz.sizeOf127
  v37 := Tryz.zeroValue127
  t46 := Tryz.underlying231
  a46 := Tryz.isAgg231
  z46 := Tryz.sizeOf231
  v46 := Tryz.zeroValue231
  t51 := Tryz.underlying82
  a51 := Tryz.isAgg82
  z51 := Tryz.sizeOf82
  v51 := Tryz.zeroValue82
  t53 := Tryz.underlying139
  a53 := Tryz.isAgg139
  z53 := Tryz.sizeOf139
  v53 := Tryz.zeroValue139
  t171 := Tryz.underlying182
  a171 := Tryz.isAgg182
  z171 := Tryz.sizeOf182
  v171 := Tryz.zeroValue182
  t173 := Tryz.underlying185
  a173 := Tryz.isAgg185
  z173 := Tryz.sizeOf185
  v173 := Tryz.zeroValue185
  t212 := Tryz.underlying229
  a212 := Tryz.isAgg229
  z212 := Tryz.sizeOf229
  v212 := Tryz.zeroValue229
  t213 := Tryz.underlying230
  a213 := Tryz.isAgg230
  z213 := Tryz.sizeOf230
  t232 := Tryz.underlying291
  a232 := Tryz.isAgg291
  z232 := Tryz.sizeOf291
  v232 := Tryz.zeroValue291
  t233 := Tryz.underlying292
  a233 := Tryz.isAgg292
  z233 := Tryz.sizeOf292
  v233 := Tryz.zeroValue292
  g17 := by kernel_rfl
  g18 := by kernel_rfl
  g19 := by kernel_rfl
  i0 := by kernel_rfl
  i2 := by kernel_rfl
  i3 := by kernel_rfl
  i4 := by kernel_rfl
  i5 := by kernel_rfl
  i9 := by kernel_rfl
  i20 := by kernel_rfl
  i37 := by kernel_rfl
  i46 := by kernel_rfl
  i51 := by kernel_rfl
  i53 := by kernel_rfl
  i171 := by kernel_rfl
  i173 := by kernel_rfl
  i212 := by kernel_rfl
  i232 := by kernel_rfl
  i233 := by kernel_rfl
  m17 := by kernel_rfl
  m18 := by kernel_rfl
  m19 := by kernel_rfl }
open Go.RowKit Go.Sort Go.Lib in
/-- strconv.Itoa: "Itoa is equivalent to FormatInt(int64(i), 10).": i's DECIMAL NUMERAL ('Lib.itoa': a '-' where i is negative, then the digits), FOR EVERY int. The world behind the call: the world before it, new blocks behind the heap (the library's 'var a [24]byte'), draws. (LAID: no walk: one application.) -/
theorem Tryz.strconv_Itoa (n : Int) (h0 : -9223372036854775808 ≤ n) (h1 : n ≤ 9223372036854775807) (w : World) (htab : Lib.TabIs Tryz.prog w "internal/strconv.uint64pow10" .u64 Lib.pow10Tab) :
    Calls Tryz.prog 37 #[.int .i64 n] w fun e w' => e = .returned (.string ⟨(Lib.itoa n).toArray⟩) ∧ ∃ k os, w' = grow (w.drewN k) os := Any.strconv_Itoa Tryz.laysM171 n h0 h1 w htab
def Tryz.lays105_ren : Go.Shelf.Ren := ⟨fun | 105 => 341 | 212 => 371 | 99 => 372 | 165 => 373 | 166 => 153 | 170 => 374 | 169 => 154 | 263 => 407 | 264 => 408 | 206 => 147 | 240 => 277 | 241 => 409 | 276 => 356 | 277 => 430 | n => n, fun | 9 => 9 | 3 => 3 | 4 => 4 | 20 => 20 | 0 => 0 | 46 => 231 | 109 => 249 | 5 => 5 | 72 => 134 | 76 => 80 | 51 => 82 | 146 => 283 | 53 => 139 | 148 => 285 | 70 => 132 | 37 => 127 | 75 => 79 | 127 => 194 | 164 => 238 | 80 => 88 | n => n, fun | n => n⟩
theorem Tryz.lays105 : Go.Proofs.Lays.n105 Tryz.prog Tryz.lays105_ren := {
  mixed := by kernel_rfl
  f99 := Tryz.func372.trans (congrArg some (by kernel_rfl))
  f105 := Tryz.func341.trans (congrArg some (by kernel_rfl))
  f165 := Tryz.func373.trans (congrArg some (by kernel_rfl))
  f166 := Tryz.func153.trans (congrArg some (by kernel_rfl))
  f169 := Tryz.func154.trans (congrArg some (by kernel_rfl))
  f170 := Tryz.func374.trans (congrArg some (by kernel_rfl))
  f206 := Tryz.func147.trans (congrArg some (by kernel_rfl))
  f212 := Tryz.func371.trans (congrArg some (by kernel_rfl))
  f240 := Tryz.func277.trans (congrArg some (by kernel_rfl))
  f241 := Tryz.func409.trans (congrArg some (by kernel_rfl))
  f263 := Tryz.func407.trans (congrArg some (by kernel_rfl))
  f264 := Tryz.func408.trans (congrArg some (by kernel_rfl))
  f276 := Tryz.func356.trans (congrArg some (by kernel_rfl))
  f277 := Tryz.func430.trans (congrArg some (by kernel_rfl))
  t0 := Tryz.underlying0
  a0 := Tryz.isAgg0
  z0 := Tryz.sizeOf0
  v0 := Tryz.zeroValue0
  t3 := Tryz.underlying3
  a3 := Tryz.isAgg3
  z3 := Tryz.sizeOf3
  v3 := Tryz.zeroValue3
  t4 := Tryz.underlying4
  a4 := Tryz.isAgg4
  z4 := Tryz.sizeOf4
  v4 := Tryz.zeroValue4
  t5 := Tryz.underlying5
  a5 := Tryz.isAgg5
  z5 := Tryz.sizeOf5
  v5 := Tryz.zeroValue5
  t9 := Tryz.underlying9
  a9 := Tryz.isAgg9
  z9 := Tryz.sizeOf9
  v9 := Tryz.zeroValue9
  t20 := Tryz.underlying20
  a20 := Tryz.isAgg20
  z20 := Tryz.sizeOf20
  v20 := Tryz.zeroValue20
  t37 := Tryz.underlying127
  a37 := Tryz.isAgg127
  z37 := Tryz.sizeOf127
  v37 := Tryz.zeroValue127
  t46 := Tryz.underlying231
  a46 := Tryz.isAgg231
  z46 := Tryz.sizeOf231
  v46 := Tryz.zeroValue231
  t51 := Tryz.underlying82
  a51 := Tryz.isAgg82
  z51 := Tryz.sizeOf82
  v51 := Tryz.zeroValue82
  t53 := Tryz.underlying139
  a53 := Tryz.isAgg139
  z53 := Tryz.sizeOf139
  v53 := Tryz.zeroValue139
  t70 := Tryz.underlying132
  a70 := Tryz.isAgg132
  z70 := Tryz.sizeOf132
  v70 := Tryz.zeroValue132
  t72 := Tryz.underlying134
  a72 := Tryz.isAgg134
  z72 := Tryz.sizeOf134
  v72 := Tryz.zeroValue134
  t75 := Tryz.underlying79
  a75 := Tryz.isAgg79
  z75 := Tryz.sizeOf79
  v75 := Tryz.zeroValue79
  t76 := Tryz.underlying80
  a76 := Tryz.isAgg80
  z76 := Tryz.sizeOf80
  v76 := Tryz.zeroValue80
  t109 := Tryz.underlying249
  a109 := Tryz.isAgg249
  z109 := Tryz.sizeOf249
  v109 := Tryz.zeroValue249
  t127 := Tryz.underlying194
  a127 := Tryz.isAgg194
  z127 := Tryz.sizeOf194
  v127 := Tryz.zeroValue194
  t146 := Tryz.underlying283
  a146 := Tryz.isAgg283
  z146 := Tryz.sizeOf283
  v146 := Tryz.zeroValue283
  t148 := Tryz.underlying285
  a148 := Tryz.isAgg285
  z148 := Tryz.sizeOf285
  v148 := Tryz.zeroValue285
  t164 := Tryz.underlying238
  a164 := Tryz.isAgg238
  z164 := Tryz.sizeOf238
  v164 := Tryz.zeroValue238 }
theorem Tryz.Builder_Extra_105 : Builder.Extra Tryz.prog Tryz.lays105_ren := {
  sizeBuilder := by kernel_rfl
  liesBuilder := by kernel_rfl
  t5 := Tryz.underlying5
  a5 := Tryz.isAgg5
  z5 := Tryz.sizeOf5
  v5 := Tryz.zeroValue5
  infoByte := by kernel_rfl
  cellsByte := by kernel_rfl
  sizeByte := by kernel_rfl
  neB5 := by decide }
open Go.RowKit Go.Lib in
/-- **strings.Repeat: count ≥ 0, the result within one allocation: count copies of s.** (LAID: no walk: one application.) -/
theorem Tryz.strings_Repeat (s : ByteArray) (c : Nat) (w : World) (hc : c ≤ 9223372036854775807) (hlen : s.size * c ≤ 140737488355328) :
    Calls Tryz.prog 341 #[.string s, .int .i64 c] w fun e w' => e = .returned (.string ⟨(Lib.repeatL s.data.toList c).toArray⟩) ∧ Below w.heap.size w w' := Any.strings_Repeat Tryz.lays105 Tryz.Builder_Extra_105 s c w hc hlen
end Go.Proofs
