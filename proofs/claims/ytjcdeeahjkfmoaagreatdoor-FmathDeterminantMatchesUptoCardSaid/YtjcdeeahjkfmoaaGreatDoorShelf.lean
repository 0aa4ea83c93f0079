/-
  DERIVED: THE SHELF's CONTRACTS AT THIS DUMP, IN PLAIN WORDS (tools/lay-plain.mjs out of 'TryzShelf.lean', which tools/lay-shelf.mjs wrote): THE SAME DECLARATIONS UNDER THE SAME NAMES: 'import', 'namespace', 'open', 'def', 'theorem' AND NOTHING ELSE: no command of the shelf's: FOR A HAND-IN. Each laying: the table of numbers ('.._ren') and one theorem, a field a fact of the dump's own or the kernel's comparison; each contract: ONE APPLICATION.
-/
import Derived.Shelf.Strings.Builder1
import Derived.Shelf.Strings.Builder2
import Derived.Shelf.Strings.OnBuilder
import Derived.Shelf.Strings.Trim
import Derived.Shelf.Small.Utf8
import Derived.Shelf.Small.Strs
import Derived.Shelf.Small.Wraps
import Derived.Shelf.Strings.BuilderF
import Derived.Shelf.Strings.BuilderK
import Derived.Shelf.Strings.BuilderRune
import Derived.Shelf.Utf8.RuneCount
import Derived.Shelf.Strconv.Atoi
import Derived.Shelf.Strconv.Itoa0
import Derived.Shelf.Strconv.Itoa1
import Derived.Shelf.LaysM
import Derived.Shelf.Strconv.Itoa2
import Derived.Shelf.Strconv.Itoa3
import Derived.Shelf.Strconv.AtoiErrFast
import Derived.Shelf.Strconv.ParseIntEmpty
import Derived.Shelf.Strconv.AtoiFail
import Derived.Shelf.Strconv.Clone
import Derived.Shelf.Strconv.SyntaxError
import Derived.Shelf.LaysC
import Derived.Shelf.Strconv.ToError
import Derived.Shelf.Strconv.AtoiErr
import Derived.Shelf.Strconv.ErrVar
import Derived.Shelf.Strconv.Lower
import Derived.Shelf.Strconv.ParseUint10
import Derived.Shelf.Strconv.ParseUint10Empty
import Derived.Shelf.Strconv.ParseUint10Any
import Derived.Shelf.Strconv.ParseInt10
import Derived.Shelf.Strconv.AtoiLong
import Derived.Shelf.Strconv.AtoiInnerAll
import Derived.Shelf.Strconv.RangeError
import Derived.Shelf.Strconv.ToErrorRange
import Derived.Shelf.Strconv.AtoiAll
import Derived.Shelf.Strconv.ErrVarAll
import Derived.Shelf.Strconv.ParseUintEmpty
import Derived.Shelf.Strconv.ParseUint10b64
import Derived.Shelf.Strconv.ParseUint10b32
import Derived.Shelf.Strconv.ParseUint10b16
import Derived.Shelf.Strconv.ParseUint10b8
import Derived.Shelf.Strconv.ParseUint10At
import Derived.Shelf.Strconv.ParseInt10At8
import Derived.Shelf.Strings.Search1
import Derived.Shelf.Strings.Search2
import Derived.Shelf.Strings.Search3
import Derived.Shelf.Strings.Cut
import Derived.Shelf.Strings.Count
import Derived.Shelf.Strings.Shaped
import Derived.Shelf.Strings.Prefix
import Derived.Shelf.Strings.Split
import Derived.Shelf.Unicode.Latin
import Derived.Shelf.Unicode.Decode
import Derived.Shelf.Strings.Runes
import Derived.Shelf.Strings.RuneCount
import Derived.Shelf.Strings.AsciiSet
import Derived.Shelf.Bits.Mul64
import Derived.Shelf.Strings.Repeat
import Derived.Shelf.Unicode.DecodeSlow
import Derived.Shelf.Unicode.DecodeAny
import Derived.Shelf.Unicode.CaseLookup
import Derived.Shelf.Unicode.CaseConvert
import Derived.Shelf.Unicode.CaseTo
import Derived.Shelf.Unicode.CaseLaid
import Derived.Shelf.Strings.MapAny
import Derived.Test.YtjcdeeahjkfmoaaGreatDoorProg
namespace Go.Proofs
open Go.Shelf
def Tryz.lays169_ren : Go.Shelf.Ren := ⟨fun | 169 => 251 | n => n, fun | 70 => 201 | 9 => 9 | 0 => 0 | 72 => 203 | 37 => 125 | 127 => 241 | 3 => 3 | 5 => 5 | n => n, fun | n => n⟩
theorem Tryz.lays169 : Go.Proofs.Lays.n169 Tryz.prog Tryz.lays169_ren := {
  mixed := by kernel_rfl
  f169 := Tryz.func251.trans (congrArg some (by kernel_rfl))
  t0 := Tryz.underlying0
  a0 := Tryz.isAgg0
  z0 := Tryz.sizeOf0
  v0 := Tryz.zeroValue0
  t3 := Tryz.underlying3
  a3 := Tryz.isAgg3
  z3 := Tryz.sizeOf3
  v3 := Tryz.zeroValue3
  t9 := Tryz.underlying9
  a9 := Tryz.isAgg9
  z9 := Tryz.sizeOf9
  v9 := Tryz.zeroValue9
  t37 := Tryz.underlying125
  a37 := Tryz.isAgg125
  z37 := Tryz.sizeOf125
  v37 := Tryz.zeroValue125
  t70 := Tryz.underlying201
  a70 := Tryz.isAgg201
  z70 := Tryz.sizeOf201
  v70 := Tryz.zeroValue201
  t72 := Tryz.underlying203
  a72 := Tryz.isAgg203
  z72 := Tryz.sizeOf203
  v72 := Tryz.zeroValue203
  t127 := Tryz.underlying241
  a127 := Tryz.isAgg241
  z127 := Tryz.sizeOf241
  v127 := Tryz.zeroValue241 }
theorem Tryz.Builder_Extra_169 : Builder.Extra Tryz.prog Tryz.lays169_ren := {
  sizeBuilder := by kernel_rfl
  liesBuilder := by kernel_rfl
  t5 := Tryz.underlying5
  a5 := Tryz.isAgg5
  z5 := Tryz.sizeOf5
  v5 := Tryz.zeroValue5
  infoByte := by kernel_rfl
  cellsByte := by kernel_rfl
  sizeByte := by kernel_rfl
  neB5 := by decide }
def Tryz.lays160_ren : Go.Shelf.Ren := ⟨fun | 160 => 197 | 232 => 253 | 231 => 252 | 227 => 254 | 234 => 256 | 233 => 255 | 236 => 258 | 235 => 257 | 228 => 310 | 271 => 313 | 151 => 312 | 197 => 311 | 120 => 352 | 152 => 248 | 260 => 351 | 137 => 302 | 119 => 303 | 224 => 304 | 225 => 305 | 217 => 345 | 266 => 373 | n => n, fun | 9 => 9 | 4 => 4 | 3 => 3 | 5 => 5 | 117 => 209 | 116 => 208 | 0 => 0 | 124 => 212 | 21 => 21 | 105 => 242 | 46 => 164 | 119 => 297 | 139 => 300 | 138 => 299 | n => n, fun | 3 => 7 | 4 => 8 | n => n⟩
theorem Tryz.lays160 : Go.Proofs.Lays.n160 Tryz.prog Tryz.lays160_ren := {
  mixed := by kernel_rfl
  f119 := Tryz.func303.trans (congrArg some (by kernel_rfl))
  f120 := Tryz.func352.trans (congrArg some (by kernel_rfl))
  f137 := Tryz.func302.trans (congrArg some (by kernel_rfl))
  f151 := Tryz.func312.trans (congrArg some (by kernel_rfl))
  f152 := Tryz.func248.trans (congrArg some (by kernel_rfl))
  f160 := Tryz.func197.trans (congrArg some (by kernel_rfl))
  f197 := Tryz.func311.trans (congrArg some (by kernel_rfl))
  f217 := Tryz.func345.trans (congrArg some (by kernel_rfl))
  f224 := Tryz.func304.trans (congrArg some (by kernel_rfl))
  f225 := Tryz.func305.trans (congrArg some (by kernel_rfl))
  f227 := Tryz.func254.trans (congrArg some (by kernel_rfl))
  f228 := Tryz.func310.trans (congrArg some (by kernel_rfl))
  f231 := Tryz.func252.trans (congrArg some (by kernel_rfl))
  f232 := Tryz.func253.trans (congrArg some (by kernel_rfl))
  f233 := Tryz.func255.trans (congrArg some (by kernel_rfl))
  f234 := Tryz.func256.trans (congrArg some (by kernel_rfl))
  f235 := Tryz.func257.trans (congrArg some (by kernel_rfl))
  f236 := Tryz.func258.trans (congrArg some (by kernel_rfl))
  f260 := Tryz.func351.trans (congrArg some (by kernel_rfl))
  f266 := Tryz.func373.trans (congrArg some (by kernel_rfl))
  f271 := Tryz.func313.trans (congrArg some (by kernel_rfl))
  t0 := Tryz.underlying0
  a0 := Tryz.isAgg0
  z0 := Tryz.sizeOf0
  v0 := Tryz.zeroValue0
  t3 := Tryz.underlying3
  a3 := Tryz.isAgg3
  z3 := Tryz.sizeOf3
  v3 := Tryz.zeroValue3
  t4 := Tryz.underlying4
  a4 := Tryz.isAgg4
  z4 := Tryz.sizeOf4
  v4 := Tryz.zeroValue4
  t5 := Tryz.underlying5
  a5 := Tryz.isAgg5
  z5 := Tryz.sizeOf5
  v5 := Tryz.zeroValue5
  t9 := Tryz.underlying9
  a9 := Tryz.isAgg9
  z9 := Tryz.sizeOf9
  v9 := Tryz.zeroValue9
  t21 := Tryz.underlying21
  a21 := Tryz.isAgg21
  z21 := Tryz.sizeOf21
  v21 := Tryz.zeroValue21
  t46 := Tryz.underlying164
  a46 := Tryz.isAgg164
  z46 := Tryz.sizeOf164
  v46 := Tryz.zeroValue164
  t105 := Tryz.underlying242
  a105 := Tryz.isAgg242
  z105 := Tryz.sizeOf242
  v105 := Tryz.zeroValue242
  t116 := Tryz.underlying208
  a116 := Tryz.isAgg208
  z116 := Tryz.sizeOf208
  t117 := Tryz.underlying209
  a117 := Tryz.isAgg209
  z117 := Tryz.sizeOf209
  v117 := Tryz.zeroValue209
  t119 := Tryz.underlying297
  a119 := Tryz.isAgg297
  z119 := Tryz.sizeOf297
  t124 := Tryz.underlying212
  a124 := Tryz.isAgg212
  z124 := Tryz.sizeOf212
  v124 := Tryz.zeroValue212
  t138 := Tryz.underlying299
  a138 := Tryz.isAgg299
  z138 := Tryz.sizeOf299
  v138 := Tryz.zeroValue299
  t139 := Tryz.underlying300
  a139 := Tryz.isAgg300
  z139 := Tryz.sizeOf300
  v139 := Tryz.zeroValue300
  g3 := by kernel_rfl
  g4 := by kernel_rfl }
def Tryz.lays103_ren : Go.Shelf.Ren := ⟨fun | 103 => 275 | 210 => 318 | 206 => 342 | n => n, fun | 9 => 9 | 4 => 4 | 24 => 222 | 3 => 3 | n => n, fun | n => n⟩
theorem Tryz.lays103 : Go.Proofs.Lays.n103 Tryz.prog Tryz.lays103_ren := {
  mixed := by kernel_rfl
  f103 := Tryz.func275.trans (congrArg some (by kernel_rfl))
  f206 := Tryz.func342.trans (congrArg some (by kernel_rfl))
  f210 := Tryz.func318.trans (congrArg some (by kernel_rfl))
  t3 := Tryz.underlying3
  a3 := Tryz.isAgg3
  z3 := Tryz.sizeOf3
  v3 := Tryz.zeroValue3
  t4 := Tryz.underlying4
  a4 := Tryz.isAgg4
  z4 := Tryz.sizeOf4
  v4 := Tryz.zeroValue4
  t9 := Tryz.underlying9
  a9 := Tryz.isAgg9
  z9 := Tryz.sizeOf9
  v9 := Tryz.zeroValue9
  t24 := Tryz.underlying222
  a24 := Tryz.isAgg222
  z24 := Tryz.sizeOf222
  v24 := Tryz.zeroValue222 }
open Go.RowKit in
/-- strings.CutPrefix: "CutPrefix returns s without the provided leading prefix string and reports whether it found the prefix. If s doesn't start with prefix, CutPrefix returns s, false. If prefix is the empty string, CutPrefix returns s, true.": IT RETURNS '(Lib.trimPrefix s p, Lib.hasPrefix s p)'; the world is as it was. (LAID: no walk: one application.) -/
theorem Tryz.strings_CutPrefix (s p : ByteArray) (w : World) :
    Calls Tryz.prog 275 #[.string s, .string p] w fun e w' => e = .returned (.tuple #[.string ⟨(Lib.trimPrefix s.data.toList p.data.toList).toArray⟩, .bool (Lib.hasPrefix s.data.toList p.data.toList)]) ∧ w' = w := Any.strings_CutPrefix Tryz.lays103 s p w
open Go.RowKit in
/-- (*strings.Builder).String: "String returns the accumulated string.": OF A BUILDER THAT HOLDS AT LEAST ONE BYTE. ✋ THE MODEL FREEZES THOSE BYTES IN THE BUFFER (unsafe.String): a later write INTO them ends the model's run without an answer; a later append BEHIND them goes on. The statement's order of evaluation is drawn: one draw. THE FORM '_k': OVER 'Lib.IsBuilderF' (a builder that 'String()' may have read), AND WITH THE FRAME THAT REACHES ABOVE THE BUILDER: 'Lib.OthersKept': every block that is not b and is no row of uint8's stands as it stood: the iterator of a range among them. (LAID: no walk: one application.) -/
theorem Tryz.Builder_String_k (B b : Nat) (l : List UInt8) (w : World) (h : Lib.IsBuilderF 203 5 B b (Lib.byteCells l) w) (h0 : l ≠ []) :
    Calls Tryz.prog 251 #[.pointer (some ⟨b, 0, none⟩)] w fun e w' => e = .returned (.string ⟨l.toArray⟩) ∧ (Lib.IsBuilderF 203 5 B b (Lib.byteCells l) w' ∧ Below B w w' ∧ Lib.OthersKept 5 (some b) w w') := Any.Builder_String_k Tryz.lays169 Tryz.Builder_Extra_169 B b l w h h0
def Tryz.lays172_ren : Go.Shelf.Ren := ⟨fun | 172 => 234 | 244 => 295 | 245 => 296 | 247 => 335 | 279 => 336 | 280 => 337 | 281 => 338 | 282 => 339 | 287 => 368 | 316 => 369 | 171 => 140 | 205 => 370 | 321 => 383 | 322 => 384 | 243 => 215 | 246 => 282 | 283 => 329 | 284 => 330 | 285 => 331 | 286 => 332 | 129 => 363 | 317 => 362 | 318 => 364 | 319 => 365 | 320 => 366 | 337 => 381 | 338 => 382 | n => n, fun | 9 => 9 | 3 => 3 | 75 => 190 | 76 => 191 | 4 => 4 | 5 => 5 | 167 => 262 | 37 => 125 | 0 => 0 | 85 => 263 | 2 => 2 | 168 => 265 | 53 => 232 | 175 => 286 | 46 => 164 | 210 => 289 | 127 => 241 | 145 => 306 | 143 => 304 | 21 => 21 | 171 => 254 | 173 => 257 | 212 => 282 | 51 => 182 | 20 => 20 | 213 => 283 | 232 => 314 | 233 => 315 | 80 => 86 | n => n, fun | 15 => 4 | 16 => 5 | 17 => 3 | 18 => 9 | 19 => 10 | n => n⟩
theorem Tryz.lays172 : Go.Proofs.Lays.n172 Tryz.prog Tryz.lays172_ren := {
  mixed := by kernel_rfl
  f129 := Tryz.func363.trans (congrArg some (by kernel_rfl))
  f171 := Tryz.func140.trans (congrArg some (by kernel_rfl))
  f172 := Tryz.func234.trans (congrArg some (by kernel_rfl))
  f205 := Tryz.func370.trans (congrArg some (by kernel_rfl))
  f243 := Tryz.func215.trans (congrArg some (by kernel_rfl))
  f244 := Tryz.func295.trans (congrArg some (by kernel_rfl))
  f245 := Tryz.func296.trans (congrArg some (by kernel_rfl))
  f246 := Tryz.func282.trans (congrArg some (by kernel_rfl))
  f247 := Tryz.func335.trans (congrArg some (by kernel_rfl))
  f279 := Tryz.func336.trans (congrArg some (by kernel_rfl))
  f280 := Tryz.func337.trans (congrArg some (by kernel_rfl))
  f281 := Tryz.func338.trans (congrArg some (by kernel_rfl))
  f282 := Tryz.func339.trans (congrArg some (by kernel_rfl))
  f283 := Tryz.func329.trans (congrArg some (by kernel_rfl))
  f284 := Tryz.func330.trans (congrArg some (by kernel_rfl))
  f285 := Tryz.func331.trans (congrArg some (by kernel_rfl))
  f286 := Tryz.func332.trans (congrArg some (by kernel_rfl))
  f287 := Tryz.func368.trans (congrArg some (by kernel_rfl))
  f316 := Tryz.func369.trans (congrArg some (by kernel_rfl))
  f317 := Tryz.func362.trans (congrArg some (by kernel_rfl))
  f318 := Tryz.func364.trans (congrArg some (by kernel_rfl))
  f319 := Tryz.func365.trans (congrArg some (by kernel_rfl))
  f320 := Tryz.func366.trans (congrArg some (by kernel_rfl))
  f321 := Tryz.func383.trans (congrArg some (by kernel_rfl))
  f322 := Tryz.func384.trans (congrArg some (by kernel_rfl))
  f337 := Tryz.func381.trans (congrArg some (by kernel_rfl))
  f338 := Tryz.func382.trans (congrArg some (by kernel_rfl))
  t0 := Tryz.underlying0
  a0 := Tryz.isAgg0
  z0 := Tryz.sizeOf0
  v0 := Tryz.zeroValue0
  t2 := Tryz.underlying2
  a2 := Tryz.isAgg2
  z2 := Tryz.sizeOf2
  v2 := Tryz.zeroValue2
  t3 := Tryz.underlying3
  a3 := Tryz.isAgg3
  z3 := Tryz.sizeOf3
  v3 := Tryz.zeroValue3
  t4 := Tryz.underlying4
  a4 := Tryz.isAgg4
  z4 := Tryz.sizeOf4
  v4 := Tryz.zeroValue4
  t5 := Tryz.underlying5
  a5 := Tryz.isAgg5
  z5 := Tryz.sizeOf5
  v5 := Tryz.zeroValue5
  t9 := Tryz.underlying9
  a9 := Tryz.isAgg9
  z9 := Tryz.sizeOf9
  v9 := Tryz.zeroValue9
  t20 := Tryz.underlying20
  a20 := Tryz.isAgg20
  z20 := Tryz.sizeOf20
  v20 := Tryz.zeroValue20
  t21 := Tryz.underlying21
  a21 := Tryz.isAgg21
  z21 := Tryz.sizeOf21
  v21 := Tryz.zeroValue21
  t37 := Tryz.underlying125
  a37 := Tryz.isAgg125
  z37 := Tryz.sizeOf125
  v37 := Tryz.zeroValue125
  t46 := Tryz.underlying164
  a46 := Tryz.isAgg164
  z46 := Tryz.sizeOf164
  v46 := Tryz.zeroValue164
  t51 := Tryz.underlying182
  a51 := Tryz.isAgg182
  z51 := Tryz.sizeOf182
  v51 := Tryz.zeroValue182
  t53 := Tryz.underlying232
  a53 := Tryz.isAgg232
  z53 := Tryz.sizeOf232
  v53 := Tryz.zeroValue232
  t75 := Tryz.underlying190
  a75 := Tryz.isAgg190
  z75 := Tryz.sizeOf190
  v75 := Tryz.zeroValue190
  t76 := Tryz.underlying191
  a76 := Tryz.isAgg191
  z76 := Tryz.sizeOf191
  v76 := Tryz.zeroValue191
  t85 := Tryz.underlying263
  a85 := Tryz.isAgg263
  z85 := Tryz.sizeOf263
  v85 := Tryz.zeroValue263
  t127 := Tryz.underlying241
  a127 := Tryz.isAgg241
  z127 := Tryz.sizeOf241
  v127 := Tryz.zeroValue241
  t143 := Tryz.underlying304
  a143 := Tryz.isAgg304
  z143 := Tryz.sizeOf304
  v143 := Tryz.zeroValue304
  t145 := Tryz.underlying306
  a145 := Tryz.isAgg306
  z145 := Tryz.sizeOf306
  v145 := Tryz.zeroValue306
  t167 := Tryz.underlying262
  a167 := Tryz.isAgg262
  z167 := Tryz.sizeOf262
  v167 := Tryz.zeroValue262
  t168 := Tryz.underlying265
  a168 := Tryz.isAgg265
  z168 := Tryz.sizeOf265
  v168 := Tryz.zeroValue265
  t171 := Tryz.underlying254
  a171 := Tryz.isAgg254
  z171 := Tryz.sizeOf254
  v171 := Tryz.zeroValue254
  t173 := Tryz.underlying257
  a173 := Tryz.isAgg257
  z173 := Tryz.sizeOf257
  v173 := Tryz.zeroValue257
  t175 := Tryz.underlying286
  a175 := Tryz.isAgg286
  z175 := Tryz.sizeOf286
  v175 := Tryz.zeroValue286
  t210 := Tryz.underlying289
  a210 := Tryz.isAgg289
  z210 := Tryz.sizeOf289
  v210 := Tryz.zeroValue289
  t212 := Tryz.underlying282
  a212 := Tryz.isAgg282
  z212 := Tryz.sizeOf282
  v212 := Tryz.zeroValue282
  t213 := Tryz.underlying283
  a213 := Tryz.isAgg283
  z213 := Tryz.sizeOf283
  t232 := Tryz.underlying314
  a232 := Tryz.isAgg314
  z232 := Tryz.sizeOf314
  v232 := Tryz.zeroValue314
  t233 := Tryz.underlying315
  a233 := Tryz.isAgg315
  z233 := Tryz.sizeOf315
  v233 := Tryz.zeroValue315
  g15 := by kernel_rfl
  g16 := by kernel_rfl
  g17 := by kernel_rfl
  g18 := by kernel_rfl
  g19 := by kernel_rfl }
open Go.RowKit in
/-- strconv.Atoi: "Atoi is equivalent to ParseInt(s, 10, 0), converted to type int.": AT A DECIMAL NUMERAL OF AT MOST 18 BYTES: its value, and a nil error. The world behind the call: the one new row that the library's '[]byte(s)' lays. (LAID: no walk: one application.) -/
theorem Tryz.strconv_Atoi (s : ByteArray) (n : Int) (hl : s.size ≤ 18) (h : Lib.atoi s.data.toList = some n) (w : World) :
    Calls Tryz.prog 234 #[.string s] w fun e w' => e = .returned (.tuple #[.int .i64 n, .nilIface]) ∧ ∃ t, w' = Lib.bytesWorld w 5 t := Any.strconv_Atoi Tryz.lays172 s n hl h w
def Tryz.laysM171_ren : Go.Shelf.Ren := ⟨fun | 171 => 140 | 243 => 215 | 246 => 282 | 283 => 329 | 284 => 330 | 285 => 331 | 286 => 332 | 129 => 363 | 317 => 362 | 318 => 364 | 319 => 365 | 320 => 366 | 337 => 381 | 338 => 382 | n => n, fun | 3 => 3 | 9 => 9 | 2 => 2 | 4 => 4 | 171 => 254 | 0 => 0 | 53 => 232 | 37 => 125 | 5 => 5 | 173 => 257 | 212 => 282 | 51 => 182 | 20 => 20 | 213 => 283 | 46 => 164 | 232 => 314 | 233 => 315 | n => n, fun | 17 => 3 | 18 => 9 | 19 => 10 | n => n⟩
theorem Tryz.laysM171 : Go.Proofs.LaysM.n171 Tryz.prog Tryz.laysM171_ren := {
  mixed := by kernel_rfl
  f129 := Tryz.func363.trans (congrArg some (by kernel_rfl))
  f171 := Tryz.func140.trans (congrArg some (by kernel_rfl))
  f243 := Tryz.func215.trans (congrArg some (by kernel_rfl))
  f246 := Tryz.func282.trans (congrArg some (by kernel_rfl))
  f283 := Tryz.func329.trans (congrArg some (by kernel_rfl))
  f284 := Tryz.func330.trans (congrArg some (by kernel_rfl))
  f285 := Tryz.func331.trans (congrArg some (by kernel_rfl))
  f286 := Tryz.func332.trans (congrArg some (by kernel_rfl))
  f317 := Tryz.func362.trans (congrArg some (by kernel_rfl))
  f318 := Tryz.func364.trans (congrArg some (by kernel_rfl))
  f319 := Tryz.func365.trans (congrArg some (by kernel_rfl))
  f320 := Tryz.func366.trans (congrArg some (by kernel_rfl))
  f337 := Tryz.func381.trans (congrArg some (by kernel_rfl))
  f338 := Tryz.func382.trans (congrArg some (by kernel_rfl))
  t0 := Tryz.underlying0
  a0 := Tryz.isAgg0
  z0 := Tryz.sizeOf0
  v0 := Tryz.zeroValue0
  t2 := Tryz.underlying2
  a2 := Tryz.isAgg2
  z2 := Tryz.sizeOf2
  v2 := Tryz.zeroValue2
  t3 := Tryz.underlying3
  a3 := Tryz.isAgg3
  z3 := Tryz.sizeOf3
  v3 := Tryz.zeroValue3
  t4 := Tryz.underlying4
  a4 := Tryz.isAgg4
  z4 := Tryz.sizeOf4
  v4 := Tryz.zeroValue4
  t5 := Tryz.underlying5
  a5 := Tryz.isAgg5
  z5 := Tryz.sizeOf5
  v5 := Tryz.zeroValue5
  t9 := Tryz.underlying9
  a9 := Tryz.isAgg9
  z9 := Tryz.sizeOf9
  v9 := Tryz.zeroValue9
  t20 := Tryz.underlying20
  a20 := Tryz.isAgg20
  z20 := Tryz.sizeOf20
  v20 := Tryz.zeroValue20
  t37 := Tryz.underlying125
  a37 := Tryz.isAgg125
  z37 := Tryz.sizeOf125
  v37 := Tryz.zeroValue125
  t46 := Tryz.underlying164
  a46 := Tryz.isAgg164
  z46 := Tryz.sizeOf164
  v46 := Tryz.zeroValue164
  t51 := Tryz.underlying182
  a51 := Tryz.isAgg182
  z51 := Tryz.sizeOf182
  v51 := Tryz.zeroValue182
  t53 := Tryz.underlying232
  a53 := Tryz.isAgg232
  z53 := Tryz.sizeOf232
  v53 := Tryz.zeroValue232
  t171 := Tryz.underlying254
  a171 := Tryz.isAgg254
  z171 := Tryz.sizeOf254
  v171 := Tryz.zeroValue254
  t173 := Tryz.underlying257
  a173 := Tryz.isAgg257
  z173 := Tryz.sizeOf257
  v173 := Tryz.zeroValue257
  t212 := Tryz.underlying282
  a212 := Tryz.isAgg282
  z212 := Tryz.sizeOf282
  v212 := Tryz.zeroValue282
  t213 := Tryz.underlying283
  a213 := Tryz.isAgg283
  z213 := Tryz.sizeOf283
  t232 := Tryz.underlying314
  a232 := Tryz.isAgg314
  z232 := Tryz.sizeOf314
  v232 := Tryz.zeroValue314
  t233 := Tryz.underlying315
  a233 := Tryz.isAgg315
  z233 := Tryz.sizeOf315
  v233 := Tryz.zeroValue315
  g17 := by kernel_rfl
  g18 := by kernel_rfl
  g19 := by kernel_rfl
  i0 := by kernel_rfl
  i2 := by kernel_rfl
  i3 := by kernel_rfl
  i4 := by kernel_rfl
  i5 := by kernel_rfl
  i9 := by kernel_rfl
  i20 := by kernel_rfl
  i37 := by kernel_rfl
  i46 := by kernel_rfl
  i51 := by kernel_rfl
  i53 := by kernel_rfl
  i171 := by kernel_rfl
  i173 := by kernel_rfl
  i212 := by kernel_rfl
  i232 := by kernel_rfl
  i233 := by kernel_rfl
  m17 := by kernel_rfl
  m18 := by kernel_rfl
  m19 := by kernel_rfl }
open Go.RowKit Go.Sort Go.Lib in
/-- strconv.Itoa: "Itoa is equivalent to FormatInt(int64(i), 10).": i's DECIMAL NUMERAL ('Lib.itoa': a '-' where i is negative, then the digits), FOR EVERY int. The world behind the call: the world before it, new blocks behind the heap (the library's 'var a [24]byte'), draws. (LAID: no walk: one application.) -/
theorem Tryz.strconv_Itoa (n : Int) (h0 : -9223372036854775808 ≤ n) (h1 : n ≤ 9223372036854775807) (w : World) (htab : Lib.TabIs Tryz.prog w "internal/strconv.uint64pow10" .u64 Lib.pow10Tab) :
    Calls Tryz.prog 140 #[.int .i64 n] w fun e w' => e = .returned (.string ⟨(Lib.itoa n).toArray⟩) ∧ ∃ k os, w' = grow (w.drewN k) os := Any.strconv_Itoa Tryz.laysM171 n h0 h1 w htab
def Tryz.lays197_ren : Go.Shelf.Ren := ⟨fun | 197 => 311 | 260 => 351 | n => n, fun | 9 => 9 | 21 => 21 | 3 => 3 | 4 => 4 | 5 => 5 | 105 => 242 | 119 => 297 | 0 => 0 | 46 => 164 | 139 => 300 | 138 => 299 | n => n, fun | 3 => 7 | 4 => 8 | n => n⟩
theorem Tryz.lays197 : Go.Proofs.Lays.n197 Tryz.prog Tryz.lays197_ren := {
  mixed := by kernel_rfl
  f197 := Tryz.func311.trans (congrArg some (by kernel_rfl))
  f260 := Tryz.func351.trans (congrArg some (by kernel_rfl))
  t0 := Tryz.underlying0
  a0 := Tryz.isAgg0
  z0 := Tryz.sizeOf0
  v0 := Tryz.zeroValue0
  t3 := Tryz.underlying3
  a3 := Tryz.isAgg3
  z3 := Tryz.sizeOf3
  v3 := Tryz.zeroValue3
  t4 := Tryz.underlying4
  a4 := Tryz.isAgg4
  z4 := Tryz.sizeOf4
  v4 := Tryz.zeroValue4
  t5 := Tryz.underlying5
  a5 := Tryz.isAgg5
  z5 := Tryz.sizeOf5
  v5 := Tryz.zeroValue5
  t9 := Tryz.underlying9
  a9 := Tryz.isAgg9
  z9 := Tryz.sizeOf9
  v9 := Tryz.zeroValue9
  t21 := Tryz.underlying21
  a21 := Tryz.isAgg21
  z21 := Tryz.sizeOf21
  v21 := Tryz.zeroValue21
  t46 := Tryz.underlying164
  a46 := Tryz.isAgg164
  z46 := Tryz.sizeOf164
  v46 := Tryz.zeroValue164
  t105 := Tryz.underlying242
  a105 := Tryz.isAgg242
  z105 := Tryz.sizeOf242
  v105 := Tryz.zeroValue242
  t119 := Tryz.underlying297
  a119 := Tryz.isAgg297
  z119 := Tryz.sizeOf297
  t138 := Tryz.underlying299
  a138 := Tryz.isAgg299
  z138 := Tryz.sizeOf299
  v138 := Tryz.zeroValue299
  t139 := Tryz.underlying300
  a139 := Tryz.isAgg300
  z139 := Tryz.sizeOf300
  v139 := Tryz.zeroValue300
  g3 := by kernel_rfl
  g4 := by kernel_rfl }
def Tryz.lays105_ren : Go.Shelf.Ren := ⟨fun | 105 => 245 | 212 => 297 | 99 => 298 | 165 => 299 | 166 => 250 | 170 => 300 | 169 => 251 | 263 => 340 | 264 => 341 | 206 => 342 | 240 => 309 | 241 => 343 | 276 => 350 | 277 => 371 | n => n, fun | 9 => 9 | 3 => 3 | 4 => 4 | 20 => 20 | 0 => 0 | 46 => 164 | 109 => 234 | 5 => 5 | 72 => 203 | 76 => 191 | 51 => 182 | 146 => 268 | 53 => 232 | 148 => 270 | 70 => 201 | 37 => 125 | 75 => 190 | 127 => 241 | 164 => 275 | 80 => 86 | n => n, fun | n => n⟩
theorem Tryz.lays105 : Go.Proofs.Lays.n105 Tryz.prog Tryz.lays105_ren := {
  mixed := by kernel_rfl
  f99 := Tryz.func298.trans (congrArg some (by kernel_rfl))
  f105 := Tryz.func245.trans (congrArg some (by kernel_rfl))
  f165 := Tryz.func299.trans (congrArg some (by kernel_rfl))
  f166 := Tryz.func250.trans (congrArg some (by kernel_rfl))
  f169 := Tryz.func251.trans (congrArg some (by kernel_rfl))
  f170 := Tryz.func300.trans (congrArg some (by kernel_rfl))
  f206 := Tryz.func342.trans (congrArg some (by kernel_rfl))
  f212 := Tryz.func297.trans (congrArg some (by kernel_rfl))
  f240 := Tryz.func309.trans (congrArg some (by kernel_rfl))
  f241 := Tryz.func343.trans (congrArg some (by kernel_rfl))
  f263 := Tryz.func340.trans (congrArg some (by kernel_rfl))
  f264 := Tryz.func341.trans (congrArg some (by kernel_rfl))
  f276 := Tryz.func350.trans (congrArg some (by kernel_rfl))
  f277 := Tryz.func371.trans (congrArg some (by kernel_rfl))
  t0 := Tryz.underlying0
  a0 := Tryz.isAgg0
  z0 := Tryz.sizeOf0
  v0 := Tryz.zeroValue0
  t3 := Tryz.underlying3
  a3 := Tryz.isAgg3
  z3 := Tryz.sizeOf3
  v3 := Tryz.zeroValue3
  t4 := Tryz.underlying4
  a4 := Tryz.isAgg4
  z4 := Tryz.sizeOf4
  v4 := Tryz.zeroValue4
  t5 := Tryz.underlying5
  a5 := Tryz.isAgg5
  z5 := Tryz.sizeOf5
  v5 := Tryz.zeroValue5
  t9 := Tryz.underlying9
  a9 := Tryz.isAgg9
  z9 := Tryz.sizeOf9
  v9 := Tryz.zeroValue9
  t20 := Tryz.underlying20
  a20 := Tryz.isAgg20
  z20 := Tryz.sizeOf20
  v20 := Tryz.zeroValue20
  t37 := Tryz.underlying125
  a37 := Tryz.isAgg125
  z37 := Tryz.sizeOf125
  v37 := Tryz.zeroValue125
  t46 := Tryz.underlying164
  a46 := Tryz.isAgg164
  z46 := Tryz.sizeOf164
  v46 := Tryz.zeroValue164
  t51 := Tryz.underlying182
  a51 := Tryz.isAgg182
  z51 := Tryz.sizeOf182
  v51 := Tryz.zeroValue182
  t53 := Tryz.underlying232
  a53 := Tryz.isAgg232
  z53 := Tryz.sizeOf232
  v53 := Tryz.zeroValue232
  t70 := Tryz.underlying201
  a70 := Tryz.isAgg201
  z70 := Tryz.sizeOf201
  v70 := Tryz.zeroValue201
  t72 := Tryz.underlying203
  a72 := Tryz.isAgg203
  z72 := Tryz.sizeOf203
  v72 := Tryz.zeroValue203
  t75 := Tryz.underlying190
  a75 := Tryz.isAgg190
  z75 := Tryz.sizeOf190
  v75 := Tryz.zeroValue190
  t76 := Tryz.underlying191
  a76 := Tryz.isAgg191
  z76 := Tryz.sizeOf191
  v76 := Tryz.zeroValue191
  t109 := Tryz.underlying234
  a109 := Tryz.isAgg234
  z109 := Tryz.sizeOf234
  v109 := Tryz.zeroValue234
  t127 := Tryz.underlying241
  a127 := Tryz.isAgg241
  z127 := Tryz.sizeOf241
  v127 := Tryz.zeroValue241
  t146 := Tryz.underlying268
  a146 := Tryz.isAgg268
  z146 := Tryz.sizeOf268
  v146 := Tryz.zeroValue268
  t148 := Tryz.underlying270
  a148 := Tryz.isAgg270
  z148 := Tryz.sizeOf270
  v148 := Tryz.zeroValue270
  t164 := Tryz.underlying275
  a164 := Tryz.isAgg275
  z164 := Tryz.sizeOf275
  v164 := Tryz.zeroValue275 }
theorem Tryz.Builder_Extra_105 : Builder.Extra Tryz.prog Tryz.lays105_ren := {
  sizeBuilder := by kernel_rfl
  liesBuilder := by kernel_rfl
  t5 := Tryz.underlying5
  a5 := Tryz.isAgg5
  z5 := Tryz.sizeOf5
  v5 := Tryz.zeroValue5
  infoByte := by kernel_rfl
  cellsByte := by kernel_rfl
  sizeByte := by kernel_rfl
  neB5 := by decide }
open Go.RowKit Go.Lib in
/-- **strings.Repeat: count ≥ 0, the result within one allocation: count copies of s.** (LAID: no walk: one application.) -/
theorem Tryz.strings_Repeat (s : ByteArray) (c : Nat) (w : World) (hc : c ≤ 9223372036854775807) (hlen : s.size * c ≤ 140737488355328) :
    Calls Tryz.prog 245 #[.string s, .int .i64 c] w fun e w' => e = .returned (.string ⟨(Lib.repeatL s.data.toList c).toArray⟩) ∧ Below w.heap.size w w' := Any.strings_Repeat Tryz.lays105 Tryz.Builder_Extra_105 s c w hc hlen
open Go.RowKit Go.Lib in
/-- **unicode/utf8.DecodeRuneInString AT EVERY STRING.** (LAID: no walk: one application.) -/
theorem Tryz.utf8_DecodeRuneInString (s : ByteArray) (w : World) (hT : Lib.Utf8Tabs 7 8 w) :
    Calls Tryz.prog 311 #[.string s] w fun e w' => e = .returned (.tuple #[.int .i32 (Lib.decodeGo s).1, .int .i64 (Lib.decodeGo s).2]) ∧ Below w.heap.size w w' := Any.utf8_DecodeRuneInString Tryz.lays197 s w hT
end Go.Proofs
