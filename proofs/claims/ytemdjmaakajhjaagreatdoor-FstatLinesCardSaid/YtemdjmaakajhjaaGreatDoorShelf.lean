/-
  DERIVED: THE SHELF's CONTRACTS AT THIS DUMP, IN PLAIN WORDS (tools/lay-plain.mjs out of 'TryzShelf.lean', which tools/lay-shelf.mjs wrote): THE SAME DECLARATIONS UNDER THE SAME NAMES: 'import', 'namespace', 'open', 'def', 'theorem' AND NOTHING ELSE: no command of the shelf's: FOR A HAND-IN. Each laying: the table of numbers ('.._ren') and one theorem, a field a fact of the dump's own or the kernel's comparison; each contract: ONE APPLICATION.
-/
import Derived.Shelf.Strings.Builder1
import Derived.Shelf.Strings.Builder2
import Derived.Shelf.Strings.OnBuilder
import Derived.Shelf.Strings.Trim
import Derived.Shelf.Small.Utf8
import Derived.Shelf.Small.Bits
import Derived.Shelf.Small.Strs
import Derived.Shelf.Small.Wraps
import Derived.Shelf.Strings.BuilderF
import Derived.Shelf.Strings.BuilderK
import Derived.Shelf.Strings.BuilderRune
import Derived.Shelf.Utf8.AppendRune
import Derived.Shelf.Utf8.AppendRunePlain
import Derived.Shelf.Utf8.RuneCount
import Derived.Shelf.Strings.Builder2Cap
import Derived.Shelf.Strconv.Atoi
import Derived.Shelf.Strconv.Itoa0
import Derived.Shelf.Strconv.Itoa1
import Derived.Shelf.LaysM
import Derived.Shelf.Strconv.Itoa2
import Derived.Shelf.Strconv.Itoa3
import Derived.Shelf.Strconv.AtoiErrFast
import Derived.Shelf.Strconv.ParseIntEmpty
import Derived.Shelf.Strconv.AtoiFail
import Derived.Shelf.Strconv.Clone
import Derived.Shelf.Strconv.SyntaxError
import Derived.Shelf.LaysC
import Derived.Shelf.Strconv.ToError
import Derived.Shelf.Strconv.AtoiErr
import Derived.Shelf.Strconv.ErrVar
import Derived.Shelf.Strconv.Lower
import Derived.Shelf.Strconv.ParseUint10
import Derived.Shelf.Strconv.ParseUint10Empty
import Derived.Shelf.Strconv.ParseUint10Any
import Derived.Shelf.Strconv.ParseInt10
import Derived.Shelf.Strconv.AtoiLong
import Derived.Shelf.Strconv.AtoiInnerAll
import Derived.Shelf.Strconv.RangeError
import Derived.Shelf.Strconv.ToErrorRange
import Derived.Shelf.Strconv.AtoiAll
import Derived.Shelf.Strconv.ErrVarAll
import Derived.Shelf.Strconv.ParseUintEmpty
import Derived.Shelf.Strconv.ParseUint10b64
import Derived.Shelf.Strconv.ParseUint10b32
import Derived.Shelf.Strconv.ParseUint10b16
import Derived.Shelf.Strconv.ParseUint10b8
import Derived.Shelf.Strconv.ParseUint10At
import Derived.Shelf.Strconv.ParseInt10At64
import Derived.Shelf.Strconv.ParseInt10At32
import Derived.Shelf.Strconv.ParseInt10At16
import Derived.Shelf.Strconv.ParseInt10At8
import Derived.Shelf.Strconv.ParseInt10All
import Derived.Shelf.Strings.Search1
import Derived.Shelf.Strings.Search2
import Derived.Shelf.Strings.Search3
import Derived.Shelf.Strings.Cut
import Derived.Shelf.Strings.Count
import Derived.Shelf.Strings.Shaped
import Derived.Shelf.Strings.Prefix
import Derived.Shelf.Strings.Split
import Derived.Shelf.Strings.SplitShaped
import Derived.Shelf.Unicode.Latin
import Derived.Shelf.Unicode.Decode
import Derived.Shelf.Strings.Runes
import Derived.Shelf.Strings.RuneCount
import Derived.Shelf.Strings.AsciiSet
import Derived.Shelf.Strings.Explode
import Derived.Shelf.Bits.Mul64
import Derived.Shelf.Strings.Repeat
import Derived.Shelf.Unicode.DecodeSlow
import Derived.Shelf.Unicode.DecodeAny
import Derived.Shelf.Unicode.DecodeLast
import Derived.Shelf.Unicode.CaseLookup
import Derived.Shelf.Unicode.CaseConvert
import Derived.Shelf.Unicode.CaseTo
import Derived.Shelf.Unicode.CaseLaid
import Derived.Shelf.Strings.MapAny
import Derived.Shelf.Strings.CaseAny
import Derived.Shelf.Strings.BuilderCap
import Derived.Test.YtemdjmaakajhjaaGreatDoorProg
namespace Go.Proofs
open Go.Shelf
def Tryz.lays169_ren : Go.Shelf.Ren := ⟨fun | 169 => 124 | n => n, fun | 70 => 111 | 9 => 9 | 0 => 0 | 72 => 114 | 37 => 112 | 127 => 182 | 3 => 3 | 5 => 5 | n => n, fun | n => n⟩
theorem Tryz.lays169 : Go.Proofs.Lays.n169 Tryz.prog Tryz.lays169_ren := {
  mixed := by kernel_rfl
  f169 := Tryz.func124.trans (congrArg some (by kernel_rfl))
  t0 := Tryz.underlying0
  a0 := Tryz.isAgg0
  z0 := Tryz.sizeOf0
  v0 := Tryz.zeroValue0
  t3 := Tryz.underlying3
  a3 := Tryz.isAgg3
  z3 := Tryz.sizeOf3
  v3 := Tryz.zeroValue3
  t9 := Tryz.underlying9
  a9 := Tryz.isAgg9
  z9 := Tryz.sizeOf9
  v9 := Tryz.zeroValue9
  t37 := Tryz.underlying112
  a37 := Tryz.isAgg112
  z37 := Tryz.sizeOf112
  v37 := Tryz.zeroValue112
  t70 := Tryz.underlying111
  a70 := Tryz.isAgg111
  z70 := Tryz.sizeOf111
  v70 := Tryz.zeroValue111
  t72 := Tryz.underlying114
  a72 := Tryz.isAgg114
  z72 := Tryz.sizeOf114
  v72 := Tryz.zeroValue114
  t127 := Tryz.underlying182
  a127 := Tryz.isAgg182
  z127 := Tryz.sizeOf182
  v127 := Tryz.zeroValue182 }
theorem Tryz.Builder_Extra_169 : Builder.Extra Tryz.prog Tryz.lays169_ren := {
  sizeBuilder := by kernel_rfl
  liesBuilder := by kernel_rfl
  t5 := Tryz.underlying5
  a5 := Tryz.isAgg5
  z5 := Tryz.sizeOf5
  v5 := Tryz.zeroValue5
  infoByte := by kernel_rfl
  cellsByte := by kernel_rfl
  sizeByte := by kernel_rfl
  neB5 := by decide }
def Tryz.lays160_ren : Go.Shelf.Ren := ⟨fun | 160 => 130 | 232 => 254 | 231 => 253 | 227 => 255 | 234 => 257 | 233 => 256 | 236 => 259 | 235 => 258 | 228 => 304 | 271 => 306 | 151 => 305 | 197 => 251 | 120 => 340 | 152 => 290 | 260 => 303 | 137 => 329 | 119 => 330 | 224 => 331 | 225 => 332 | 217 => 360 | 266 => 377 | n => n, fun | 9 => 9 | 4 => 4 | 3 => 3 | 5 => 5 | 117 => 192 | 116 => 191 | 0 => 0 | 124 => 195 | 21 => 21 | 105 => 185 | 46 => 200 | 119 => 258 | 139 => 261 | 138 => 260 | n => n, fun | 3 => 5 | 4 => 6 | n => n⟩
theorem Tryz.lays160 : Go.Proofs.Lays.n160 Tryz.prog Tryz.lays160_ren := {
  mixed := by kernel_rfl
  f119 := Tryz.func330.trans (congrArg some (by kernel_rfl))
  f120 := Tryz.func340.trans (congrArg some (by kernel_rfl))
  f137 := Tryz.func329.trans (congrArg some (by kernel_rfl))
  f151 := Tryz.func305.trans (congrArg some (by kernel_rfl))
  f152 := Tryz.func290.trans (congrArg some (by kernel_rfl))
  f160 := Tryz.func130.trans (congrArg some (by kernel_rfl))
  f197 := Tryz.func251.trans (congrArg some (by kernel_rfl))
  f217 := Tryz.func360.trans (congrArg some (by kernel_rfl))
  f224 := Tryz.func331.trans (congrArg some (by kernel_rfl))
  f225 := Tryz.func332.trans (congrArg some (by kernel_rfl))
  f227 := Tryz.func255.trans (congrArg some (by kernel_rfl))
  f228 := Tryz.func304.trans (congrArg some (by kernel_rfl))
  f231 := Tryz.func253.trans (congrArg some (by kernel_rfl))
  f232 := Tryz.func254.trans (congrArg some (by kernel_rfl))
  f233 := Tryz.func256.trans (congrArg some (by kernel_rfl))
  f234 := Tryz.func257.trans (congrArg some (by kernel_rfl))
  f235 := Tryz.func258.trans (congrArg some (by kernel_rfl))
  f236 := Tryz.func259.trans (congrArg some (by kernel_rfl))
  f260 := Tryz.func303.trans (congrArg some (by kernel_rfl))
  f266 := Tryz.func377.trans (congrArg some (by kernel_rfl))
  f271 := Tryz.func306.trans (congrArg some (by kernel_rfl))
  t0 := Tryz.underlying0
  a0 := Tryz.isAgg0
  z0 := Tryz.sizeOf0
  v0 := Tryz.zeroValue0
  t3 := Tryz.underlying3
  a3 := Tryz.isAgg3
  z3 := Tryz.sizeOf3
  v3 := Tryz.zeroValue3
  t4 := Tryz.underlying4
  a4 := Tryz.isAgg4
  z4 := Tryz.sizeOf4
  v4 := Tryz.zeroValue4
  t5 := Tryz.underlying5
  a5 := Tryz.isAgg5
  z5 := Tryz.sizeOf5
  v5 := Tryz.zeroValue5
  t9 := Tryz.underlying9
  a9 := Tryz.isAgg9
  z9 := Tryz.sizeOf9
  v9 := Tryz.zeroValue9
  t21 := Tryz.underlying21
  a21 := Tryz.isAgg21
  z21 := Tryz.sizeOf21
  v21 := Tryz.zeroValue21
  t46 := Tryz.underlying200
  a46 := Tryz.isAgg200
  z46 := Tryz.sizeOf200
  v46 := Tryz.zeroValue200
  t105 := Tryz.underlying185
  a105 := Tryz.isAgg185
  z105 := Tryz.sizeOf185
  v105 := Tryz.zeroValue185
  t116 := Tryz.underlying191
  a116 := Tryz.isAgg191
  z116 := Tryz.sizeOf191
  t117 := Tryz.underlying192
  a117 := Tryz.isAgg192
  z117 := Tryz.sizeOf192
  v117 := Tryz.zeroValue192
  t119 := Tryz.underlying258
  a119 := Tryz.isAgg258
  z119 := Tryz.sizeOf258
  t124 := Tryz.underlying195
  a124 := Tryz.isAgg195
  z124 := Tryz.sizeOf195
  v124 := Tryz.zeroValue195
  t138 := Tryz.underlying260
  a138 := Tryz.isAgg260
  z138 := Tryz.sizeOf260
  v138 := Tryz.zeroValue260
  t139 := Tryz.underlying261
  a139 := Tryz.isAgg261
  z139 := Tryz.sizeOf261
  v139 := Tryz.zeroValue261
  g3 := by kernel_rfl
  g4 := by kernel_rfl }
def Tryz.lays103_ren : Go.Shelf.Ren := ⟨fun | 103 => 22 | 210 => 31 | 206 => 115 | n => n, fun | 9 => 9 | 4 => 4 | 24 => 46 | 3 => 3 | n => n, fun | n => n⟩
theorem Tryz.lays103 : Go.Proofs.Lays.n103 Tryz.prog Tryz.lays103_ren := {
  mixed := by kernel_rfl
  f103 := Tryz.func22.trans (congrArg some (by kernel_rfl))
  f206 := Tryz.func115.trans (congrArg some (by kernel_rfl))
  f210 := Tryz.func31.trans (congrArg some (by kernel_rfl))
  t3 := Tryz.underlying3
  a3 := Tryz.isAgg3
  z3 := Tryz.sizeOf3
  v3 := Tryz.zeroValue3
  t4 := Tryz.underlying4
  a4 := Tryz.isAgg4
  z4 := Tryz.sizeOf4
  v4 := Tryz.zeroValue4
  t9 := Tryz.underlying9
  a9 := Tryz.isAgg9
  z9 := Tryz.sizeOf9
  v9 := Tryz.zeroValue9
  t24 := Tryz.underlying46
  a24 := Tryz.isAgg46
  z24 := Tryz.sizeOf46
  v24 := Tryz.zeroValue46 }
open Go.RowKit in
/-- strings.CutPrefix: "CutPrefix returns s without the provided leading prefix string and reports whether it found the prefix. If s doesn't start with prefix, CutPrefix returns s, false. If prefix is the empty string, CutPrefix returns s, true.": IT RETURNS '(Lib.trimPrefix s p, Lib.hasPrefix s p)'; the world is as it was. (LAID: no walk: one application.) -/
theorem Tryz.strings_CutPrefix (s p : ByteArray) (w : World) :
    Calls Tryz.prog 22 #[.string s, .string p] w fun e w' => e = .returned (.tuple #[.string ⟨(Lib.trimPrefix s.data.toList p.data.toList).toArray⟩, .bool (Lib.hasPrefix s.data.toList p.data.toList)]) ∧ w' = w := Any.strings_CutPrefix Tryz.lays103 s p w
open Go.RowKit in
/-- (*strings.Builder).String: "String returns the accumulated string.": OF A BUILDER THAT HOLDS AT LEAST ONE BYTE. ✋ THE MODEL FREEZES THOSE BYTES IN THE BUFFER (unsafe.String): a later write INTO them ends the model's run without an answer; a later append BEHIND them goes on. The statement's order of evaluation is drawn: one draw. THE FORM '_k': OVER 'Lib.IsBuilderF' (a builder that 'String()' may have read), AND WITH THE FRAME THAT REACHES ABOVE THE BUILDER: 'Lib.OthersKept': every block that is not b and is no row of uint8's stands as it stood: the iterator of a range among them. (LAID: no walk: one application.) -/
theorem Tryz.Builder_String_k (B b : Nat) (l : List UInt8) (w : World) (h : Lib.IsBuilderF 114 5 B b (Lib.byteCells l) w) (h0 : l ≠ []) :
    Calls Tryz.prog 124 #[.pointer (some ⟨b, 0, none⟩)] w fun e w' => e = .returned (.string ⟨l.toArray⟩) ∧ (Lib.IsBuilderF 114 5 B b (Lib.byteCells l) w' ∧ Below B w w' ∧ Lib.OthersKept 5 (some b) w w') := Any.Builder_String_k Tryz.lays169 Tryz.Builder_Extra_169 B b l w h h0
def Tryz.lays172_ren : Go.Shelf.Ren := ⟨fun | 172 => 33 | 244 => 117 | 245 => 118 | 247 => 241 | 279 => 242 | 280 => 243 | 281 => 244 | 282 => 245 | 287 => 297 | 316 => 298 | 171 => 23 | 205 => 299 | 321 => 338 | 322 => 339 | 243 => 32 | 246 => 116 | 283 => 237 | 284 => 238 | 285 => 239 | 286 => 240 | 129 => 293 | 317 => 292 | 318 => 294 | 319 => 295 | 320 => 296 | 337 => 336 | 338 => 337 | n => n, fun | 9 => 9 | 3 => 3 | 75 => 61 | 76 => 62 | 4 => 4 | 5 => 5 | 167 => 174 | 37 => 112 | 0 => 0 | 85 => 175 | 2 => 2 | 168 => 177 | 53 => 169 | 175 => 223 | 46 => 200 | 210 => 226 | 127 => 182 | 145 => 257 | 143 => 255 | 21 => 21 | 171 => 168 | 173 => 172 | 212 => 221 | 51 => 64 | 20 => 20 | 213 => 222 | 232 => 285 | 233 => 286 | 80 => 70 | n => n, fun | 15 => 3 | 16 => 4 | 17 => 2 | 18 => 8 | 19 => 9 | n => n⟩
theorem Tryz.lays172 : Go.Proofs.Lays.n172 Tryz.prog Tryz.lays172_ren := {
  mixed := by kernel_rfl
  f129 := Tryz.func293.trans (congrArg some (by kernel_rfl))
  f171 := Tryz.func23.trans (congrArg some (by kernel_rfl))
  f172 := Tryz.func33.trans (congrArg some (by kernel_rfl))
  f205 := Tryz.func299.trans (congrArg some (by kernel_rfl))
  f243 := Tryz.func32.trans (congrArg some (by kernel_rfl))
  f244 := Tryz.func117.trans (congrArg some (by kernel_rfl))
  f245 := Tryz.func118.trans (congrArg some (by kernel_rfl))
  f246 := Tryz.func116.trans (congrArg some (by kernel_rfl))
  f247 := Tryz.func241.trans (congrArg some (by kernel_rfl))
  f279 := Tryz.func242.trans (congrArg some (by kernel_rfl))
  f280 := Tryz.func243.trans (congrArg some (by kernel_rfl))
  f281 := Tryz.func244.trans (congrArg some (by kernel_rfl))
  f282 := Tryz.func245.trans (congrArg some (by kernel_rfl))
  f283 := Tryz.func237.trans (congrArg some (by kernel_rfl))
  f284 := Tryz.func238.trans (congrArg some (by kernel_rfl))
  f285 := Tryz.func239.trans (congrArg some (by kernel_rfl))
  f286 := Tryz.func240.trans (congrArg some (by kernel_rfl))
  f287 := Tryz.func297.trans (congrArg some (by kernel_rfl))
  f316 := Tryz.func298.trans (congrArg some (by kernel_rfl))
  f317 := Tryz.func292.trans (congrArg some (by kernel_rfl))
  f318 := Tryz.func294.trans (congrArg some (by kernel_rfl))
  f319 := Tryz.func295.trans (congrArg some (by kernel_rfl))
  f320 := Tryz.func296.trans (congrArg some (by kernel_rfl))
  f321 := Tryz.func338.trans (congrArg some (by kernel_rfl))
  f322 := Tryz.func339.trans (congrArg some (by kernel_rfl))
  f337 := Tryz.func336.trans (congrArg some (by kernel_rfl))
  f338 := Tryz.func337.trans (congrArg some (by kernel_rfl))
  t0 := Tryz.underlying0
  a0 := Tryz.isAgg0
  z0 := Tryz.sizeOf0
  v0 := Tryz.zeroValue0
  t2 := Tryz.underlying2
  a2 := Tryz.isAgg2
  z2 := Tryz.sizeOf2
  v2 := Tryz.zeroValue2
  t3 := Tryz.underlying3
  a3 := Tryz.isAgg3
  z3 := Tryz.sizeOf3
  v3 := Tryz.zeroValue3
  t4 := Tryz.underlying4
  a4 := Tryz.isAgg4
  z4 := Tryz.sizeOf4
  v4 := Tryz.zeroValue4
  t5 := Tryz.underlying5
  a5 := Tryz.isAgg5
  z5 := Tryz.sizeOf5
  v5 := Tryz.zeroValue5
  t9 := Tryz.underlying9
  a9 := Tryz.isAgg9
  z9 := Tryz.sizeOf9
  v9 := Tryz.zeroValue9
  t20 := Tryz.underlying20
  a20 := Tryz.isAgg20
  z20 := Tryz.sizeOf20
  v20 := Tryz.zeroValue20
  t21 := Tryz.underlying21
  a21 := Tryz.isAgg21
  z21 := Tryz.sizeOf21
  v21 := Tryz.zeroValue21
  t37 := Tryz.underlying112
  a37 := Tryz.isAgg112
  z37 := Tryz.sizeOf112
  v37 := Tryz.zeroValue112
  t46 := Tryz.underlying200
  a46 := Tryz.isAgg200
  z46 := Tryz.sizeOf200
  v46 := Tryz.zeroValue200
  t51 := Tryz.underlying64
  a51 := Tryz.isAgg64
  z51 := Tryz.sizeOf64
  v51 := Tryz.zeroValue64
  t53 := Tryz.underlying169
  a53 := Tryz.isAgg169
  z53 := Tryz.sizeOf169
  v53 := Tryz.zeroValue169
  t75 := Tryz.underlying61
  a75 := Tryz.isAgg61
  z75 := Tryz.sizeOf61
  v75 := Tryz.zeroValue61
  t76 := Tryz.underlying62
  a76 := Tryz.isAgg62
  z76 := Tryz.sizeOf62
  v76 := Tryz.zeroValue62
  t85 := Tryz.underlying175
  a85 := Tryz.isAgg175
  z85 := Tryz.sizeOf175
  v85 := Tryz.zeroValue175
  t127 := Tryz.underlying182
  a127 := Tryz.isAgg182
  z127 := Tryz.sizeOf182
  v127 := Tryz.zeroValue182
  t143 := Tryz.underlying255
  a143 := Tryz.isAgg255
  z143 := Tryz.sizeOf255
  v143 := Tryz.zeroValue255
  t145 := Tryz.underlying257
  a145 := Tryz.isAgg257
  z145 := Tryz.sizeOf257
  v145 := Tryz.zeroValue257
  t167 := Tryz.underlying174
  a167 := Tryz.isAgg174
  z167 := Tryz.sizeOf174
  v167 := Tryz.zeroValue174
  t168 := Tryz.underlying177
  a168 := Tryz.isAgg177
  z168 := Tryz.sizeOf177
  v168 := Tryz.zeroValue177
  t171 := Tryz.underlying168
  a171 := Tryz.isAgg168
  z171 := Tryz.sizeOf168
  v171 := Tryz.zeroValue168
  t173 := Tryz.underlying172
  a173 := Tryz.isAgg172
  z173 := Tryz.sizeOf172
  v173 := Tryz.zeroValue172
  t175 := Tryz.underlying223
  a175 := Tryz.isAgg223
  z175 := Tryz.sizeOf223
  v175 := Tryz.zeroValue223
  t210 := Tryz.underlying226
  a210 := Tryz.isAgg226
  z210 := Tryz.sizeOf226
  v210 := Tryz.zeroValue226
  t212 := Tryz.underlying221
  a212 := Tryz.isAgg221
  z212 := Tryz.sizeOf221
  v212 := Tryz.zeroValue221
  t213 := Tryz.underlying222
  a213 := Tryz.isAgg222
  z213 := Tryz.sizeOf222
  t232 := Tryz.underlying285
  a232 := Tryz.isAgg285
  z232 := Tryz.sizeOf285
  v232 := Tryz.zeroValue285
  t233 := Tryz.underlying286
  a233 := Tryz.isAgg286
  z233 := Tryz.sizeOf286
  v233 := Tryz.zeroValue286
  g15 := by kernel_rfl
  g16 := by kernel_rfl
  g17 := by kernel_rfl
  g18 := by kernel_rfl
  g19 := by kernel_rfl }
open Go.RowKit in
/-- strconv.Atoi: "Atoi is equivalent to ParseInt(s, 10, 0), converted to type int.": AT A DECIMAL NUMERAL OF AT MOST 18 BYTES: its value, and a nil error. The world behind the call: the one new row that the library's '[]byte(s)' lays. (LAID: no walk: one application.) -/
theorem Tryz.strconv_Atoi (s : ByteArray) (n : Int) (hl : s.size ≤ 18) (h : Lib.atoi s.data.toList = some n) (w : World) :
    Calls Tryz.prog 33 #[.string s] w fun e w' => e = .returned (.tuple #[.int .i64 n, .nilIface]) ∧ ∃ t, w' = Lib.bytesWorld w 5 t := Any.strconv_Atoi Tryz.lays172 s n hl h w
def Tryz.laysM171_ren : Go.Shelf.Ren := ⟨fun | 171 => 23 | 243 => 32 | 246 => 116 | 283 => 237 | 284 => 238 | 285 => 239 | 286 => 240 | 129 => 293 | 317 => 292 | 318 => 294 | 319 => 295 | 320 => 296 | 337 => 336 | 338 => 337 | n => n, fun | 3 => 3 | 9 => 9 | 2 => 2 | 4 => 4 | 171 => 168 | 0 => 0 | 53 => 169 | 37 => 112 | 5 => 5 | 173 => 172 | 212 => 221 | 51 => 64 | 20 => 20 | 213 => 222 | 46 => 200 | 232 => 285 | 233 => 286 | n => n, fun | 17 => 2 | 18 => 8 | 19 => 9 | n => n⟩
theorem Tryz.laysM171 : Go.Proofs.LaysM.n171 Tryz.prog Tryz.laysM171_ren := {
  mixed := by kernel_rfl
  f129 := Tryz.func293.trans (congrArg some (by kernel_rfl))
  f171 := Tryz.func23.trans (congrArg some (by kernel_rfl))
  f243 := Tryz.func32.trans (congrArg some (by kernel_rfl))
  f246 := Tryz.func116.trans (congrArg some (by kernel_rfl))
  f283 := Tryz.func237.trans (congrArg some (by kernel_rfl))
  f284 := Tryz.func238.trans (congrArg some (by kernel_rfl))
  f285 := Tryz.func239.trans (congrArg some (by kernel_rfl))
  f286 := Tryz.func240.trans (congrArg some (by kernel_rfl))
  f317 := Tryz.func292.trans (congrArg some (by kernel_rfl))
  f318 := Tryz.func294.trans (congrArg some (by kernel_rfl))
  f319 := Tryz.func295.trans (congrArg some (by kernel_rfl))
  f320 := Tryz.func296.trans (congrArg some (by kernel_rfl))
  f337 := Tryz.func336.trans (congrArg some (by kernel_rfl))
  f338 := Tryz.func337.trans (congrArg some (by kernel_rfl))
  t0 := Tryz.underlying0
  a0 := Tryz.isAgg0
  z0 := Tryz.sizeOf0
  v0 := Tryz.zeroValue0
  t2 := Tryz.underlying2
  a2 := Tryz.isAgg2
  z2 := Tryz.sizeOf2
  v2 := Tryz.zeroValue2
  t3 := Tryz.underlying3
  a3 := Tryz.isAgg3
  z3 := Tryz.sizeOf3
  v3 := Tryz.zeroValue3
  t4 := Tryz.underlying4
  a4 := Tryz.isAgg4
  z4 := Tryz.sizeOf4
  v4 := Tryz.zeroValue4
  t5 := Tryz.underlying5
  a5 := Tryz.isAgg5
  z5 := Tryz.sizeOf5
  v5 := Tryz.zeroValue5
  t9 := Tryz.underlying9
  a9 := Tryz.isAgg9
  z9 := Tryz.sizeOf9
  v9 := Tryz.zeroValue9
  t20 := Tryz.underlying20
  a20 := Tryz.isAgg20
  z20 := Tryz.sizeOf20
  v20 := Tryz.zeroValue20
  t37 := Tryz.underlying112
  a37 := Tryz.isAgg112
  z37 := Tryz.sizeOf112
  v37 := Tryz.zeroValue112
  t46 := Tryz.underlying200
  a46 := Tryz.isAgg200
  z46 := Tryz.sizeOf200
  v46 := Tryz.zeroValue200
  t51 := Tryz.underlying64
  a51 := Tryz.isAgg64
  z51 := Tryz.sizeOf64
  v51 := Tryz.zeroValue64
  t53 := Tryz.underlying169
  a53 := Tryz.isAgg169
  z53 := Tryz.sizeOf169
  v53 := Tryz.zeroValue169
  t171 := Tryz.underlying168
  a171 := Tryz.isAgg168
  z171 := Tryz.sizeOf168
  v171 := Tryz.zeroValue168
  t173 := Tryz.underlying172
  a173 := Tryz.isAgg172
  z173 := Tryz.sizeOf172
  v173 := Tryz.zeroValue172
  t212 := Tryz.underlying221
  a212 := Tryz.isAgg221
  z212 := Tryz.sizeOf221
  v212 := Tryz.zeroValue221
  t213 := Tryz.underlying222
  a213 := Tryz.isAgg222
  z213 := Tryz.sizeOf222
  t232 := Tryz.underlying285
  a232 := Tryz.isAgg285
  z232 := Tryz.sizeOf285
  v232 := Tryz.zeroValue285
  t233 := Tryz.underlying286
  a233 := Tryz.isAgg286
  z233 := Tryz.sizeOf286
  v233 := Tryz.zeroValue286
  g17 := by kernel_rfl
  g18 := by kernel_rfl
  g19 := by kernel_rfl
  i0 := by kernel_rfl
  i2 := by kernel_rfl
  i3 := by kernel_rfl
  i4 := by kernel_rfl
  i5 := by kernel_rfl
  i9 := by kernel_rfl
  i20 := by kernel_rfl
  i37 := by kernel_rfl
  i46 := by kernel_rfl
  i51 := by kernel_rfl
  i53 := by kernel_rfl
  i171 := by kernel_rfl
  i173 := by kernel_rfl
  i212 := by kernel_rfl
  i232 := by kernel_rfl
  i233 := by kernel_rfl
  m17 := by kernel_rfl
  m18 := by kernel_rfl
  m19 := by kernel_rfl }
open Go.RowKit Go.Sort Go.Lib in
/-- strconv.Itoa: "Itoa is equivalent to FormatInt(int64(i), 10).": i's DECIMAL NUMERAL ('Lib.itoa': a '-' where i is negative, then the digits), FOR EVERY int. The world behind the call: the world before it, new blocks behind the heap (the library's 'var a [24]byte'), draws. (LAID: no walk: one application.) -/
theorem Tryz.strconv_Itoa (n : Int) (h0 : -9223372036854775808 ≤ n) (h1 : n ≤ 9223372036854775807) (w : World) (htab : Lib.TabIs Tryz.prog w "internal/strconv.uint64pow10" .u64 Lib.pow10Tab) :
    Calls Tryz.prog 23 #[.int .i64 n] w fun e w' => e = .returned (.string ⟨(Lib.itoa n).toArray⟩) ∧ ∃ k os, w' = grow (w.drewN k) os := Any.strconv_Itoa Tryz.laysM171 n h0 h1 w htab
def Tryz.lays105_ren : Go.Shelf.Ren := ⟨fun | 105 => 287 | 212 => 324 | 99 => 325 | 165 => 326 | 166 => 123 | 170 => 327 | 169 => 124 | 263 => 356 | 264 => 357 | 206 => 115 | 240 => 249 | 241 => 358 | 276 => 300 | 277 => 375 | n => n, fun | 9 => 9 | 3 => 3 | 4 => 4 | 20 => 20 | 0 => 0 | 46 => 200 | 109 => 244 | 5 => 5 | 72 => 114 | 76 => 62 | 51 => 64 | 146 => 277 | 53 => 169 | 148 => 279 | 70 => 111 | 37 => 112 | 75 => 61 | 127 => 182 | 164 => 228 | 80 => 70 | n => n, fun | n => n⟩
theorem Tryz.lays105 : Go.Proofs.Lays.n105 Tryz.prog Tryz.lays105_ren := {
  mixed := by kernel_rfl
  f99 := Tryz.func325.trans (congrArg some (by kernel_rfl))
  f105 := Tryz.func287.trans (congrArg some (by kernel_rfl))
  f165 := Tryz.func326.trans (congrArg some (by kernel_rfl))
  f166 := Tryz.func123.trans (congrArg some (by kernel_rfl))
  f169 := Tryz.func124.trans (congrArg some (by kernel_rfl))
  f170 := Tryz.func327.trans (congrArg some (by kernel_rfl))
  f206 := Tryz.func115.trans (congrArg some (by kernel_rfl))
  f212 := Tryz.func324.trans (congrArg some (by kernel_rfl))
  f240 := Tryz.func249.trans (congrArg some (by kernel_rfl))
  f241 := Tryz.func358.trans (congrArg some (by kernel_rfl))
  f263 := Tryz.func356.trans (congrArg some (by kernel_rfl))
  f264 := Tryz.func357.trans (congrArg some (by kernel_rfl))
  f276 := Tryz.func300.trans (congrArg some (by kernel_rfl))
  f277 := Tryz.func375.trans (congrArg some (by kernel_rfl))
  t0 := Tryz.underlying0
  a0 := Tryz.isAgg0
  z0 := Tryz.sizeOf0
  v0 := Tryz.zeroValue0
  t3 := Tryz.underlying3
  a3 := Tryz.isAgg3
  z3 := Tryz.sizeOf3
  v3 := Tryz.zeroValue3
  t4 := Tryz.underlying4
  a4 := Tryz.isAgg4
  z4 := Tryz.sizeOf4
  v4 := Tryz.zeroValue4
  t5 := Tryz.underlying5
  a5 := Tryz.isAgg5
  z5 := Tryz.sizeOf5
  v5 := Tryz.zeroValue5
  t9 := Tryz.underlying9
  a9 := Tryz.isAgg9
  z9 := Tryz.sizeOf9
  v9 := Tryz.zeroValue9
  t20 := Tryz.underlying20
  a20 := Tryz.isAgg20
  z20 := Tryz.sizeOf20
  v20 := Tryz.zeroValue20
  t37 := Tryz.underlying112
  a37 := Tryz.isAgg112
  z37 := Tryz.sizeOf112
  v37 := Tryz.zeroValue112
  t46 := Tryz.underlying200
  a46 := Tryz.isAgg200
  z46 := Tryz.sizeOf200
  v46 := Tryz.zeroValue200
  t51 := Tryz.underlying64
  a51 := Tryz.isAgg64
  z51 := Tryz.sizeOf64
  v51 := Tryz.zeroValue64
  t53 := Tryz.underlying169
  a53 := Tryz.isAgg169
  z53 := Tryz.sizeOf169
  v53 := Tryz.zeroValue169
  t70 := Tryz.underlying111
  a70 := Tryz.isAgg111
  z70 := Tryz.sizeOf111
  v70 := Tryz.zeroValue111
  t72 := Tryz.underlying114
  a72 := Tryz.isAgg114
  z72 := Tryz.sizeOf114
  v72 := Tryz.zeroValue114
  t75 := Tryz.underlying61
  a75 := Tryz.isAgg61
  z75 := Tryz.sizeOf61
  v75 := Tryz.zeroValue61
  t76 := Tryz.underlying62
  a76 := Tryz.isAgg62
  z76 := Tryz.sizeOf62
  v76 := Tryz.zeroValue62
  t109 := Tryz.underlying244
  a109 := Tryz.isAgg244
  z109 := Tryz.sizeOf244
  v109 := Tryz.zeroValue244
  t127 := Tryz.underlying182
  a127 := Tryz.isAgg182
  z127 := Tryz.sizeOf182
  v127 := Tryz.zeroValue182
  t146 := Tryz.underlying277
  a146 := Tryz.isAgg277
  z146 := Tryz.sizeOf277
  v146 := Tryz.zeroValue277
  t148 := Tryz.underlying279
  a148 := Tryz.isAgg279
  z148 := Tryz.sizeOf279
  v148 := Tryz.zeroValue279
  t164 := Tryz.underlying228
  a164 := Tryz.isAgg228
  z164 := Tryz.sizeOf228
  v164 := Tryz.zeroValue228 }
theorem Tryz.Builder_Extra_105 : Builder.Extra Tryz.prog Tryz.lays105_ren := {
  sizeBuilder := by kernel_rfl
  liesBuilder := by kernel_rfl
  t5 := Tryz.underlying5
  a5 := Tryz.isAgg5
  z5 := Tryz.sizeOf5
  v5 := Tryz.zeroValue5
  infoByte := by kernel_rfl
  cellsByte := by kernel_rfl
  sizeByte := by kernel_rfl
  neB5 := by decide }
open Go.RowKit Go.Lib in
/-- **strings.Repeat: count ≥ 0, the result within one allocation: count copies of s.** (LAID: no walk: one application.) -/
theorem Tryz.strings_Repeat (s : ByteArray) (c : Nat) (w : World) (hc : c ≤ 9223372036854775807) (hlen : s.size * c ≤ 140737488355328) :
    Calls Tryz.prog 287 #[.string s, .int .i64 c] w fun e w' => e = .returned (.string ⟨(Lib.repeatL s.data.toList c).toArray⟩) ∧ Below w.heap.size w w' := Any.strings_Repeat Tryz.lays105 Tryz.Builder_Extra_105 s c w hc hlen
end Go.Proofs
