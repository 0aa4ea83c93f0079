/-
  DERIVED: THE SHELF's CONTRACTS AT THIS DUMP, IN PLAIN WORDS (tools/lay-plain.mjs out of 'TryzShelf.lean', which tools/lay-shelf.mjs wrote): THE SAME DECLARATIONS UNDER THE SAME NAMES: 'import', 'namespace', 'open', 'def', 'theorem' AND NOTHING ELSE: no command of the shelf's: FOR A HAND-IN. Each laying: the table of numbers ('.._ren') and one theorem, a field a fact of the dump's own or the kernel's comparison; each contract: ONE APPLICATION.
-/
import Derived.Shelf.Strings.Builder1
import Derived.Shelf.Strings.Builder2
import Derived.Shelf.Strings.OnBuilder
import Derived.Shelf.Strings.Trim
import Derived.Shelf.Small.Utf8
import Derived.Shelf.Small.Bits
import Derived.Shelf.Small.Strs
import Derived.Shelf.Small.Wraps
import Derived.Shelf.Strings.BuilderF
import Derived.Shelf.Strings.BuilderK
import Derived.Shelf.Strings.BuilderRune
import Derived.Shelf.Utf8.AppendRune
import Derived.Shelf.Utf8.AppendRunePlain
import Derived.Shelf.Utf8.RuneCount
import Derived.Shelf.Strings.Builder2Cap
import Derived.Shelf.Strconv.Atoi
import Derived.Shelf.Strconv.Itoa0
import Derived.Shelf.Strconv.Itoa1
import Derived.Shelf.LaysM
import Derived.Shelf.Strconv.Itoa2
import Derived.Shelf.Strconv.Itoa3
import Derived.Shelf.Strconv.AtoiErrFast
import Derived.Shelf.Strconv.ParseIntEmpty
import Derived.Shelf.Strconv.AtoiFail
import Derived.Shelf.Strconv.Clone
import Derived.Shelf.Strconv.SyntaxError
import Derived.Shelf.LaysC
import Derived.Shelf.Strconv.ToError
import Derived.Shelf.Strconv.AtoiErr
import Derived.Shelf.Strconv.ErrVar
import Derived.Shelf.Strconv.Lower
import Derived.Shelf.Strconv.ParseUint10
import Derived.Shelf.Strconv.ParseUint10Empty
import Derived.Shelf.Strconv.ParseUint10Any
import Derived.Shelf.Strconv.ParseInt10
import Derived.Shelf.Strconv.AtoiLong
import Derived.Shelf.Strconv.AtoiInnerAll
import Derived.Shelf.Strconv.RangeError
import Derived.Shelf.Strconv.ToErrorRange
import Derived.Shelf.Strconv.AtoiAll
import Derived.Shelf.Strconv.ErrVarAll
import Derived.Shelf.Strconv.ParseUintEmpty
import Derived.Shelf.Strconv.ParseUint10b64
import Derived.Shelf.Strconv.ParseUint10b32
import Derived.Shelf.Strconv.ParseUint10b16
import Derived.Shelf.Strconv.ParseUint10b8
import Derived.Shelf.Strconv.ParseUint10At
import Derived.Shelf.Strconv.ParseInt10At64
import Derived.Shelf.Strconv.ParseInt10At32
import Derived.Shelf.Strconv.ParseInt10At16
import Derived.Shelf.Strconv.ParseInt10At8
import Derived.Shelf.Strconv.ParseInt10All
import Derived.Shelf.Strings.Search1
import Derived.Shelf.Strings.Search2
import Derived.Shelf.Strings.Search3
import Derived.Shelf.Strings.Cut
import Derived.Shelf.Strings.Count
import Derived.Shelf.Strings.Shaped
import Derived.Shelf.Sort.Plain
import Derived.Shelf.Strings.Prefix
import Derived.Shelf.Strings.Split
import Derived.Shelf.Strings.SplitShaped
import Derived.Shelf.Unicode.Latin
import Derived.Shelf.Unicode.Decode
import Derived.Shelf.Strings.Runes
import Derived.Shelf.Strings.RuneCount
import Derived.Shelf.Strings.AsciiSet
import Derived.Shelf.Strings.Explode
import Derived.Shelf.Bits.Mul64
import Derived.Shelf.Strings.Repeat
import Derived.Shelf.Unicode.DecodeSlow
import Derived.Shelf.Unicode.DecodeAny
import Derived.Shelf.Unicode.DecodeLast
import Derived.Shelf.Unicode.CaseLookup
import Derived.Shelf.Unicode.CaseConvert
import Derived.Shelf.Unicode.CaseTo
import Derived.Shelf.Unicode.CaseLaid
import Derived.Shelf.Strings.MapAny
import Derived.Shelf.Strings.CaseAny
import Derived.Shelf.Strings.BuilderCap
import Derived.Ground.Names2Prog
import Derived.Shelf.Slices.CompactI
import Derived.Shelf.Slices.SearchI
import Derived.Shelf.Slices.Cells
import Derived.Shelf.Slices.In.SortNone
import Derived.Shelf.Slices.Empties
import Derived.Test.YtphfefmlappidaaGreatDoorProg
namespace Go.Proofs
open Go.Shelf
def Tryz.lays169_ren : Go.Shelf.Ren := ⟨fun | 169 => 71 | n => n, fun | 70 => 96 | 9 => 9 | 0 => 0 | 72 => 99 | 37 => 97 | 127 => 154 | 3 => 3 | 5 => 5 | n => n, fun | n => n⟩
theorem Tryz.lays169 : Go.Proofs.Lays.n169 Tryz.prog Tryz.lays169_ren := {
  mixed := by kernel_rfl
  f169 := Tryz.func71.trans (congrArg some (by kernel_rfl))
  t0 := Tryz.underlying0
  a0 := Tryz.isAgg0
  z0 := Tryz.sizeOf0
  v0 := Tryz.zeroValue0
  t3 := Tryz.underlying3
  a3 := Tryz.isAgg3
  z3 := Tryz.sizeOf3
  v3 := Tryz.zeroValue3
  t9 := Tryz.underlying9
  a9 := Tryz.isAgg9
  z9 := Tryz.sizeOf9
  v9 := Tryz.zeroValue9
  t37 := Tryz.underlying97
  a37 := Tryz.isAgg97
  z37 := Tryz.sizeOf97
  v37 := Tryz.zeroValue97
  t70 := Tryz.underlying96
  a70 := Tryz.isAgg96
  z70 := Tryz.sizeOf96
  v70 := Tryz.zeroValue96
  t72 := Tryz.underlying99
  a72 := Tryz.isAgg99
  z72 := Tryz.sizeOf99
  v72 := Tryz.zeroValue99
  t127 := Tryz.underlying154
  a127 := Tryz.isAgg154
  z127 := Tryz.sizeOf154
  v127 := Tryz.zeroValue154 }
theorem Tryz.Builder_Extra_169 : Builder.Extra Tryz.prog Tryz.lays169_ren := {
  sizeBuilder := by kernel_rfl
  liesBuilder := by kernel_rfl
  t5 := Tryz.underlying5
  a5 := Tryz.isAgg5
  z5 := Tryz.sizeOf5
  v5 := Tryz.zeroValue5
  infoByte := by kernel_rfl
  cellsByte := by kernel_rfl
  sizeByte := by kernel_rfl
  neB5 := by decide }
def Tryz.lays160_ren : Go.Shelf.Ren := ⟨fun | 160 => 198 | 232 => 300 | 231 => 299 | 227 => 301 | 234 => 303 | 233 => 302 | 236 => 305 | 235 => 304 | 228 => 337 | 271 => 339 | 151 => 338 | 197 => 196 | 120 => 365 | 152 => 321 | 260 => 298 | 137 => 348 | 119 => 349 | 224 => 350 | 225 => 351 | 217 => 373 | 266 => 396 | n => n, fun | 9 => 9 | 4 => 4 | 3 => 3 | 5 => 5 | 117 => 212 | 116 => 211 | 0 => 0 | 124 => 215 | 21 => 21 | 105 => 155 | 46 => 200 | 119 => 247 | 139 => 250 | 138 => 249 | n => n, fun | 3 => 5 | 4 => 6 | n => n⟩
theorem Tryz.lays160 : Go.Proofs.Lays.n160 Tryz.prog Tryz.lays160_ren := {
  mixed := by kernel_rfl
  f119 := Tryz.func349.trans (congrArg some (by kernel_rfl))
  f120 := Tryz.func365.trans (congrArg some (by kernel_rfl))
  f137 := Tryz.func348.trans (congrArg some (by kernel_rfl))
  f151 := Tryz.func338.trans (congrArg some (by kernel_rfl))
  f152 := Tryz.func321.trans (congrArg some (by kernel_rfl))
  f160 := Tryz.func198.trans (congrArg some (by kernel_rfl))
  f197 := Tryz.func196.trans (congrArg some (by kernel_rfl))
  f217 := Tryz.func373.trans (congrArg some (by kernel_rfl))
  f224 := Tryz.func350.trans (congrArg some (by kernel_rfl))
  f225 := Tryz.func351.trans (congrArg some (by kernel_rfl))
  f227 := Tryz.func301.trans (congrArg some (by kernel_rfl))
  f228 := Tryz.func337.trans (congrArg some (by kernel_rfl))
  f231 := Tryz.func299.trans (congrArg some (by kernel_rfl))
  f232 := Tryz.func300.trans (congrArg some (by kernel_rfl))
  f233 := Tryz.func302.trans (congrArg some (by kernel_rfl))
  f234 := Tryz.func303.trans (congrArg some (by kernel_rfl))
  f235 := Tryz.func304.trans (congrArg some (by kernel_rfl))
  f236 := Tryz.func305.trans (congrArg some (by kernel_rfl))
  f260 := Tryz.func298.trans (congrArg some (by kernel_rfl))
  f266 := Tryz.func396.trans (congrArg some (by kernel_rfl))
  f271 := Tryz.func339.trans (congrArg some (by kernel_rfl))
  t0 := Tryz.underlying0
  a0 := Tryz.isAgg0
  z0 := Tryz.sizeOf0
  v0 := Tryz.zeroValue0
  t3 := Tryz.underlying3
  a3 := Tryz.isAgg3
  z3 := Tryz.sizeOf3
  v3 := Tryz.zeroValue3
  t4 := Tryz.underlying4
  a4 := Tryz.isAgg4
  z4 := Tryz.sizeOf4
  v4 := Tryz.zeroValue4
  t5 := Tryz.underlying5
  a5 := Tryz.isAgg5
  z5 := Tryz.sizeOf5
  v5 := Tryz.zeroValue5
  t9 := Tryz.underlying9
  a9 := Tryz.isAgg9
  z9 := Tryz.sizeOf9
  v9 := Tryz.zeroValue9
  t21 := Tryz.underlying21
  a21 := Tryz.isAgg21
  z21 := Tryz.sizeOf21
  v21 := Tryz.zeroValue21
  t46 := Tryz.underlying200
  a46 := Tryz.isAgg200
  z46 := Tryz.sizeOf200
  v46 := Tryz.zeroValue200
  t105 := Tryz.underlying155
  a105 := Tryz.isAgg155
  z105 := Tryz.sizeOf155
  v105 := Tryz.zeroValue155
  t116 := Tryz.underlying211
  a116 := Tryz.isAgg211
  z116 := Tryz.sizeOf211
  t117 := Tryz.underlying212
  a117 := Tryz.isAgg212
  z117 := Tryz.sizeOf212
  v117 := Tryz.zeroValue212
  t119 := Tryz.underlying247
  a119 := Tryz.isAgg247
  z119 := Tryz.sizeOf247
  t124 := Tryz.underlying215
  a124 := Tryz.isAgg215
  z124 := Tryz.sizeOf215
  v124 := Tryz.zeroValue215
  t138 := Tryz.underlying249
  a138 := Tryz.isAgg249
  z138 := Tryz.sizeOf249
  v138 := Tryz.zeroValue249
  t139 := Tryz.underlying250
  a139 := Tryz.isAgg250
  z139 := Tryz.sizeOf250
  v139 := Tryz.zeroValue250
  g3 := by kernel_rfl
  g4 := by kernel_rfl }
def Tryz.lays103_ren : Go.Shelf.Ren := ⟨fun | 103 => 22 | 210 => 40 | 206 => 64 | n => n, fun | 9 => 9 | 4 => 4 | 24 => 46 | 3 => 3 | n => n, fun | n => n⟩
theorem Tryz.lays103 : Go.Proofs.Lays.n103 Tryz.prog Tryz.lays103_ren := {
  mixed := by kernel_rfl
  f103 := Tryz.func22.trans (congrArg some (by kernel_rfl))
  f206 := Tryz.func64.trans (congrArg some (by kernel_rfl))
  f210 := Tryz.func40.trans (congrArg some (by kernel_rfl))
  t3 := Tryz.underlying3
  a3 := Tryz.isAgg3
  z3 := Tryz.sizeOf3
  v3 := Tryz.zeroValue3
  t4 := Tryz.underlying4
  a4 := Tryz.isAgg4
  z4 := Tryz.sizeOf4
  v4 := Tryz.zeroValue4
  t9 := Tryz.underlying9
  a9 := Tryz.isAgg9
  z9 := Tryz.sizeOf9
  v9 := Tryz.zeroValue9
  t24 := Tryz.underlying46
  a24 := Tryz.isAgg46
  z24 := Tryz.sizeOf46
  v24 := Tryz.zeroValue46 }
open Go.RowKit in
/-- strings.CutPrefix: "CutPrefix returns s without the provided leading prefix string and reports whether it found the prefix. If s doesn't start with prefix, CutPrefix returns s, false. If prefix is the empty string, CutPrefix returns s, true.": IT RETURNS '(Lib.trimPrefix s p, Lib.hasPrefix s p)'; the world is as it was. (LAID: no walk: one application.) -/
theorem Tryz.strings_CutPrefix (s p : ByteArray) (w : World) :
    Calls Tryz.prog 22 #[.string s, .string p] w fun e w' => e = .returned (.tuple #[.string ⟨(Lib.trimPrefix s.data.toList p.data.toList).toArray⟩, .bool (Lib.hasPrefix s.data.toList p.data.toList)]) ∧ w' = w := Any.strings_CutPrefix Tryz.lays103 s p w
open Go.RowKit in
/-- (*strings.Builder).String: "String returns the accumulated string.": OF A BUILDER THAT HOLDS AT LEAST ONE BYTE. ✋ THE MODEL FREEZES THOSE BYTES IN THE BUFFER (unsafe.String): a later write INTO them ends the model's run without an answer; a later append BEHIND them goes on. The statement's order of evaluation is drawn: one draw. THE FORM '_k': OVER 'Lib.IsBuilderF' (a builder that 'String()' may have read), AND WITH THE FRAME THAT REACHES ABOVE THE BUILDER: 'Lib.OthersKept': every block that is not b and is no row of uint8's stands as it stood: the iterator of a range among them. (LAID: no walk: one application.) -/
theorem Tryz.Builder_String_k (B b : Nat) (l : List UInt8) (w : World) (h : Lib.IsBuilderF 99 5 B b (Lib.byteCells l) w) (h0 : l ≠ []) :
    Calls Tryz.prog 71 #[.pointer (some ⟨b, 0, none⟩)] w fun e w' => e = .returned (.string ⟨l.toArray⟩) ∧ (Lib.IsBuilderF 99 5 B b (Lib.byteCells l) w' ∧ Below B w w' ∧ Lib.OthersKept 5 (some b) w w') := Any.Builder_String_k Tryz.lays169 Tryz.Builder_Extra_169 B b l w h h0
def Tryz.lays172_ren : Go.Shelf.Ren := ⟨fun | 172 => 42 | 244 => 66 | 245 => 67 | 247 => 189 | 279 => 190 | 280 => 191 | 281 => 192 | 282 => 193 | 287 => 294 | 316 => 295 | 171 => 23 | 205 => 296 | 321 => 335 | 322 => 336 | 243 => 41 | 246 => 65 | 283 => 185 | 284 => 186 | 285 => 187 | 286 => 188 | 129 => 290 | 317 => 289 | 318 => 291 | 319 => 292 | 320 => 293 | 337 => 333 | 338 => 334 | n => n, fun | 9 => 9 | 3 => 3 | 75 => 66 | 76 => 67 | 4 => 4 | 5 => 5 | 167 => 147 | 37 => 97 | 0 => 0 | 85 => 148 | 2 => 2 | 168 => 150 | 53 => 137 | 175 => 202 | 46 => 200 | 210 => 205 | 127 => 154 | 145 => 246 | 143 => 244 | 21 => 21 | 171 => 142 | 173 => 145 | 212 => 198 | 51 => 69 | 20 => 20 | 213 => 199 | 232 => 270 | 233 => 271 | 80 => 75 | n => n, fun | 15 => 3 | 16 => 4 | 17 => 2 | 18 => 7 | 19 => 8 | n => n⟩
theorem Tryz.lays172 : Go.Proofs.Lays.n172 Tryz.prog Tryz.lays172_ren := {
  mixed := by kernel_rfl
  f129 := Tryz.func290.trans (congrArg some (by kernel_rfl))
  f171 := Tryz.func23.trans (congrArg some (by kernel_rfl))
  f172 := Tryz.func42.trans (congrArg some (by kernel_rfl))
  f205 := Tryz.func296.trans (congrArg some (by kernel_rfl))
  f243 := Tryz.func41.trans (congrArg some (by kernel_rfl))
  f244 := Tryz.func66.trans (congrArg some (by kernel_rfl))
  f245 := Tryz.func67.trans (congrArg some (by kernel_rfl))
  f246 := Tryz.func65.trans (congrArg some (by kernel_rfl))
  f247 := Tryz.func189.trans (congrArg some (by kernel_rfl))
  f279 := Tryz.func190.trans (congrArg some (by kernel_rfl))
  f280 := Tryz.func191.trans (congrArg some (by kernel_rfl))
  f281 := Tryz.func192.trans (congrArg some (by kernel_rfl))
  f282 := Tryz.func193.trans (congrArg some (by kernel_rfl))
  f283 := Tryz.func185.trans (congrArg some (by kernel_rfl))
  f284 := Tryz.func186.trans (congrArg some (by kernel_rfl))
  f285 := Tryz.func187.trans (congrArg some (by kernel_rfl))
  f286 := Tryz.func188.trans (congrArg some (by kernel_rfl))
  f287 := Tryz.func294.trans (congrArg some (by kernel_rfl))
  f316 := Tryz.func295.trans (congrArg some (by kernel_rfl))
  f317 := Tryz.func289.trans (congrArg some (by kernel_rfl))
  f318 := Tryz.func291.trans (congrArg some (by kernel_rfl))
  f319 := Tryz.func292.trans (congrArg some (by kernel_rfl))
  f320 := Tryz.func293.trans (congrArg some (by kernel_rfl))
  f321 := Tryz.func335.trans (congrArg some (by kernel_rfl))
  f322 := Tryz.func336.trans (congrArg some (by kernel_rfl))
  f337 := Tryz.func333.trans (congrArg some (by kernel_rfl))
  f338 := Tryz.func334.trans (congrArg some (by kernel_rfl))
  t0 := Tryz.underlying0
  a0 := Tryz.isAgg0
  z0 := Tryz.sizeOf0
  v0 := Tryz.zeroValue0
  t2 := Tryz.underlying2
  a2 := Tryz.isAgg2
  z2 := Tryz.sizeOf2
  v2 := Tryz.zeroValue2
  t3 := Tryz.underlying3
  a3 := Tryz.isAgg3
  z3 := Tryz.sizeOf3
  v3 := Tryz.zeroValue3
  t4 := Tryz.underlying4
  a4 := Tryz.isAgg4
  z4 := Tryz.sizeOf4
  v4 := Tryz.zeroValue4
  t5 := Tryz.underlying5
  a5 := Tryz.isAgg5
  z5 := Tryz.sizeOf5
  v5 := Tryz.zeroValue5
  t9 := Tryz.underlying9
  a9 := Tryz.isAgg9
  z9 := Tryz.sizeOf9
  v9 := Tryz.zeroValue9
  t20 := Tryz.underlying20
  a20 := Tryz.isAgg20
  z20 := Tryz.sizeOf20
  v20 := Tryz.zeroValue20
  t21 := Tryz.underlying21
  a21 := Tryz.isAgg21
  z21 := Tryz.sizeOf21
  v21 := Tryz.zeroValue21
  t37 := Tryz.underlying97
  a37 := Tryz.isAgg97
  z37 := Tryz.sizeOf97
  v37 := Tryz.zeroValue97
  t46 := Tryz.underlying200
  a46 := Tryz.isAgg200
  z46 := Tryz.sizeOf200
  v46 := Tryz.zeroValue200
  t51 := Tryz.underlying69
  a51 := Tryz.isAgg69
  z51 := Tryz.sizeOf69
  v51 := Tryz.zeroValue69
  t53 := Tryz.underlying137
  a53 := Tryz.isAgg137
  z53 := Tryz.sizeOf137
  v53 := Tryz.zeroValue137
  t75 := Tryz.underlying66
  a75 := Tryz.isAgg66
  z75 := Tryz.sizeOf66
  v75 := Tryz.zeroValue66
  t76 := Tryz.underlying67
  a76 := Tryz.isAgg67
  z76 := Tryz.sizeOf67
  v76 := Tryz.zeroValue67
  t85 := Tryz.underlying148
  a85 := Tryz.isAgg148
  z85 := Tryz.sizeOf148
  v85 := Tryz.zeroValue148
  t127 := Tryz.underlying154
  a127 := Tryz.isAgg154
  z127 := Tryz.sizeOf154
  v127 := Tryz.zeroValue154
  t143 := Tryz.underlying244
  a143 := Tryz.isAgg244
  z143 := Tryz.sizeOf244
  v143 := Tryz.zeroValue244
  t145 := Tryz.underlying246
  a145 := Tryz.isAgg246
  z145 := Tryz.sizeOf246
  v145 := Tryz.zeroValue246
  t167 := Tryz.underlying147
  a167 := Tryz.isAgg147
  z167 := Tryz.sizeOf147
  v167 := Tryz.zeroValue147
  t168 := Tryz.underlying150
  a168 := Tryz.isAgg150
  z168 := Tryz.sizeOf150
  v168 := Tryz.zeroValue150
  t171 := Tryz.underlying142
  a171 := Tryz.isAgg142
  z171 := Tryz.sizeOf142
  v171 := Tryz.zeroValue142
  t173 := Tryz.underlying145
  a173 := Tryz.isAgg145
  z173 := Tryz.sizeOf145
  v173 := Tryz.zeroValue145
  t175 := Tryz.underlying202
  a175 := Tryz.isAgg202
  z175 := Tryz.sizeOf202
  v175 := Tryz.zeroValue202
  t210 := Tryz.underlying205
  a210 := Tryz.isAgg205
  z210 := Tryz.sizeOf205
  v210 := Tryz.zeroValue205
  t212 := Tryz.underlying198
  a212 := Tryz.isAgg198
  z212 := Tryz.sizeOf198
  v212 := Tryz.zeroValue198
  t213 := Tryz.underlying199
  a213 := Tryz.isAgg199
  z213 := Tryz.sizeOf199
  t232 := Tryz.underlying270
  a232 := Tryz.isAgg270
  z232 := Tryz.sizeOf270
  v232 := Tryz.zeroValue270
  t233 := Tryz.underlying271
  a233 := Tryz.isAgg271
  z233 := Tryz.sizeOf271
  v233 := Tryz.zeroValue271
  g15 := by kernel_rfl
  g16 := by kernel_rfl
  g17 := by kernel_rfl
  g18 := by kernel_rfl
  g19 := by kernel_rfl }
open Go.RowKit in
/-- strconv.Atoi: "Atoi is equivalent to ParseInt(s, 10, 0), converted to type int.": AT A DECIMAL NUMERAL OF AT MOST 18 BYTES: its value, and a nil error. The world behind the call: the one new row that the library's '[]byte(s)' lays. (LAID: no walk: one application.) -/
theorem Tryz.strconv_Atoi (s : ByteArray) (n : Int) (hl : s.size ≤ 18) (h : Lib.atoi s.data.toList = some n) (w : World) :
    Calls Tryz.prog 42 #[.string s] w fun e w' => e = .returned (.tuple #[.int .i64 n, .nilIface]) ∧ ∃ t, w' = Lib.bytesWorld w 5 t := Any.strconv_Atoi Tryz.lays172 s n hl h w
def Tryz.laysM171_ren : Go.Shelf.Ren := ⟨fun | 171 => 23 | 243 => 41 | 246 => 65 | 283 => 185 | 284 => 186 | 285 => 187 | 286 => 188 | 129 => 290 | 317 => 289 | 318 => 291 | 319 => 292 | 320 => 293 | 337 => 333 | 338 => 334 | n => n, fun | 3 => 3 | 9 => 9 | 2 => 2 | 4 => 4 | 171 => 142 | 0 => 0 | 53 => 137 | 37 => 97 | 5 => 5 | 173 => 145 | 212 => 198 | 51 => 69 | 20 => 20 | 213 => 199 | 46 => 200 | 232 => 270 | 233 => 271 | n => n, fun | 17 => 2 | 18 => 7 | 19 => 8 | n => n⟩
theorem Tryz.laysM171 : Go.Proofs.LaysM.n171 Tryz.prog Tryz.laysM171_ren := {
  mixed := by kernel_rfl
  f129 := Tryz.func290.trans (congrArg some (by kernel_rfl))
  f171 := Tryz.func23.trans (congrArg some (by kernel_rfl))
  f243 := Tryz.func41.trans (congrArg some (by kernel_rfl))
  f246 := Tryz.func65.trans (congrArg some (by kernel_rfl))
  f283 := Tryz.func185.trans (congrArg some (by kernel_rfl))
  f284 := Tryz.func186.trans (congrArg some (by kernel_rfl))
  f285 := Tryz.func187.trans (congrArg some (by kernel_rfl))
  f286 := Tryz.func188.trans (congrArg some (by kernel_rfl))
  f317 := Tryz.func289.trans (congrArg some (by kernel_rfl))
  f318 := Tryz.func291.trans (congrArg some (by kernel_rfl))
  f319 := Tryz.func292.trans (congrArg some (by kernel_rfl))
  f320 := Tryz.func293.trans (congrArg some (by kernel_rfl))
  f337 := Tryz.func333.trans (congrArg some (by kernel_rfl))
  f338 := Tryz.func334.trans (congrArg some (by kernel_rfl))
  t0 := Tryz.underlying0
  a0 := Tryz.isAgg0
  z0 := Tryz.sizeOf0
  v0 := Tryz.zeroValue0
  t2 := Tryz.underlying2
  a2 := Tryz.isAgg2
  z2 := Tryz.sizeOf2
  v2 := Tryz.zeroValue2
  t3 := Tryz.underlying3
  a3 := Tryz.isAgg3
  z3 := Tryz.sizeOf3
  v3 := Tryz.zeroValue3
  t4 := Tryz.underlying4
  a4 := Tryz.isAgg4
  z4 := Tryz.sizeOf4
  v4 := Tryz.zeroValue4
  t5 := Tryz.underlying5
  a5 := Tryz.isAgg5
  z5 := Tryz.sizeOf5
  v5 := Tryz.zeroValue5
  t9 := Tryz.underlying9
  a9 := Tryz.isAgg9
  z9 := Tryz.sizeOf9
  v9 := Tryz.zeroValue9
  t20 := Tryz.underlying20
  a20 := Tryz.isAgg20
  z20 := Tryz.sizeOf20
  v20 := Tryz.zeroValue20
  t37 := Tryz.underlying97
  a37 := Tryz.isAgg97
  z37 := Tryz.sizeOf97
  v37 := Tryz.zeroValue97
  t46 := Tryz.underlying200
  a46 := Tryz.isAgg200
  z46 := Tryz.sizeOf200
  v46 := Tryz.zeroValue200
  t51 := Tryz.underlying69
  a51 := Tryz.isAgg69
  z51 := Tryz.sizeOf69
  v51 := Tryz.zeroValue69
  t53 := Tryz.underlying137
  a53 := Tryz.isAgg137
  z53 := Tryz.sizeOf137
  v53 := Tryz.zeroValue137
  t171 := Tryz.underlying142
  a171 := Tryz.isAgg142
  z171 := Tryz.sizeOf142
  v171 := Tryz.zeroValue142
  t173 := Tryz.underlying145
  a173 := Tryz.isAgg145
  z173 := Tryz.sizeOf145
  v173 := Tryz.zeroValue145
  t212 := Tryz.underlying198
  a212 := Tryz.isAgg198
  z212 := Tryz.sizeOf198
  v212 := Tryz.zeroValue198
  t213 := Tryz.underlying199
  a213 := Tryz.isAgg199
  z213 := Tryz.sizeOf199
  t232 := Tryz.underlying270
  a232 := Tryz.isAgg270
  z232 := Tryz.sizeOf270
  v232 := Tryz.zeroValue270
  t233 := Tryz.underlying271
  a233 := Tryz.isAgg271
  z233 := Tryz.sizeOf271
  v233 := Tryz.zeroValue271
  g17 := by kernel_rfl
  g18 := by kernel_rfl
  g19 := by kernel_rfl
  i0 := by kernel_rfl
  i2 := by kernel_rfl
  i3 := by kernel_rfl
  i4 := by kernel_rfl
  i5 := by kernel_rfl
  i9 := by kernel_rfl
  i20 := by kernel_rfl
  i37 := by kernel_rfl
  i46 := by kernel_rfl
  i51 := by kernel_rfl
  i53 := by kernel_rfl
  i171 := by kernel_rfl
  i173 := by kernel_rfl
  i212 := by kernel_rfl
  i232 := by kernel_rfl
  i233 := by kernel_rfl
  m17 := by kernel_rfl
  m18 := by kernel_rfl
  m19 := by kernel_rfl }
open Go.RowKit Go.Sort Go.Lib in
/-- strconv.Itoa: "Itoa is equivalent to FormatInt(int64(i), 10).": i's DECIMAL NUMERAL ('Lib.itoa': a '-' where i is negative, then the digits), FOR EVERY int. The world behind the call: the world before it, new blocks behind the heap (the library's 'var a [24]byte'), draws. (LAID: no walk: one application.) -/
theorem Tryz.strconv_Itoa (n : Int) (h0 : -9223372036854775808 ≤ n) (h1 : n ≤ 9223372036854775807) (w : World) (htab : Lib.TabIs Tryz.prog w "internal/strconv.uint64pow10" .u64 Lib.pow10Tab) :
    Calls Tryz.prog 23 #[.int .i64 n] w fun e w' => e = .returned (.string ⟨(Lib.itoa n).toArray⟩) ∧ ∃ k os, w' = grow (w.drewN k) os := Any.strconv_Itoa Tryz.laysM171 n h0 h1 w htab
def Tryz.lays189_ren : Go.Shelf.Ren := ⟨fun | 189 => 330 | 125 => 362 | 257 => 361 | 128 => 392 | 129 => 290 | 294 => 384 | 295 => 385 | 296 => 386 | 297 => 387 | 298 => 388 | 299 => 389 | 216 => 363 | 300 => 390 | 301 => 391 | 328 => 407 | 329 => 408 | 330 => 409 | 331 => 410 | 332 => 411 | 215 => 53 | 343 => 421 | n => n, fun | 28 => 37 | 3 => 3 | 46 => 200 | 0 => 0 | 51 => 69 | 53 => 137 | 4 => 4 | 183 => 284 | 182 => 283 | 131 => 229 | 5 => 5 | 9 => 9 | 218 => 299 | 222 => 303 | 228 => 310 | 229 => 181 | n => n, fun | n => n⟩
theorem Tryz.lays189 : Go.Proofs.Lays.n189 Tryz.prog Tryz.lays189_ren := {
  mixed := by kernel_rfl
  f125 := Tryz.func362.trans (congrArg some (by kernel_rfl))
  f128 := Tryz.func392.trans (congrArg some (by kernel_rfl))
  f129 := Tryz.func290.trans (congrArg some (by kernel_rfl))
  f189 := Tryz.func330.trans (congrArg some (by kernel_rfl))
  f215 := Tryz.func53.trans (congrArg some (by kernel_rfl))
  f216 := Tryz.func363.trans (congrArg some (by kernel_rfl))
  f257 := Tryz.func361.trans (congrArg some (by kernel_rfl))
  f294 := Tryz.func384.trans (congrArg some (by kernel_rfl))
  f295 := Tryz.func385.trans (congrArg some (by kernel_rfl))
  f296 := Tryz.func386.trans (congrArg some (by kernel_rfl))
  f297 := Tryz.func387.trans (congrArg some (by kernel_rfl))
  f298 := Tryz.func388.trans (congrArg some (by kernel_rfl))
  f299 := Tryz.func389.trans (congrArg some (by kernel_rfl))
  f300 := Tryz.func390.trans (congrArg some (by kernel_rfl))
  f301 := Tryz.func391.trans (congrArg some (by kernel_rfl))
  f328 := Tryz.func407.trans (congrArg some (by kernel_rfl))
  f329 := Tryz.func408.trans (congrArg some (by kernel_rfl))
  f330 := Tryz.func409.trans (congrArg some (by kernel_rfl))
  f331 := Tryz.func410.trans (congrArg some (by kernel_rfl))
  f332 := Tryz.func411.trans (congrArg some (by kernel_rfl))
  f343 := Tryz.func421.trans (congrArg some (by kernel_rfl))
  t0 := Tryz.underlying0
  a0 := Tryz.isAgg0
  z0 := Tryz.sizeOf0
  v0 := Tryz.zeroValue0
  t3 := Tryz.underlying3
  a3 := Tryz.isAgg3
  z3 := Tryz.sizeOf3
  v3 := Tryz.zeroValue3
  t4 := Tryz.underlying4
  a4 := Tryz.isAgg4
  z4 := Tryz.sizeOf4
  v4 := Tryz.zeroValue4
  t5 := Tryz.underlying5
  a5 := Tryz.isAgg5
  z5 := Tryz.sizeOf5
  v5 := Tryz.zeroValue5
  t9 := Tryz.underlying9
  a9 := Tryz.isAgg9
  z9 := Tryz.sizeOf9
  v9 := Tryz.zeroValue9
  t28 := Tryz.underlying37
  a28 := Tryz.isAgg37
  z28 := Tryz.sizeOf37
  v28 := Tryz.zeroValue37
  t46 := Tryz.underlying200
  a46 := Tryz.isAgg200
  z46 := Tryz.sizeOf200
  v46 := Tryz.zeroValue200
  t51 := Tryz.underlying69
  a51 := Tryz.isAgg69
  z51 := Tryz.sizeOf69
  v51 := Tryz.zeroValue69
  t53 := Tryz.underlying137
  a53 := Tryz.isAgg137
  z53 := Tryz.sizeOf137
  v53 := Tryz.zeroValue137
  t131 := Tryz.underlying229
  a131 := Tryz.isAgg229
  z131 := Tryz.sizeOf229
  v131 := Tryz.zeroValue229
  t182 := Tryz.underlying283
  a182 := Tryz.isAgg283
  z182 := Tryz.sizeOf283
  v182 := Tryz.zeroValue283
  t183 := Tryz.underlying284
  a183 := Tryz.isAgg284
  z183 := Tryz.sizeOf284
  v183 := Tryz.zeroValue284
  t218 := Tryz.underlying299
  a218 := Tryz.isAgg299
  z218 := Tryz.sizeOf299
  v218 := Tryz.zeroValue299
  t222 := Tryz.underlying303
  a222 := Tryz.isAgg303
  z222 := Tryz.sizeOf303
  v222 := Tryz.zeroValue303
  t228 := Tryz.underlying310
  a228 := Tryz.isAgg310
  z228 := Tryz.sizeOf310
  v228 := Tryz.zeroValue310
  t229 := Tryz.underlying181
  a229 := Tryz.isAgg181
  z229 := Tryz.sizeOf181
  v229 := Tryz.zeroValue181 }
open Go.Sort Go.RowKit in
theorem Tryz.slices_Sort_int (blk off cap : Nat) (zs : List Int) (w : World) (hH : Holds (Value.int .i64) w blk off zs.toArray) (hblk : blk < w.heap.size) (hsz : zs.length < 4611686018427387904) :
    Calls Tryz.prog 330 #[.slice (some ⟨blk, off, none⟩) zs.length cap] w fun e w' =>
      e = .returned (.tuple #[]) ∧ ∃ n os, w' = grow (putRow (Value.int .i64) (Sort.ahead w n) blk off (zs.mergeSort fun x y => decide (x ≤ y)).toArray) os := Any.slices_Sort_int Tryz.lays189 blk off cap zs w hH hblk hsz
def Tryz.lays105_ren : Go.Shelf.Ren := ⟨fun | 105 => 320 | 212 => 344 | 99 => 345 | 165 => 346 | 166 => 70 | 170 => 347 | 169 => 71 | 263 => 370 | 264 => 371 | 206 => 64 | 240 => 195 | 241 => 372 | 276 => 297 | 277 => 395 | n => n, fun | 9 => 9 | 3 => 3 | 4 => 4 | 20 => 20 | 0 => 0 | 46 => 200 | 109 => 255 | 5 => 5 | 72 => 99 | 76 => 67 | 51 => 69 | 146 => 272 | 53 => 137 | 148 => 274 | 70 => 96 | 37 => 97 | 75 => 66 | 127 => 154 | 164 => 207 | 80 => 75 | n => n, fun | n => n⟩
theorem Tryz.lays105 : Go.Proofs.Lays.n105 Tryz.prog Tryz.lays105_ren := {
  mixed := by kernel_rfl
  f99 := Tryz.func345.trans (congrArg some (by kernel_rfl))
  f105 := Tryz.func320.trans (congrArg some (by kernel_rfl))
  f165 := Tryz.func346.trans (congrArg some (by kernel_rfl))
  f166 := Tryz.func70.trans (congrArg some (by kernel_rfl))
  f169 := Tryz.func71.trans (congrArg some (by kernel_rfl))
  f170 := Tryz.func347.trans (congrArg some (by kernel_rfl))
  f206 := Tryz.func64.trans (congrArg some (by kernel_rfl))
  f212 := Tryz.func344.trans (congrArg some (by kernel_rfl))
  f240 := Tryz.func195.trans (congrArg some (by kernel_rfl))
  f241 := Tryz.func372.trans (congrArg some (by kernel_rfl))
  f263 := Tryz.func370.trans (congrArg some (by kernel_rfl))
  f264 := Tryz.func371.trans (congrArg some (by kernel_rfl))
  f276 := Tryz.func297.trans (congrArg some (by kernel_rfl))
  f277 := Tryz.func395.trans (congrArg some (by kernel_rfl))
  t0 := Tryz.underlying0
  a0 := Tryz.isAgg0
  z0 := Tryz.sizeOf0
  v0 := Tryz.zeroValue0
  t3 := Tryz.underlying3
  a3 := Tryz.isAgg3
  z3 := Tryz.sizeOf3
  v3 := Tryz.zeroValue3
  t4 := Tryz.underlying4
  a4 := Tryz.isAgg4
  z4 := Tryz.sizeOf4
  v4 := Tryz.zeroValue4
  t5 := Tryz.underlying5
  a5 := Tryz.isAgg5
  z5 := Tryz.sizeOf5
  v5 := Tryz.zeroValue5
  t9 := Tryz.underlying9
  a9 := Tryz.isAgg9
  z9 := Tryz.sizeOf9
  v9 := Tryz.zeroValue9
  t20 := Tryz.underlying20
  a20 := Tryz.isAgg20
  z20 := Tryz.sizeOf20
  v20 := Tryz.zeroValue20
  t37 := Tryz.underlying97
  a37 := Tryz.isAgg97
  z37 := Tryz.sizeOf97
  v37 := Tryz.zeroValue97
  t46 := Tryz.underlying200
  a46 := Tryz.isAgg200
  z46 := Tryz.sizeOf200
  v46 := Tryz.zeroValue200
  t51 := Tryz.underlying69
  a51 := Tryz.isAgg69
  z51 := Tryz.sizeOf69
  v51 := Tryz.zeroValue69
  t53 := Tryz.underlying137
  a53 := Tryz.isAgg137
  z53 := Tryz.sizeOf137
  v53 := Tryz.zeroValue137
  t70 := Tryz.underlying96
  a70 := Tryz.isAgg96
  z70 := Tryz.sizeOf96
  v70 := Tryz.zeroValue96
  t72 := Tryz.underlying99
  a72 := Tryz.isAgg99
  z72 := Tryz.sizeOf99
  v72 := Tryz.zeroValue99
  t75 := Tryz.underlying66
  a75 := Tryz.isAgg66
  z75 := Tryz.sizeOf66
  v75 := Tryz.zeroValue66
  t76 := Tryz.underlying67
  a76 := Tryz.isAgg67
  z76 := Tryz.sizeOf67
  v76 := Tryz.zeroValue67
  t109 := Tryz.underlying255
  a109 := Tryz.isAgg255
  z109 := Tryz.sizeOf255
  v109 := Tryz.zeroValue255
  t127 := Tryz.underlying154
  a127 := Tryz.isAgg154
  z127 := Tryz.sizeOf154
  v127 := Tryz.zeroValue154
  t146 := Tryz.underlying272
  a146 := Tryz.isAgg272
  z146 := Tryz.sizeOf272
  v146 := Tryz.zeroValue272
  t148 := Tryz.underlying274
  a148 := Tryz.isAgg274
  z148 := Tryz.sizeOf274
  v148 := Tryz.zeroValue274
  t164 := Tryz.underlying207
  a164 := Tryz.isAgg207
  z164 := Tryz.sizeOf207
  v164 := Tryz.zeroValue207 }
theorem Tryz.Builder_Extra_105 : Builder.Extra Tryz.prog Tryz.lays105_ren := {
  sizeBuilder := by kernel_rfl
  liesBuilder := by kernel_rfl
  t5 := Tryz.underlying5
  a5 := Tryz.isAgg5
  z5 := Tryz.sizeOf5
  v5 := Tryz.zeroValue5
  infoByte := by kernel_rfl
  cellsByte := by kernel_rfl
  sizeByte := by kernel_rfl
  neB5 := by decide }
open Go.RowKit Go.Lib in
/-- **strings.Repeat: count ≥ 0, the result within one allocation: count copies of s.** (LAID: no walk: one application.) -/
theorem Tryz.strings_Repeat (s : ByteArray) (c : Nat) (w : World) (hc : c ≤ 9223372036854775807) (hlen : s.size * c ≤ 140737488355328) :
    Calls Tryz.prog 320 #[.string s, .int .i64 c] w fun e w' => e = .returned (.string ⟨(Lib.repeatL s.data.toList c).toArray⟩) ∧ Below w.heap.size w w' := Any.strings_Repeat Tryz.lays105 Tryz.Builder_Extra_105 s c w hc hlen
def Tryz.laysNm220_ren : Go.Shelf.Ren := ⟨fun | 20 => 331 | n => n, fun | 22 => 37 | 3 => 3 | 4 => 4 | 0 => 0 | n => n, fun | n => n⟩
theorem Tryz.laysNm220 : Go.Proofs.Lays2.n20 Tryz.prog Tryz.laysNm220_ren := {
  mixed := by kernel_rfl
  f20 := Tryz.func331.trans (congrArg some (by kernel_rfl))
  t0 := Tryz.underlying0
  a0 := Tryz.isAgg0
  z0 := Tryz.sizeOf0
  v0 := Tryz.zeroValue0
  t3 := Tryz.underlying3
  a3 := Tryz.isAgg3
  z3 := Tryz.sizeOf3
  v3 := Tryz.zeroValue3
  t4 := Tryz.underlying4
  a4 := Tryz.isAgg4
  z4 := Tryz.sizeOf4
  v4 := Tryz.zeroValue4
  t22 := Tryz.underlying37
  a22 := Tryz.isAgg37
  z22 := Tryz.sizeOf37
  v22 := Tryz.zeroValue37
  i3 := by kernel_rfl }
open Go.RowKit Go.Lib Go.Sort in
/-- slices.Compact at []int: "Compact replaces consecutive runs of equal elements with a single copy. This is like the uniq command found on Unix. Compact modifies the contents of the slice s and returns the modified slice, which may have a smaller length. Compact zeroes the elements between the new length and the original length. The result preserves the nilness of s.": IT RETURNS THE SLICE CUT TO 'Lib.compact zs'; ITS CELLS HOLD 'Lib.compact zs', THEN ZERO VALUES up to the old length; all else is as it was, but for the count of draws. IN THE WORDS OF slices.Sort's CONTRACT ('Holds', 'putRow'): so the everyday 'slices.Sort(xs); xs = slices.Compact(xs)' goes from the one contract to the other. It asks 'zs.length ≤ cap' (every slice's: the reslicing 's[:k]' looks at it). Length 0, nil: '.._empty'. (LAID: no walk: one application.) -/
theorem Tryz.slices_Compact_int (blk off cap : Nat) (zs : List Int) (w : World) (hH : Holds (Value.int .i64) w blk off zs.toArray) (hsz : zs.length ≤ 9223372036854775807) (hcap : zs.length ≤ cap) :
    Calls Tryz.prog 331 #[.slice (some ⟨blk, off, none⟩) zs.length cap] w fun e w' => e = .returned (.slice (some ⟨blk, off, none⟩) (Lib.compact zs).length cap) ∧ ∃ q, w' = putRow (Value.int .i64) (Sort.ahead w q) blk off (Lib.compact zs ++ List.replicate (zs.length - (Lib.compact zs).length) 0).toArray := Any.slices_Compact_int Tryz.laysNm220 blk off cap zs w hH hsz hcap
open Go.RowKit Go.Lib Go.Sort in
/-- The same at a slice of length 0, a nil one too: it comes back as it is. (LAID: no walk: one application.) -/
theorem Tryz.slices_Compact_int_empty (a : Option Addr) (cap : Nat) (w : World) :
    Calls Tryz.prog 331 #[.slice a 0 cap] w fun e w' => e = .returned (.slice a 0 cap) ∧ w' = w := Any.slices_Compact_int_empty Tryz.laysNm220 a cap w
def Tryz.laysNm225_ren : Go.Shelf.Ren := ⟨fun | 25 => 332 | 31 => 363 | 32 => 364 | 37 => 53 | n => n, fun | 22 => 37 | 3 => 3 | 4 => 4 | 40 => 200 | 0 => 0 | n => n, fun | n => n⟩
theorem Tryz.laysNm225 : Go.Proofs.Lays2.n25 Tryz.prog Tryz.laysNm225_ren := {
  mixed := by kernel_rfl
  f25 := Tryz.func332.trans (congrArg some (by kernel_rfl))
  f31 := Tryz.func363.trans (congrArg some (by kernel_rfl))
  f32 := Tryz.func364.trans (congrArg some (by kernel_rfl))
  f37 := Tryz.func53.trans (congrArg some (by kernel_rfl))
  t0 := Tryz.underlying0
  a0 := Tryz.isAgg0
  z0 := Tryz.sizeOf0
  v0 := Tryz.zeroValue0
  t3 := Tryz.underlying3
  a3 := Tryz.isAgg3
  z3 := Tryz.sizeOf3
  v3 := Tryz.zeroValue3
  t4 := Tryz.underlying4
  a4 := Tryz.isAgg4
  z4 := Tryz.sizeOf4
  v4 := Tryz.zeroValue4
  t22 := Tryz.underlying37
  a22 := Tryz.isAgg37
  z22 := Tryz.sizeOf37
  v22 := Tryz.zeroValue37
  t40 := Tryz.underlying200
  a40 := Tryz.isAgg200
  z40 := Tryz.sizeOf200
  v40 := Tryz.zeroValue200 }
open Go.RowKit Go.Lib in
/-- slices.BinarySearch at []int: "BinarySearch searches for target in a sorted slice and returns the earliest position where target is found, or the position where target would appear in the sort order; it also returns a bool saying whether the target is really found in the slice. The slice must be sorted in increasing order.": OF A SORTED SLICE IT RETURNS how many elements are less than the target, and whether the target is among the elements; the world is as it was but for the count of draws. 'zs': what the cells behind the slice's address hold; 'zs.take n': its elements. (Of a slice that is not sorted: no contract here.) (LAID: no walk: one application.) -/
theorem Tryz.slices_BinarySearch_int (b off n c : Nat) (zs : List Int) (x : Int) (w : World) (hz : n ≤ zs.length) (hbig : n < 4611686018427387904) (hc : ∀ j, j < zs.length → w.cell? ⟨b, off + j, none⟩ = some (.int .i64 (zs.getD j 0))) (hs : (zs.take n).Pairwise (· ≤ ·)) :
    Calls Tryz.prog 332 #[.slice (some ⟨b, off, none⟩) n c, .int .i64 x] w fun e w' => e = .returned (.tuple #[.int .i64 ((zs.take n).countP (· < x) : Nat), .bool ((zs.take n).contains x)]) ∧ ∃ q, w' = w.drewN q := Any.slices_BinarySearch_int Tryz.laysNm225 b off n c zs x w hz hbig hc hs
open Go.RowKit Go.Sort in
/-- .. and plain. (LAID: no walk: one application.) -/
theorem Tryz.slices_Sort_int_none (p : Option Addr) (cap : Nat) (w : World) :
    Calls Tryz.prog 330 #[.slice p 0 cap] w fun e w' => e = .returned (.tuple #[]) ∧ w' = w := Any.slices_Sort_int_none Tryz.lays189 p cap w
open Go.RowKit Go.Lib in
/-- slices.BinarySearch at []int of no element: position 0, not found; the world is as it was. (LAID: no walk: one application.) -/
theorem Tryz.slices_BinarySearch_int_empty (a : Option Addr) (c : Nat) (x : Int) (w : World) :
    Calls Tryz.prog 332 #[.slice a 0 c, .int .i64 x] w fun e w' => e = .returned (.tuple #[.int .i64 0, .bool false]) ∧ w' = w := Any.slices_BinarySearch_int_empty Tryz.laysNm225 a c x w
end Go.Proofs
