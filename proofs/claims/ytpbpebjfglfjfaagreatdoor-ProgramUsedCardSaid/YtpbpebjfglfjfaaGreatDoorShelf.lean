/-
  DERIVED: THE SHELF's CONTRACTS AT THIS DUMP, IN PLAIN WORDS (tools/lay-plain.mjs out of 'TryzCutShelf.lean', which tools/lay-shelf.mjs wrote): THE SAME DECLARATIONS UNDER THE SAME NAMES: 'import', 'namespace', 'open', 'def', 'theorem' AND NOTHING ELSE: no command of the shelf's: FOR A HAND-IN. Each laying: the table of numbers ('.._ren') and one theorem, a field a fact of the dump's own or the kernel's comparison; each contract: ONE APPLICATION.
-/
import Derived.Shelf.Strings.Builder1
import Derived.Shelf.Strings.Builder2
import Derived.Shelf.Small.Strs
import Derived.Shelf.Strconv.ParseIntEmpty
import Derived.Shelf.LaysM
import Derived.Shelf.Strconv.Clone
import Derived.Shelf.Strconv.SyntaxError
import Derived.Shelf.LaysC
import Derived.Shelf.Strconv.ToError
import Derived.Shelf.Strconv.Lower
import Derived.Shelf.Strconv.ParseUint10
import Derived.Shelf.Strconv.ParseUint10Empty
import Derived.Shelf.Strconv.ParseUint10Any
import Derived.Shelf.Strconv.ParseInt10
import Derived.Shelf.Strconv.RangeError
import Derived.Shelf.Strconv.ToErrorRange
import Derived.Shelf.Strconv.ParseUintEmpty
import Derived.Shelf.Strconv.ParseUint10b64
import Derived.Shelf.Strconv.ParseUint10b32
import Derived.Shelf.Strconv.ParseUint10b16
import Derived.Shelf.Strconv.ParseUint10b8
import Derived.Shelf.Strconv.ParseUint10At
import Derived.Shelf.Strconv.ParseInt10At64
import Derived.Shelf.Strconv.ParseInt10At32
import Derived.Shelf.Strconv.ParseInt10At16
import Derived.Shelf.Strconv.ParseInt10At8
import Derived.Shelf.Strconv.ParseInt10All
import Derived.Shelf.Strconv.ParseIntPublic10
import Derived.Shelf.Strings.Search1
import Derived.Shelf.Strings.Search2
import Derived.Shelf.Strings.Search3
import Derived.Shelf.Strings.Cut
import Derived.Shelf.Strings.Count
import Derived.Shelf.Strings.Shaped
import Derived.Shelf.Sort.Plain
import Derived.Shelf.Strings.Prefix
import Derived.Shelf.Strings.Split
import Derived.Shelf.Strings.Fields
import Derived.Shelf.Strings.Replace
import Derived.Shelf.Strings.SplitShaped
import Derived.Shelf.Unicode.Latin
import Derived.Shelf.Unicode.DecodeSlow
import Derived.Shelf.Unicode.Is16White
import Derived.Shelf.Unicode.IsSpaceAny
import Derived.Shelf.Unicode.Is16Any
import Derived.Shelf.Unicode.Is32Any
import Derived.Shelf.Unicode.ExclAny
import Derived.Shelf.Slices.CompactS
import Derived.Shelf.Slices.In.SortNone
import Derived.Test.YtpbpebjfglfjfaaGreatDoorProg
namespace Go.Proofs
open Go.Shelf
def Tryz.laysC174_ren : Go.Shelf.Ren := ⟨fun | 174 => 217 | 247 => 237 | 245 => 238 | 287 => 250 | 279 => 251 | 280 => 252 | 281 => 253 | 282 => 254 | 321 => 259 | 322 => 260 | 316 => 261 | 171 => 263 | 205 => 262 | 243 => 266 | 246 => 267 | 283 => 268 | 284 => 269 | 285 => 270 | 286 => 271 | 129 => 180 | 317 => 272 | 318 => 273 | 319 => 274 | 320 => 275 | 337 => 276 | 338 => 277 | n => n, fun | 9 => 9 | 3 => 3 | 2 => 2 | 75 => 240 | 85 => 241 | 4 => 4 | 167 => 285 | 5 => 5 | 53 => 210 | 175 => 286 | 46 => 183 | 168 => 288 | 37 => 279 | 0 => 0 | 210 => 297 | 21 => 21 | 127 => 294 | 145 => 305 | 143 => 303 | 171 => 307 | 173 => 309 | 212 => 312 | 51 => 208 | 20 => 20 | 213 => 313 | 232 => 314 | 233 => 315 | 80 => 76 | n => n, fun | 15 => 5 | 16 => 6 | 17 => 7 | 18 => 8 | 19 => 9 | n => n⟩
theorem Tryz.laysC174 : Go.Proofs.LaysC.n174 Tryz.prog Tryz.laysC174_ren := {
  mixed := by kernel_rfl
  f129 := Tryz.func180.trans (congrArg some (by kernel_rfl))
  f171 := Tryz.func263.trans (congrArg some (by kernel_rfl))
  f174 := Tryz.func217.trans (congrArg some (by kernel_rfl))
  f205 := Tryz.func262.trans (congrArg some (by kernel_rfl))
  f243 := Tryz.func266.trans (congrArg some (by kernel_rfl))
  f245 := Tryz.func238.trans (congrArg some (by kernel_rfl))
  f246 := Tryz.func267.trans (congrArg some (by kernel_rfl))
  f247 := Tryz.func237.trans (congrArg some (by kernel_rfl))
  f279 := Tryz.func251.trans (congrArg some (by kernel_rfl))
  f280 := Tryz.func252.trans (congrArg some (by kernel_rfl))
  f281 := Tryz.func253.trans (congrArg some (by kernel_rfl))
  f282 := Tryz.func254.trans (congrArg some (by kernel_rfl))
  f283 := Tryz.func268.trans (congrArg some (by kernel_rfl))
  f284 := Tryz.func269.trans (congrArg some (by kernel_rfl))
  f285 := Tryz.func270.trans (congrArg some (by kernel_rfl))
  f286 := Tryz.func271.trans (congrArg some (by kernel_rfl))
  f287 := Tryz.func250.trans (congrArg some (by kernel_rfl))
  f316 := Tryz.func261.trans (congrArg some (by kernel_rfl))
  f317 := Tryz.func272.trans (congrArg some (by kernel_rfl))
  f318 := Tryz.func273.trans (congrArg some (by kernel_rfl))
  f319 := Tryz.func274.trans (congrArg some (by kernel_rfl))
  f320 := Tryz.func275.trans (congrArg some (by kernel_rfl))
  f321 := Tryz.func259.trans (congrArg some (by kernel_rfl))
  f322 := Tryz.func260.trans (congrArg some (by kernel_rfl))
  f337 := Tryz.func276.trans (congrArg some (by kernel_rfl))
  f338 := Tryz.func277.trans (congrArg some (by kernel_rfl))
  t0 := Tryz.underlying0
  a0 := Tryz.isAgg0
  z0 := Tryz.sizeOf0
  v0 := Tryz.zeroValue0
  t2 := Tryz.underlying2
  a2 := Tryz.isAgg2
  z2 := Tryz.sizeOf2
  v2 := Tryz.zeroValue2
  t3 := Tryz.underlying3
  a3 := Tryz.isAgg3
  z3 := Tryz.sizeOf3
  v3 := Tryz.zeroValue3
  t4 := Tryz.underlying4
  a4 := Tryz.isAgg4
  z4 := Tryz.sizeOf4
  v4 := Tryz.zeroValue4
  t5 := Tryz.underlying5
  a5 := Tryz.isAgg5
  z5 := Tryz.sizeOf5
  v5 := Tryz.zeroValue5
  t9 := Tryz.underlying9
  a9 := Tryz.isAgg9
  z9 := Tryz.sizeOf9
  v9 := Tryz.zeroValue9
  t20 := Tryz.underlying20
  a20 := Tryz.isAgg20
  z20 := Tryz.sizeOf20
  v20 := Tryz.zeroValue20
  t21 := Tryz.underlying21
  a21 := Tryz.isAgg21
  z21 := Tryz.sizeOf21
  v21 := Tryz.zeroValue21
  t37 := Tryz.underlying279
  a37 := Tryz.isAgg279
  z37 := Tryz.sizeOf279
  v37 := Tryz.zeroValue279
  t46 := Tryz.underlying183
  a46 := Tryz.isAgg183
  z46 := Tryz.sizeOf183
  v46 := Tryz.zeroValue183
  t51 := Tryz.underlying208
  a51 := Tryz.isAgg208
  z51 := Tryz.sizeOf208
  v51 := Tryz.zeroValue208
  t53 := Tryz.underlying210
  a53 := Tryz.isAgg210
  z53 := Tryz.sizeOf210
  v53 := Tryz.zeroValue210
  t75 := Tryz.underlying240
  a75 := Tryz.isAgg240
  z75 := Tryz.sizeOf240
  v75 := Tryz.zeroValue240
  t85 := Tryz.underlying241
  a85 := Tryz.isAgg241
  z85 := Tryz.sizeOf241
  v85 := Tryz.zeroValue241
  t127 := Tryz.underlying294
  a127 := Tryz.isAgg294
  z127 := Tryz.sizeOf294
  v127 := Tryz.zeroValue294
  t143 := Tryz.underlying303
  a143 := Tryz.isAgg303
  z143 := Tryz.sizeOf303
  v143 := Tryz.zeroValue303
  t145 := Tryz.underlying305
  a145 := Tryz.isAgg305
  z145 := Tryz.sizeOf305
  v145 := Tryz.zeroValue305
  t167 := Tryz.underlying285
  a167 := Tryz.isAgg285
  z167 := Tryz.sizeOf285
  v167 := Tryz.zeroValue285
  t168 := Tryz.underlying288
  a168 := Tryz.isAgg288
  z168 := Tryz.sizeOf288
  v168 := Tryz.zeroValue288
  t171 := Tryz.underlying307
  a171 := Tryz.isAgg307
  z171 := Tryz.sizeOf307
  v171 := Tryz.zeroValue307
  t173 := Tryz.underlying309
  a173 := Tryz.isAgg309
  z173 := Tryz.sizeOf309
  v173 := Tryz.zeroValue309
  t175 := Tryz.underlying286
  a175 := Tryz.isAgg286
  z175 := Tryz.sizeOf286
  v175 := Tryz.zeroValue286
  t210 := Tryz.underlying297
  a210 := Tryz.isAgg297
  z210 := Tryz.sizeOf297
  v210 := Tryz.zeroValue297
  t212 := Tryz.underlying312
  a212 := Tryz.isAgg312
  z212 := Tryz.sizeOf312
  v212 := Tryz.zeroValue312
  t213 := Tryz.underlying313
  a213 := Tryz.isAgg313
  z213 := Tryz.sizeOf313
  t232 := Tryz.underlying314
  a232 := Tryz.isAgg314
  z232 := Tryz.sizeOf314
  v232 := Tryz.zeroValue314
  t233 := Tryz.underlying315
  a233 := Tryz.isAgg315
  z233 := Tryz.sizeOf315
  v233 := Tryz.zeroValue315
  g15 := by kernel_rfl
  g16 := by kernel_rfl
  g17 := by kernel_rfl
  g18 := by kernel_rfl
  g19 := by kernel_rfl
  t80 := Tryz.underlying76
  a80 := Tryz.isAgg76
  z80 := Tryz.sizeOf76
  v80 := Tryz.zeroValue76
  i0 := by kernel_rfl
  i2 := by kernel_rfl
  i3 := by kernel_rfl
  i4 := by kernel_rfl
  i5 := by kernel_rfl
  i9 := by kernel_rfl
  i20 := by kernel_rfl
  i21 := by kernel_rfl
  i37 := by kernel_rfl
  i46 := by kernel_rfl
  i51 := by kernel_rfl
  i53 := by kernel_rfl
  i75 := by kernel_rfl
  i80 := by kernel_rfl
  i85 := by kernel_rfl
  i127 := by kernel_rfl
  i143 := by kernel_rfl
  i145 := by kernel_rfl
  i167 := by kernel_rfl
  i168 := by kernel_rfl
  i171 := by kernel_rfl
  i173 := by kernel_rfl
  i175 := by kernel_rfl
  i210 := by kernel_rfl
  i212 := by kernel_rfl
  i232 := by kernel_rfl
  i233 := by kernel_rfl
  m15 := by kernel_rfl
  m16 := by kernel_rfl
  m17 := by kernel_rfl
  m18 := by kernel_rfl
  m19 := by kernel_rfl
  c0 := by kernel_rfl
  c2 := by kernel_rfl
  c3 := by kernel_rfl
  c4 := by kernel_rfl
  c5 := by kernel_rfl
  c9 := by kernel_rfl
  c20 := by kernel_rfl
  c21 := by kernel_rfl
  c37 := by kernel_rfl
  c46 := by kernel_rfl
  c51 := by kernel_rfl
  c53 := by kernel_rfl
  c75 := by kernel_rfl
  c80 := by kernel_rfl
  c85 := by kernel_rfl
  c127 := by kernel_rfl
  c143 := by kernel_rfl
  c145 := by kernel_rfl
  c167 := by kernel_rfl
  c168 := by kernel_rfl
  c171 := by kernel_rfl
  c173 := by kernel_rfl
  c175 := by kernel_rfl
  c210 := by kernel_rfl
  c212 := by kernel_rfl
  c213 := by kernel_rfl
  c232 := by kernel_rfl
  c233 := by kernel_rfl }
open Go.RowKit in
/-- strconv.ParseInt(s, 10, 64), AT EVERY STRING THAT SPELLS AN int64 ('Lib.parseIntB 64 s.data.toList = .ok v'): v, AND NO ERROR. (LAID: no walk: one application.) -/
theorem Tryz.strconv_ParseInt_10_at64_ok (s : ByteArray) (hmax : s.size ≤ 9223372036854775806) (v : Int) (h : Lib.parseIntB 64 s.data.toList = .ok v) (w : World) :
    Calls Tryz.prog 217 #[.string s, .int .i64 10, .int .i64 64] w fun e w' => e = .returned (.tuple #[.int .i64 v, .nilIface]) ∧ (w' = w ∨ ∃ t, w' = Lib.bytesWorld w 5 t) := Any.strconv_ParseInt_10_at64_ok Tryz.laysC174 s hmax v h w
def Tryz.lays144_ren : Go.Shelf.Ren := ⟨fun | 144 => 155 | 143 => 183 | 219 => 214 | 217 => 224 | 225 => 232 | 224 => 233 | 267 => 234 | 266 => 240 | 314 => 246 | n => n, fun | 9 => 9 | 4 => 4 | 3 => 3 | 5 => 5 | 46 => 183 | 146 => 276 | 51 => 208 | n => n, fun | 1 => 2 | n => n⟩
theorem Tryz.lays144 : Go.Proofs.Lays.n144 Tryz.prog Tryz.lays144_ren := {
  mixed := by kernel_rfl
  f143 := Tryz.func183.trans (congrArg some (by kernel_rfl))
  f144 := Tryz.func155.trans (congrArg some (by kernel_rfl))
  f217 := Tryz.func224.trans (congrArg some (by kernel_rfl))
  f219 := Tryz.func214.trans (congrArg some (by kernel_rfl))
  f224 := Tryz.func233.trans (congrArg some (by kernel_rfl))
  f225 := Tryz.func232.trans (congrArg some (by kernel_rfl))
  f266 := Tryz.func240.trans (congrArg some (by kernel_rfl))
  f267 := Tryz.func234.trans (congrArg some (by kernel_rfl))
  f314 := Tryz.func246.trans (congrArg some (by kernel_rfl))
  t3 := Tryz.underlying3
  a3 := Tryz.isAgg3
  z3 := Tryz.sizeOf3
  v3 := Tryz.zeroValue3
  t4 := Tryz.underlying4
  a4 := Tryz.isAgg4
  z4 := Tryz.sizeOf4
  v4 := Tryz.zeroValue4
  t5 := Tryz.underlying5
  a5 := Tryz.isAgg5
  z5 := Tryz.sizeOf5
  v5 := Tryz.zeroValue5
  t9 := Tryz.underlying9
  a9 := Tryz.isAgg9
  z9 := Tryz.sizeOf9
  v9 := Tryz.zeroValue9
  t46 := Tryz.underlying183
  a46 := Tryz.isAgg183
  z46 := Tryz.sizeOf183
  v46 := Tryz.zeroValue183
  t51 := Tryz.underlying208
  a51 := Tryz.isAgg208
  z51 := Tryz.sizeOf208
  v51 := Tryz.zeroValue208
  t146 := Tryz.underlying276
  a146 := Tryz.isAgg276
  z146 := Tryz.sizeOf276
  v146 := Tryz.zeroValue276
  g1 := by kernel_rfl }
open Go.RowKit Go.Lib in
/-- strings.Contains: "Contains reports whether substr is within s.": AT A substr OF ONE BYTE c: IT RETURNS 'decide (0 ≤ Lib.indexByte s c)'; the world is as it was. (LAID: no walk: one application.) -/
theorem Tryz.strings_Contains_one (s : ByteArray) (c : UInt8) (w : World) :
    Calls Tryz.prog 155 #[.string s, .string ⟨#[c]⟩] w fun e w' => e = .returned (.bool (decide (0 ≤ Lib.indexByte s.data.toList c))) ∧ w' = w := Any.strings_Contains_one Tryz.lays144 s c w
def Tryz.lays145_ren : Go.Shelf.Ren := ⟨fun | 145 => 215 | 220 => 235 | 219 => 214 | 217 => 224 | 225 => 232 | 224 => 233 | 267 => 234 | 266 => 240 | 314 => 246 | n => n, fun | 9 => 9 | 4 => 4 | 59 => 236 | 3 => 3 | 5 => 5 | 46 => 183 | 146 => 276 | 51 => 208 | n => n, fun | 1 => 2 | n => n⟩
theorem Tryz.lays145 : Go.Proofs.Lays.n145 Tryz.prog Tryz.lays145_ren := {
  mixed := by kernel_rfl
  f145 := Tryz.func215.trans (congrArg some (by kernel_rfl))
  f217 := Tryz.func224.trans (congrArg some (by kernel_rfl))
  f219 := Tryz.func214.trans (congrArg some (by kernel_rfl))
  f220 := Tryz.func235.trans (congrArg some (by kernel_rfl))
  f224 := Tryz.func233.trans (congrArg some (by kernel_rfl))
  f225 := Tryz.func232.trans (congrArg some (by kernel_rfl))
  f266 := Tryz.func240.trans (congrArg some (by kernel_rfl))
  f267 := Tryz.func234.trans (congrArg some (by kernel_rfl))
  f314 := Tryz.func246.trans (congrArg some (by kernel_rfl))
  t3 := Tryz.underlying3
  a3 := Tryz.isAgg3
  z3 := Tryz.sizeOf3
  v3 := Tryz.zeroValue3
  t4 := Tryz.underlying4
  a4 := Tryz.isAgg4
  z4 := Tryz.sizeOf4
  v4 := Tryz.zeroValue4
  t5 := Tryz.underlying5
  a5 := Tryz.isAgg5
  z5 := Tryz.sizeOf5
  v5 := Tryz.zeroValue5
  t9 := Tryz.underlying9
  a9 := Tryz.isAgg9
  z9 := Tryz.sizeOf9
  v9 := Tryz.zeroValue9
  t46 := Tryz.underlying183
  a46 := Tryz.isAgg183
  z46 := Tryz.sizeOf183
  v46 := Tryz.zeroValue183
  t51 := Tryz.underlying208
  a51 := Tryz.isAgg208
  z51 := Tryz.sizeOf208
  v51 := Tryz.zeroValue208
  t59 := Tryz.underlying236
  a59 := Tryz.isAgg236
  z59 := Tryz.sizeOf236
  v59 := Tryz.zeroValue236
  t146 := Tryz.underlying276
  a146 := Tryz.isAgg276
  z146 := Tryz.sizeOf276
  v146 := Tryz.zeroValue276
  g1 := by kernel_rfl }
open Go.RowKit Go.Lib in
/-- strings.Cut: "Cut slices s around the first instance of sep, returning the text before and after sep. The found result reports whether sep appears in s. If sep does not appear in s, cut returns s, "", false.": IT RETURNS 'Lib.cut s sep'; the world is as it was but for the count of draws. (LAID: no walk: one application.) -/
theorem Tryz.strings_Cut (s sep : ByteArray) (m : Int) (w : World) (hs : s.size < 4294967281) (hm : w.cell? ⟨2, 0, none⟩ = some (.int .i64 m)) :
    Calls Tryz.prog 215 #[.string s, .string sep] w fun e w' => e = .returned (.tuple #[.string ⟨(Lib.cut s.data.toList sep.data.toList).1.toArray⟩, .string ⟨(Lib.cut s.data.toList sep.data.toList).2.1.toArray⟩, .bool (Lib.cut s.data.toList sep.data.toList).2.2]) ∧ ∃ n, w' = w.drewN n := Any.strings_Cut Tryz.lays145 s sep m w hs hm
def Tryz.lays190_ren : Go.Shelf.Ren := ⟨fun | 190 => 134 | 125 => 148 | 258 => 159 | 128 => 179 | 129 => 180 | 302 => 186 | 303 => 187 | 304 => 188 | 305 => 189 | 306 => 190 | 307 => 191 | 308 => 192 | 309 => 193 | 310 => 194 | 333 => 218 | 329 => 208 | 330 => 209 | 334 => 219 | 335 => 220 | 336 => 149 | 344 => 239 | n => n, fun | 31 => 46 | 9 => 9 | 3 => 3 | 46 => 183 | 0 => 0 | 51 => 208 | 53 => 210 | 4 => 4 | 183 => 201 | 182 => 200 | 131 => 205 | 5 => 5 | 218 => 229 | 222 => 233 | 228 => 260 | 229 => 261 | n => n, fun | n => n⟩
theorem Tryz.lays190 : Go.Proofs.Lays.n190 Tryz.prog Tryz.lays190_ren := {
  mixed := by kernel_rfl
  f125 := Tryz.func148.trans (congrArg some (by kernel_rfl))
  f128 := Tryz.func179.trans (congrArg some (by kernel_rfl))
  f129 := Tryz.func180.trans (congrArg some (by kernel_rfl))
  f190 := Tryz.func134.trans (congrArg some (by kernel_rfl))
  f258 := Tryz.func159.trans (congrArg some (by kernel_rfl))
  f302 := Tryz.func186.trans (congrArg some (by kernel_rfl))
  f303 := Tryz.func187.trans (congrArg some (by kernel_rfl))
  f304 := Tryz.func188.trans (congrArg some (by kernel_rfl))
  f305 := Tryz.func189.trans (congrArg some (by kernel_rfl))
  f306 := Tryz.func190.trans (congrArg some (by kernel_rfl))
  f307 := Tryz.func191.trans (congrArg some (by kernel_rfl))
  f308 := Tryz.func192.trans (congrArg some (by kernel_rfl))
  f309 := Tryz.func193.trans (congrArg some (by kernel_rfl))
  f310 := Tryz.func194.trans (congrArg some (by kernel_rfl))
  f329 := Tryz.func208.trans (congrArg some (by kernel_rfl))
  f330 := Tryz.func209.trans (congrArg some (by kernel_rfl))
  f333 := Tryz.func218.trans (congrArg some (by kernel_rfl))
  f334 := Tryz.func219.trans (congrArg some (by kernel_rfl))
  f335 := Tryz.func220.trans (congrArg some (by kernel_rfl))
  f336 := Tryz.func149.trans (congrArg some (by kernel_rfl))
  f344 := Tryz.func239.trans (congrArg some (by kernel_rfl))
  t0 := Tryz.underlying0
  a0 := Tryz.isAgg0
  z0 := Tryz.sizeOf0
  v0 := Tryz.zeroValue0
  t3 := Tryz.underlying3
  a3 := Tryz.isAgg3
  z3 := Tryz.sizeOf3
  v3 := Tryz.zeroValue3
  t4 := Tryz.underlying4
  a4 := Tryz.isAgg4
  z4 := Tryz.sizeOf4
  v4 := Tryz.zeroValue4
  t5 := Tryz.underlying5
  a5 := Tryz.isAgg5
  z5 := Tryz.sizeOf5
  v5 := Tryz.zeroValue5
  t9 := Tryz.underlying9
  a9 := Tryz.isAgg9
  z9 := Tryz.sizeOf9
  v9 := Tryz.zeroValue9
  t31 := Tryz.underlying46
  a31 := Tryz.isAgg46
  z31 := Tryz.sizeOf46
  v31 := Tryz.zeroValue46
  t46 := Tryz.underlying183
  a46 := Tryz.isAgg183
  z46 := Tryz.sizeOf183
  v46 := Tryz.zeroValue183
  t51 := Tryz.underlying208
  a51 := Tryz.isAgg208
  z51 := Tryz.sizeOf208
  v51 := Tryz.zeroValue208
  t53 := Tryz.underlying210
  a53 := Tryz.isAgg210
  z53 := Tryz.sizeOf210
  v53 := Tryz.zeroValue210
  t131 := Tryz.underlying205
  a131 := Tryz.isAgg205
  z131 := Tryz.sizeOf205
  v131 := Tryz.zeroValue205
  t182 := Tryz.underlying200
  a182 := Tryz.isAgg200
  z182 := Tryz.sizeOf200
  v182 := Tryz.zeroValue200
  t183 := Tryz.underlying201
  a183 := Tryz.isAgg201
  z183 := Tryz.sizeOf201
  v183 := Tryz.zeroValue201
  t218 := Tryz.underlying229
  a218 := Tryz.isAgg229
  z218 := Tryz.sizeOf229
  v218 := Tryz.zeroValue229
  t222 := Tryz.underlying233
  a222 := Tryz.isAgg233
  z222 := Tryz.sizeOf233
  v222 := Tryz.zeroValue233
  t228 := Tryz.underlying260
  a228 := Tryz.isAgg260
  z228 := Tryz.sizeOf260
  v228 := Tryz.zeroValue260
  t229 := Tryz.underlying261
  a229 := Tryz.isAgg261
  z229 := Tryz.sizeOf261
  v229 := Tryz.zeroValue261 }
open Go.Sort Go.RowKit in
theorem Tryz.slices_Sort_string (blk off cap : Nat) (ss : List (List UInt8)) (w : World) (hH : Holds encStr w blk off ss.toArray) (hblk : blk < w.heap.size) (hsz : ss.length < 4611686018427387904) :
    Calls Tryz.prog 134 #[.slice (some ⟨blk, off, none⟩) ss.length cap] w fun e w' =>
      e = .returned (.tuple #[]) ∧ ∃ n os, w' = grow (putRow encStr (Sort.ahead w n) blk off (ss.mergeSort fun x y => decide (x ≤ y)).toArray) os := Any.slices_Sort_string Tryz.lays190 blk off cap ss w hH hblk hsz
def Tryz.lays99_ren : Go.Shelf.Ren := ⟨fun | 99 => 154 | 206 => 182 | n => n, fun | 9 => 9 | 4 => 4 | 3 => 3 | n => n, fun | n => n⟩
theorem Tryz.lays99 : Go.Proofs.Lays.n99 Tryz.prog Tryz.lays99_ren := {
  mixed := by kernel_rfl
  f99 := Tryz.func154.trans (congrArg some (by kernel_rfl))
  f206 := Tryz.func182.trans (congrArg some (by kernel_rfl))
  t3 := Tryz.underlying3
  a3 := Tryz.isAgg3
  z3 := Tryz.sizeOf3
  v3 := Tryz.zeroValue3
  t4 := Tryz.underlying4
  a4 := Tryz.isAgg4
  z4 := Tryz.sizeOf4
  v4 := Tryz.zeroValue4
  t9 := Tryz.underlying9
  a9 := Tryz.isAgg9
  z9 := Tryz.sizeOf9
  v9 := Tryz.zeroValue9 }
open Go.RowKit Go.Lib in
/-- strings.HasPrefix: "HasPrefix reports whether the string s begins with prefix.": IT RETURNS 'Lib.hasPrefix s prefix'; the world is as it was. (LAID: no walk: one application.) -/
theorem Tryz.strings_HasPrefix (s p : ByteArray) (w : World) :
    Calls Tryz.prog 154 #[.string s, .string p] w fun e w' => e = .returned (.bool (Lib.hasPrefix s.data.toList p.data.toList)) ∧ w' = w := Any.strings_HasPrefix Tryz.lays99 s p w
def Tryz.lays146_ren : Go.Shelf.Ren := ⟨fun | 146 => 153 | 221 => 181 | 268 => 212 | 138 => 213 | 143 => 183 | 195 => 229 | 197 => 230 | 218 => 231 | 219 => 214 | 260 => 245 | 217 => 224 | 225 => 232 | 224 => 233 | 267 => 234 | 266 => 240 | 314 => 246 | n => n, fun | 9 => 9 | 31 => 46 | 3 => 3 | 4 => 4 | 0 => 0 | 105 => 264 | 21 => 21 | 5 => 5 | 46 => 183 | 119 => 190 | 139 => 293 | 138 => 292 | 146 => 276 | 51 => 208 | n => n, fun | 1 => 2 | 3 => 3 | 4 => 4 | n => n⟩
theorem Tryz.lays146 : Go.Proofs.Lays.n146 Tryz.prog Tryz.lays146_ren := {
  mixed := by kernel_rfl
  f138 := Tryz.func213.trans (congrArg some (by kernel_rfl))
  f143 := Tryz.func183.trans (congrArg some (by kernel_rfl))
  f146 := Tryz.func153.trans (congrArg some (by kernel_rfl))
  f195 := Tryz.func229.trans (congrArg some (by kernel_rfl))
  f197 := Tryz.func230.trans (congrArg some (by kernel_rfl))
  f217 := Tryz.func224.trans (congrArg some (by kernel_rfl))
  f218 := Tryz.func231.trans (congrArg some (by kernel_rfl))
  f219 := Tryz.func214.trans (congrArg some (by kernel_rfl))
  f221 := Tryz.func181.trans (congrArg some (by kernel_rfl))
  f224 := Tryz.func233.trans (congrArg some (by kernel_rfl))
  f225 := Tryz.func232.trans (congrArg some (by kernel_rfl))
  f260 := Tryz.func245.trans (congrArg some (by kernel_rfl))
  f266 := Tryz.func240.trans (congrArg some (by kernel_rfl))
  f267 := Tryz.func234.trans (congrArg some (by kernel_rfl))
  f268 := Tryz.func212.trans (congrArg some (by kernel_rfl))
  f314 := Tryz.func246.trans (congrArg some (by kernel_rfl))
  t0 := Tryz.underlying0
  a0 := Tryz.isAgg0
  z0 := Tryz.sizeOf0
  v0 := Tryz.zeroValue0
  t3 := Tryz.underlying3
  a3 := Tryz.isAgg3
  z3 := Tryz.sizeOf3
  v3 := Tryz.zeroValue3
  t4 := Tryz.underlying4
  a4 := Tryz.isAgg4
  z4 := Tryz.sizeOf4
  v4 := Tryz.zeroValue4
  t5 := Tryz.underlying5
  a5 := Tryz.isAgg5
  z5 := Tryz.sizeOf5
  v5 := Tryz.zeroValue5
  t9 := Tryz.underlying9
  a9 := Tryz.isAgg9
  z9 := Tryz.sizeOf9
  v9 := Tryz.zeroValue9
  t21 := Tryz.underlying21
  a21 := Tryz.isAgg21
  z21 := Tryz.sizeOf21
  v21 := Tryz.zeroValue21
  t31 := Tryz.underlying46
  a31 := Tryz.isAgg46
  z31 := Tryz.sizeOf46
  v31 := Tryz.zeroValue46
  t46 := Tryz.underlying183
  a46 := Tryz.isAgg183
  z46 := Tryz.sizeOf183
  v46 := Tryz.zeroValue183
  t51 := Tryz.underlying208
  a51 := Tryz.isAgg208
  z51 := Tryz.sizeOf208
  v51 := Tryz.zeroValue208
  t105 := Tryz.underlying264
  a105 := Tryz.isAgg264
  z105 := Tryz.sizeOf264
  v105 := Tryz.zeroValue264
  t119 := Tryz.underlying190
  a119 := Tryz.isAgg190
  z119 := Tryz.sizeOf190
  t138 := Tryz.underlying292
  a138 := Tryz.isAgg292
  z138 := Tryz.sizeOf292
  v138 := Tryz.zeroValue292
  t139 := Tryz.underlying293
  a139 := Tryz.isAgg293
  z139 := Tryz.sizeOf293
  v139 := Tryz.zeroValue293
  t146 := Tryz.underlying276
  a146 := Tryz.isAgg276
  z146 := Tryz.sizeOf276
  v146 := Tryz.zeroValue276
  g1 := by kernel_rfl
  g3 := by kernel_rfl
  g4 := by kernel_rfl }
open Go.RowKit Go.Lib in
/-- strings.Split. (LAID: no walk: one application.) -/
theorem Tryz.strings_Split (s sep : ByteArray) (m : Int) (w : World) (hs : s.size < 4294967281) (hm : w.cell? ⟨2, 0, none⟩ = some (.int .i64 m)) (h1 : 1 ≤ sep.size) :
    Calls Tryz.prog 153 #[.string s, .string sep] w fun e w' =>
      e = .returned (.slice (some ⟨w.heap.size, 0, none⟩) (Lib.countB s sep + 1) (Lib.countB s sep + 1)) ∧ w' = w.alloc (.cells ((Lib.splitB sep 0 (Lib.countB s sep) s).map Value.string).toArray 9) := Any.strings_Split Tryz.lays146 (by kernel_rfl) s sep m w hs hm h1
def Tryz.lays157_ren : Go.Shelf.Ren := ⟨fun | 157 => 136 | 229 => 160 | 199 => 161 | 261 => 195 | 311 => 221 | 312 => 222 | n => n, fun | 9 => 9 | 31 => 46 | 3 => 3 | 5 => 5 | 4 => 4 | 119 => 190 | 0 => 0 | 40 => 192 | 152 => 219 | 21 => 21 | 154 => 221 | 51 => 208 | 141 => 223 | 196 => 248 | 193 => 245 | 198 => 251 | 49 => 249 | 194 => 246 | 201 => 254 | 226 => 270 | 46 => 183 | 227 => 271 | n => n, fun | 0 => 0 | 6 => 1 | n => n⟩
theorem Tryz.lays157 : Go.Proofs.Lays.n157 Tryz.prog Tryz.lays157_ren := {
  mixed := by kernel_rfl
  f157 := Tryz.func136.trans (congrArg some (by kernel_rfl))
  f199 := Tryz.func161.trans (congrArg some (by kernel_rfl))
  f229 := Tryz.func160.trans (congrArg some (by kernel_rfl))
  f261 := Tryz.func195.trans (congrArg some (by kernel_rfl))
  f311 := Tryz.func221.trans (congrArg some (by kernel_rfl))
  f312 := Tryz.func222.trans (congrArg some (by kernel_rfl))
  t0 := Tryz.underlying0
  a0 := Tryz.isAgg0
  z0 := Tryz.sizeOf0
  v0 := Tryz.zeroValue0
  t3 := Tryz.underlying3
  a3 := Tryz.isAgg3
  z3 := Tryz.sizeOf3
  v3 := Tryz.zeroValue3
  t4 := Tryz.underlying4
  a4 := Tryz.isAgg4
  z4 := Tryz.sizeOf4
  v4 := Tryz.zeroValue4
  t5 := Tryz.underlying5
  a5 := Tryz.isAgg5
  z5 := Tryz.sizeOf5
  v5 := Tryz.zeroValue5
  t9 := Tryz.underlying9
  a9 := Tryz.isAgg9
  z9 := Tryz.sizeOf9
  v9 := Tryz.zeroValue9
  t21 := Tryz.underlying21
  a21 := Tryz.isAgg21
  z21 := Tryz.sizeOf21
  v21 := Tryz.zeroValue21
  t31 := Tryz.underlying46
  a31 := Tryz.isAgg46
  z31 := Tryz.sizeOf46
  v31 := Tryz.zeroValue46
  t40 := Tryz.underlying192
  a40 := Tryz.isAgg192
  z40 := Tryz.sizeOf192
  v40 := Tryz.zeroValue192
  t46 := Tryz.underlying183
  a46 := Tryz.isAgg183
  z46 := Tryz.sizeOf183
  v46 := Tryz.zeroValue183
  t49 := Tryz.underlying249
  a49 := Tryz.isAgg249
  z49 := Tryz.sizeOf249
  v49 := Tryz.zeroValue249
  t51 := Tryz.underlying208
  a51 := Tryz.isAgg208
  z51 := Tryz.sizeOf208
  v51 := Tryz.zeroValue208
  t119 := Tryz.underlying190
  a119 := Tryz.isAgg190
  z119 := Tryz.sizeOf190
  t141 := Tryz.underlying223
  a141 := Tryz.isAgg223
  z141 := Tryz.sizeOf223
  v141 := Tryz.zeroValue223
  t152 := Tryz.underlying219
  a152 := Tryz.isAgg219
  z152 := Tryz.sizeOf219
  v152 := Tryz.zeroValue219
  t154 := Tryz.underlying221
  a154 := Tryz.isAgg221
  z154 := Tryz.sizeOf221
  v154 := Tryz.zeroValue221
  t193 := Tryz.underlying245
  a193 := Tryz.isAgg245
  z193 := Tryz.sizeOf245
  v193 := Tryz.zeroValue245
  t194 := Tryz.underlying246
  a194 := Tryz.isAgg246
  z194 := Tryz.sizeOf246
  v194 := Tryz.zeroValue246
  t196 := Tryz.underlying248
  a196 := Tryz.isAgg248
  z196 := Tryz.sizeOf248
  v196 := Tryz.zeroValue248
  t198 := Tryz.underlying251
  a198 := Tryz.isAgg251
  z198 := Tryz.sizeOf251
  v198 := Tryz.zeroValue251
  t201 := Tryz.underlying254
  a201 := Tryz.isAgg254
  z201 := Tryz.sizeOf254
  v201 := Tryz.zeroValue254
  t226 := Tryz.underlying270
  a226 := Tryz.isAgg270
  z226 := Tryz.sizeOf270
  v226 := Tryz.zeroValue270
  t227 := Tryz.underlying271
  a227 := Tryz.isAgg271
  z227 := Tryz.sizeOf271
  v227 := Tryz.zeroValue271
  g0 := by kernel_rfl
  g6 := by kernel_rfl }
open Go.RowKit Go.Lib in
/-- strings.Fields, the table by 'Lib.TabIs' (as strings.TrimSpace's contract). 'hg': the table's number, by its name: at a dump 'by kernel_rfl'. (LAID: no walk: one application.) -/
theorem Tryz.strings_Fields (s : ByteArray) (w : World) (hs : s.size < 4294967281) (hascii : ∀ (j : Nat) b, s.data.toList[j]? = some b → b.toNat < 128) (htab : Lib.TabIs Tryz.prog w "strings.asciiSpace" .u8 Lib.asciiSpaceTab) :
    Calls Tryz.prog 136 #[.string s] w fun e w' =>
      e = .returned (.slice (some ⟨w.heap.size, 0, none⟩) (Lib.fields s.data.toList).length (Lib.fields s.data.toList).length) ∧ w' = w.alloc (.cells ((Lib.fields s.data.toList).map fun l => Value.string ⟨l.toArray⟩).toArray 9) := Any.strings_Fields Tryz.lays157 (by kernel_rfl) (by kernel_rfl) s w hs hascii htab
def Tryz.lays155_ren : Go.Shelf.Ren := ⟨fun | 155 => 216 | 154 => 236 | 138 => 213 | 165 => 247 | 143 => 183 | 166 => 248 | 197 => 230 | 169 => 249 | 195 => 229 | 218 => 231 | 240 => 257 | 241 => 258 | 219 => 214 | 260 => 245 | 276 => 264 | 277 => 265 | 217 => 224 | 225 => 232 | 224 => 233 | 267 => 234 | 266 => 240 | 314 => 246 | n => n, fun | 9 => 9 | 3 => 3 | 4 => 4 | 72 => 281 | 0 => 0 | 76 => 283 | 105 => 264 | 21 => 21 | 5 => 5 | 70 => 278 | 20 => 20 | 37 => 279 | 75 => 240 | 127 => 294 | 164 => 300 | 46 => 183 | 119 => 190 | 139 => 293 | 138 => 292 | 146 => 276 | 51 => 208 | 80 => 76 | n => n, fun | 1 => 2 | 3 => 3 | 4 => 4 | n => n⟩
theorem Tryz.lays155 : Go.Proofs.Lays.n155 Tryz.prog Tryz.lays155_ren := {
  mixed := by kernel_rfl
  f138 := Tryz.func213.trans (congrArg some (by kernel_rfl))
  f143 := Tryz.func183.trans (congrArg some (by kernel_rfl))
  f154 := Tryz.func236.trans (congrArg some (by kernel_rfl))
  f155 := Tryz.func216.trans (congrArg some (by kernel_rfl))
  f165 := Tryz.func247.trans (congrArg some (by kernel_rfl))
  f166 := Tryz.func248.trans (congrArg some (by kernel_rfl))
  f169 := Tryz.func249.trans (congrArg some (by kernel_rfl))
  f195 := Tryz.func229.trans (congrArg some (by kernel_rfl))
  f197 := Tryz.func230.trans (congrArg some (by kernel_rfl))
  f217 := Tryz.func224.trans (congrArg some (by kernel_rfl))
  f218 := Tryz.func231.trans (congrArg some (by kernel_rfl))
  f219 := Tryz.func214.trans (congrArg some (by kernel_rfl))
  f224 := Tryz.func233.trans (congrArg some (by kernel_rfl))
  f225 := Tryz.func232.trans (congrArg some (by kernel_rfl))
  f240 := Tryz.func257.trans (congrArg some (by kernel_rfl))
  f241 := Tryz.func258.trans (congrArg some (by kernel_rfl))
  f260 := Tryz.func245.trans (congrArg some (by kernel_rfl))
  f266 := Tryz.func240.trans (congrArg some (by kernel_rfl))
  f267 := Tryz.func234.trans (congrArg some (by kernel_rfl))
  f276 := Tryz.func264.trans (congrArg some (by kernel_rfl))
  f277 := Tryz.func265.trans (congrArg some (by kernel_rfl))
  f314 := Tryz.func246.trans (congrArg some (by kernel_rfl))
  t0 := Tryz.underlying0
  a0 := Tryz.isAgg0
  z0 := Tryz.sizeOf0
  v0 := Tryz.zeroValue0
  t3 := Tryz.underlying3
  a3 := Tryz.isAgg3
  z3 := Tryz.sizeOf3
  v3 := Tryz.zeroValue3
  t4 := Tryz.underlying4
  a4 := Tryz.isAgg4
  z4 := Tryz.sizeOf4
  v4 := Tryz.zeroValue4
  t5 := Tryz.underlying5
  a5 := Tryz.isAgg5
  z5 := Tryz.sizeOf5
  v5 := Tryz.zeroValue5
  t9 := Tryz.underlying9
  a9 := Tryz.isAgg9
  z9 := Tryz.sizeOf9
  v9 := Tryz.zeroValue9
  t20 := Tryz.underlying20
  a20 := Tryz.isAgg20
  z20 := Tryz.sizeOf20
  v20 := Tryz.zeroValue20
  t21 := Tryz.underlying21
  a21 := Tryz.isAgg21
  z21 := Tryz.sizeOf21
  v21 := Tryz.zeroValue21
  t37 := Tryz.underlying279
  a37 := Tryz.isAgg279
  z37 := Tryz.sizeOf279
  v37 := Tryz.zeroValue279
  t46 := Tryz.underlying183
  a46 := Tryz.isAgg183
  z46 := Tryz.sizeOf183
  v46 := Tryz.zeroValue183
  t51 := Tryz.underlying208
  a51 := Tryz.isAgg208
  z51 := Tryz.sizeOf208
  v51 := Tryz.zeroValue208
  t70 := Tryz.underlying278
  a70 := Tryz.isAgg278
  z70 := Tryz.sizeOf278
  v70 := Tryz.zeroValue278
  t72 := Tryz.underlying281
  a72 := Tryz.isAgg281
  z72 := Tryz.sizeOf281
  v72 := Tryz.zeroValue281
  t75 := Tryz.underlying240
  a75 := Tryz.isAgg240
  z75 := Tryz.sizeOf240
  v75 := Tryz.zeroValue240
  t76 := Tryz.underlying283
  a76 := Tryz.isAgg283
  z76 := Tryz.sizeOf283
  v76 := Tryz.zeroValue283
  t105 := Tryz.underlying264
  a105 := Tryz.isAgg264
  z105 := Tryz.sizeOf264
  v105 := Tryz.zeroValue264
  t119 := Tryz.underlying190
  a119 := Tryz.isAgg190
  z119 := Tryz.sizeOf190
  t127 := Tryz.underlying294
  a127 := Tryz.isAgg294
  z127 := Tryz.sizeOf294
  v127 := Tryz.zeroValue294
  t138 := Tryz.underlying292
  a138 := Tryz.isAgg292
  z138 := Tryz.sizeOf292
  v138 := Tryz.zeroValue292
  t139 := Tryz.underlying293
  a139 := Tryz.isAgg293
  z139 := Tryz.sizeOf293
  v139 := Tryz.zeroValue293
  t146 := Tryz.underlying276
  a146 := Tryz.isAgg276
  z146 := Tryz.sizeOf276
  v146 := Tryz.zeroValue276
  t164 := Tryz.underlying300
  a164 := Tryz.isAgg300
  z164 := Tryz.sizeOf300
  v164 := Tryz.zeroValue300
  g1 := by kernel_rfl
  g3 := by kernel_rfl
  g4 := by kernel_rfl }
theorem Tryz.Builder_Extra_155 : Builder.Extra Tryz.prog Tryz.lays155_ren := {
  sizeBuilder := by kernel_rfl
  liesBuilder := by kernel_rfl
  t5 := Tryz.underlying5
  a5 := Tryz.isAgg5
  z5 := Tryz.sizeOf5
  v5 := Tryz.zeroValue5
  infoByte := by kernel_rfl
  cellsByte := by kernel_rfl
  sizeByte := by kernel_rfl
  neB5 := by decide }
open Go.RowKit Go.Lib in
/-- strings.ReplaceAll: "ReplaceAll returns a copy of the string s with all non-overlapping instances of old replaced by new.": AT AN old THAT IS NOT EMPTY: 'Lib.replaceAll s old new'. (LAID: no walk: one application.) -/
theorem Tryz.strings_ReplaceAll (s old new : ByteArray) (m : Int) (w : World) (hs : s.size < 4294967281) (hm : w.cell? ⟨2, 0, none⟩ = some (.int .i64 m)) (h1 : 1 ≤ old.size) (hlen : s.size + Lib.countB s old * new.size ≤ 140737488355328) :
    Calls Tryz.prog 216 #[.string s, .string old, .string new] w fun e w' =>
      e = .returned (.string ⟨(Lib.replaceAll s.data.toList old.data.toList new.data.toList).toArray⟩) ∧ Below w.heap.size w w' := Any.strings_ReplaceAll Tryz.lays155 Tryz.Builder_Extra_155 s old new m w hs hm h1 hlen
def Tryz.lays194_ren : Go.Shelf.Ren := ⟨fun | 194 => 135 | n => n, fun | 31 => 46 | 9 => 9 | 3 => 3 | 4 => 4 | 0 => 0 | n => n, fun | n => n⟩
theorem Tryz.lays194 : Go.Proofs.Lays.n194 Tryz.prog Tryz.lays194_ren := {
  mixed := by kernel_rfl
  f194 := Tryz.func135.trans (congrArg some (by kernel_rfl))
  t0 := Tryz.underlying0
  a0 := Tryz.isAgg0
  z0 := Tryz.sizeOf0
  v0 := Tryz.zeroValue0
  t3 := Tryz.underlying3
  a3 := Tryz.isAgg3
  z3 := Tryz.sizeOf3
  v3 := Tryz.zeroValue3
  t4 := Tryz.underlying4
  a4 := Tryz.isAgg4
  z4 := Tryz.sizeOf4
  v4 := Tryz.zeroValue4
  t9 := Tryz.underlying9
  a9 := Tryz.isAgg9
  z9 := Tryz.sizeOf9
  v9 := Tryz.zeroValue9
  t31 := Tryz.underlying46
  a31 := Tryz.isAgg46
  z31 := Tryz.sizeOf46
  v31 := Tryz.zeroValue46 }
open Go.RowKit Go.Lib Go.Sort in
/-- slices.Compact at []string: "Compact replaces consecutive runs of equal elements with a single copy. This is like the uniq command found on Unix. Compact modifies the contents of the slice s and returns the modified slice, which may have a smaller length. Compact zeroes the elements between the new length and the original length. The result preserves the nilness of s.": IT RETURNS THE SLICE CUT TO 'Lib.compact zs'; ITS CELLS HOLD 'Lib.compact zs', THEN ZERO VALUES up to the old length; all else is as it was, but for the count of draws. IN THE WORDS OF slices.Sort's CONTRACT ('Holds', 'putRow'): so the everyday 'slices.Sort(xs); xs = slices.Compact(xs)' goes from the one contract to the other. It asks 'zs.length ≤ cap' (every slice's: the reslicing 's[:k]' looks at it). Length 0, nil: '.._empty'. (LAID: no walk: one application.) -/
theorem Tryz.slices_Compact_string (blk off cap : Nat) (zs : List (List UInt8)) (w : World) (hH : Holds encStr w blk off zs.toArray) (hsz : zs.length ≤ 9223372036854775807) (hcap : zs.length ≤ cap) :
    Calls Tryz.prog 135 #[.slice (some ⟨blk, off, none⟩) zs.length cap] w fun e w' => e = .returned (.slice (some ⟨blk, off, none⟩) (Lib.compact zs).length cap) ∧ ∃ q, w' = putRow encStr (Sort.ahead w q) blk off (Lib.compact zs ++ List.replicate (zs.length - (Lib.compact zs).length) []).toArray := Any.slices_Compact_string Tryz.lays194 blk off cap zs w hH hsz hcap
open Go.RowKit Go.Lib Go.Sort in
/-- The same at a slice of length 0, a nil one too: it comes back as it is. (LAID: no walk: one application.) -/
theorem Tryz.slices_Compact_string_empty (a : Option Addr) (cap : Nat) (w : World) :
    Calls Tryz.prog 135 #[.slice a 0 cap] w fun e w' => e = .returned (.slice a 0 cap) ∧ w' = w := Any.slices_Compact_string_empty Tryz.lays194 a cap w
open Go.RowKit Go.Sort in
/-- .. and plain. (LAID: no walk: one application.) -/
theorem Tryz.slices_Sort_string_none (p : Option Addr) (cap : Nat) (w : World) :
    Calls Tryz.prog 134 #[.slice p 0 cap] w fun e w' => e = .returned (.tuple #[]) ∧ w' = w := Any.slices_Sort_string_none Tryz.lays190 p cap w

end Go.Proofs
