/- Texts joined: Shelf Lib Row Ir Dat Val ValB Sam ValC ValD Num. -/
import Derived.Shelf.Strings.Builder1
import Derived.Shelf.Strings.Builder2
import Derived.Shelf.Strings.OnBuilder
import Derived.Shelf.Small.Utf8
import Derived.Shelf.Small.Strs
import Derived.Shelf.Small.Wraps
import Derived.Shelf.Strings.BuilderF
import Derived.Shelf.Strings.BuilderK
import Derived.Shelf.Utf8.AppendRune
import Derived.Shelf.Strconv.Itoa0
import Derived.Shelf.Strconv.Itoa1
import Derived.Shelf.LaysM
import Derived.Shelf.Strconv.Itoa2
import Derived.Shelf.Strconv.Itoa3
import Derived.Shelf.Strconv.Itoa4
import Derived.Shelf.Strconv.ParseIntEmpty
import Derived.Shelf.Strconv.Clone
import Derived.Shelf.Strconv.SyntaxError
import Derived.Shelf.LaysC
import Derived.Shelf.Strconv.ToError
import Derived.Shelf.Strconv.Lower
import Derived.Shelf.Strconv.ParseUint10
import Derived.Shelf.Strconv.ParseUint10Empty
import Derived.Shelf.Strconv.ParseUint10Any
import Derived.Shelf.Strconv.ParseInt10
import Derived.Shelf.Strconv.RangeError
import Derived.Shelf.Strconv.ToErrorRange
import Derived.Shelf.Strconv.ParseUintEmpty
import Derived.Shelf.Strconv.ParseUint10b64
import Derived.Shelf.Strconv.ParseUint10b32
import Derived.Shelf.Strconv.ParseUint10b16
import Derived.Shelf.Strconv.ParseUint10b8
import Derived.Shelf.Strconv.ParseUint10At
import Derived.Shelf.Strconv.ParseInt10At64
import Derived.Shelf.Strconv.ParseInt10At32
import Derived.Shelf.Strconv.ParseInt10At16
import Derived.Shelf.Strconv.ParseInt10At8
import Derived.Shelf.Strconv.ParseInt10All
import Derived.Shelf.Strconv.ParseIntPublic10
import Derived.Shelf.Strconv.ErrVarParseInt
import Derived.Shelf.Strings.Search1
import Derived.Shelf.Strings.Search2
import Derived.Shelf.Strings.Search3
import Derived.Shelf.Strings.Shaped
import Derived.Shelf.Strings.Prefix
import Derived.Shelf.Unicode.Decode
import Derived.Shelf.Strings.Runes
import Derived.Shelf.Strings.IndexAny
import Derived.Shelf.Strings.AsciiSet
import Derived.Shelf.Strings.IndexAnyAll
import Derived.Shelf.Bits.Mul64
import Derived.Shelf.Unicode.DecodeSlow
import Derived.Shelf.Unicode.DecodeAny
import Derived.Test.YticbbfbpeimkbaaGreatDoorProg
import Derived.Shelf.Unicode.ValidAny
import Derived.Test.YticbbfbpeimkbaaGreatDoorCards
import Derived.Test.YticbbfbpeimkbaaGreatDoorTie
import Derived.Lib.LaidIn
import Derived.Lib.LaidU8T
import Derived.Lib.LaidTab
import Derived.Deep.DeepHandedRow
import Derived.Deep.DeepWitnessRowRef
import Derived.ProofKit
import Derived.SizedLaws
import Derived.OpenShut
import Derived.Test.YticbbfbpeimkbaaGreatDoorRows
import Derived.Test.YticbbfbpeimkbaaGreatDoorM1
import Derived.Test.YticbbfbpeimkbaaGreatDoorM2
set_option maxRecDepth 100000
set_option linter.unusedSimpArgs false
set_option linter.unusedVariables false
namespace Go.Proofs
open Go.Shelf
def Tryz.lays156_ren : Go.Shelf.Ren := ⟨fun | 156 => 121 | 165 => 213 | 166 => 214 | 169 => 215 | 240 => 273 | 241 => 274 | 276 => 318 | 277 => 319 | n => n, fun | 31 => 73 | 9 => 9 | 3 => 3 | 4 => 4 | 0 => 0 | 20 => 20 | 72 => 222 | 76 => 226 | 70 => 220 | 37 => 213 | 75 => 225 | 127 => 259 | 164 => 290 | 5 => 5 | 80 => 137 | n => n, fun | n => n⟩
theorem Tryz.lays156 : Go.Proofs.Lays.n156 Tryz.prog Tryz.lays156_ren := {
  mixed := by kernel_rfl
  f156 := Tryz.func121.trans (congrArg some (by kernel_rfl))
  f165 := Tryz.func213.trans (congrArg some (by kernel_rfl))
  f166 := Tryz.func214.trans (congrArg some (by kernel_rfl))
  f169 := Tryz.func215.trans (congrArg some (by kernel_rfl))
  f240 := Tryz.func273.trans (congrArg some (by kernel_rfl))
  f241 := Tryz.func274.trans (congrArg some (by kernel_rfl))
  f276 := Tryz.func318.trans (congrArg some (by kernel_rfl))
  f277 := Tryz.func319.trans (congrArg some (by kernel_rfl))
  t0 := Tryz.underlying0
  a0 := Tryz.isAgg0
  z0 := Tryz.sizeOf0
  v0 := Tryz.zeroValue0
  t3 := Tryz.underlying3
  a3 := Tryz.isAgg3
  z3 := Tryz.sizeOf3
  v3 := Tryz.zeroValue3
  t4 := Tryz.underlying4
  a4 := Tryz.isAgg4
  z4 := Tryz.sizeOf4
  v4 := Tryz.zeroValue4
  t9 := Tryz.underlying9
  a9 := Tryz.isAgg9
  z9 := Tryz.sizeOf9
  v9 := Tryz.zeroValue9
  t20 := Tryz.underlying20
  a20 := Tryz.isAgg20
  z20 := Tryz.sizeOf20
  v20 := Tryz.zeroValue20
  t31 := Tryz.underlying73
  a31 := Tryz.isAgg73
  z31 := Tryz.sizeOf73
  v31 := Tryz.zeroValue73
  t37 := Tryz.underlying213
  a37 := Tryz.isAgg213
  z37 := Tryz.sizeOf213
  v37 := Tryz.zeroValue213
  t70 := Tryz.underlying220
  a70 := Tryz.isAgg220
  z70 := Tryz.sizeOf220
  v70 := Tryz.zeroValue220
  t72 := Tryz.underlying222
  a72 := Tryz.isAgg222
  z72 := Tryz.sizeOf222
  v72 := Tryz.zeroValue222
  t75 := Tryz.underlying225
  a75 := Tryz.isAgg225
  z75 := Tryz.sizeOf225
  v75 := Tryz.zeroValue225
  t76 := Tryz.underlying226
  a76 := Tryz.isAgg226
  z76 := Tryz.sizeOf226
  v76 := Tryz.zeroValue226
  t127 := Tryz.underlying259
  a127 := Tryz.isAgg259
  z127 := Tryz.sizeOf259
  v127 := Tryz.zeroValue259
  t164 := Tryz.underlying290
  a164 := Tryz.isAgg290
  z164 := Tryz.sizeOf290
  v164 := Tryz.zeroValue290 }
def Tryz.laysM173_ren : Go.Shelf.Ren := ⟨fun | 173 => 206 | 246 => 270 | 283 => 312 | 284 => 313 | 285 => 314 | 286 => 315 | 129 => 340 | 317 => 339 | 318 => 341 | 319 => 342 | 320 => 343 | 337 => 353 | 338 => 354 | n => n, fun | 2 => 2 | 3 => 3 | 9 => 9 | 4 => 4 | 171 => 285 | 0 => 0 | 53 => 271 | 37 => 213 | 5 => 5 | 173 => 288 | 212 => 309 | 51 => 268 | 20 => 20 | 213 => 310 | 46 => 173 | 232 => 322 | 233 => 323 | n => n, fun | 17 => 2 | 18 => 6 | 19 => 7 | n => n⟩
theorem Tryz.laysM173 : Go.Proofs.LaysM.n173 Tryz.prog Tryz.laysM173_ren := {
  mixed := by kernel_rfl
  f129 := Tryz.func340.trans (congrArg some (by kernel_rfl))
  f173 := Tryz.func206.trans (congrArg some (by kernel_rfl))
  f246 := Tryz.func270.trans (congrArg some (by kernel_rfl))
  f283 := Tryz.func312.trans (congrArg some (by kernel_rfl))
  f284 := Tryz.func313.trans (congrArg some (by kernel_rfl))
  f285 := Tryz.func314.trans (congrArg some (by kernel_rfl))
  f286 := Tryz.func315.trans (congrArg some (by kernel_rfl))
  f317 := Tryz.func339.trans (congrArg some (by kernel_rfl))
  f318 := Tryz.func341.trans (congrArg some (by kernel_rfl))
  f319 := Tryz.func342.trans (congrArg some (by kernel_rfl))
  f320 := Tryz.func343.trans (congrArg some (by kernel_rfl))
  f337 := Tryz.func353.trans (congrArg some (by kernel_rfl))
  f338 := Tryz.func354.trans (congrArg some (by kernel_rfl))
  t0 := Tryz.underlying0
  a0 := Tryz.isAgg0
  z0 := Tryz.sizeOf0
  v0 := Tryz.zeroValue0
  t2 := Tryz.underlying2
  a2 := Tryz.isAgg2
  z2 := Tryz.sizeOf2
  v2 := Tryz.zeroValue2
  t3 := Tryz.underlying3
  a3 := Tryz.isAgg3
  z3 := Tryz.sizeOf3
  v3 := Tryz.zeroValue3
  t4 := Tryz.underlying4
  a4 := Tryz.isAgg4
  z4 := Tryz.sizeOf4
  v4 := Tryz.zeroValue4
  t5 := Tryz.underlying5
  a5 := Tryz.isAgg5
  z5 := Tryz.sizeOf5
  v5 := Tryz.zeroValue5
  t9 := Tryz.underlying9
  a9 := Tryz.isAgg9
  z9 := Tryz.sizeOf9
  v9 := Tryz.zeroValue9
  t20 := Tryz.underlying20
  a20 := Tryz.isAgg20
  z20 := Tryz.sizeOf20
  v20 := Tryz.zeroValue20
  t37 := Tryz.underlying213
  a37 := Tryz.isAgg213
  z37 := Tryz.sizeOf213
  v37 := Tryz.zeroValue213
  t46 := Tryz.underlying173
  a46 := Tryz.isAgg173
  z46 := Tryz.sizeOf173
  v46 := Tryz.zeroValue173
  t51 := Tryz.underlying268
  a51 := Tryz.isAgg268
  z51 := Tryz.sizeOf268
  v51 := Tryz.zeroValue268
  t53 := Tryz.underlying271
  a53 := Tryz.isAgg271
  z53 := Tryz.sizeOf271
  v53 := Tryz.zeroValue271
  t171 := Tryz.underlying285
  a171 := Tryz.isAgg285
  z171 := Tryz.sizeOf285
  v171 := Tryz.zeroValue285
  t173 := Tryz.underlying288
  a173 := Tryz.isAgg288
  z173 := Tryz.sizeOf288
  v173 := Tryz.zeroValue288
  t212 := Tryz.underlying309
  a212 := Tryz.isAgg309
  z212 := Tryz.sizeOf309
  v212 := Tryz.zeroValue309
  t213 := Tryz.underlying310
  a213 := Tryz.isAgg310
  z213 := Tryz.sizeOf310
  t232 := Tryz.underlying322
  a232 := Tryz.isAgg322
  z232 := Tryz.sizeOf322
  v232 := Tryz.zeroValue322
  t233 := Tryz.underlying323
  a233 := Tryz.isAgg323
  z233 := Tryz.sizeOf323
  v233 := Tryz.zeroValue323
  g17 := by kernel_rfl
  g18 := by kernel_rfl
  g19 := by kernel_rfl
  i0 := by kernel_rfl
  i2 := by kernel_rfl
  i3 := by kernel_rfl
  i4 := by kernel_rfl
  i5 := by kernel_rfl
  i9 := by kernel_rfl
  i20 := by kernel_rfl
  i37 := by kernel_rfl
  i46 := by kernel_rfl
  i51 := by kernel_rfl
  i53 := by kernel_rfl
  i171 := by kernel_rfl
  i173 := by kernel_rfl
  i212 := by kernel_rfl
  i232 := by kernel_rfl
  i233 := by kernel_rfl
  m17 := by kernel_rfl
  m18 := by kernel_rfl
  m19 := by kernel_rfl }
def Tryz.laysC174_ren : Go.Shelf.Ren := ⟨fun | 174 => 260 | 247 => 306 | 245 => 307 | 287 => 334 | 279 => 335 | 280 => 336 | 281 => 337 | 282 => 338 | 321 => 348 | 322 => 349 | 316 => 350 | 171 => 352 | 205 => 351 | 243 => 357 | 246 => 270 | 283 => 312 | 284 => 313 | 285 => 314 | 286 => 315 | 129 => 340 | 317 => 339 | 318 => 341 | 319 => 342 | 320 => 343 | 337 => 353 | 338 => 354 | n => n, fun | 9 => 9 | 3 => 3 | 2 => 2 | 75 => 225 | 85 => 254 | 4 => 4 | 167 => 302 | 5 => 5 | 53 => 271 | 175 => 303 | 46 => 173 | 168 => 305 | 37 => 213 | 0 => 0 | 210 => 315 | 21 => 21 | 127 => 259 | 145 => 321 | 143 => 319 | 171 => 285 | 173 => 288 | 212 => 309 | 51 => 268 | 20 => 20 | 213 => 310 | 232 => 322 | 233 => 323 | 80 => 137 | n => n, fun | 15 => 4 | 16 => 5 | 17 => 2 | 18 => 6 | 19 => 7 | n => n⟩
theorem Tryz.laysC174 : Go.Proofs.LaysC.n174 Tryz.prog Tryz.laysC174_ren := {
  mixed := by kernel_rfl
  f129 := Tryz.func340.trans (congrArg some (by kernel_rfl))
  f171 := Tryz.func352.trans (congrArg some (by kernel_rfl))
  f174 := Tryz.func260.trans (congrArg some (by kernel_rfl))
  f205 := Tryz.func351.trans (congrArg some (by kernel_rfl))
  f243 := Tryz.func357.trans (congrArg some (by kernel_rfl))
  f245 := Tryz.func307.trans (congrArg some (by kernel_rfl))
  f246 := Tryz.func270.trans (congrArg some (by kernel_rfl))
  f247 := Tryz.func306.trans (congrArg some (by kernel_rfl))
  f279 := Tryz.func335.trans (congrArg some (by kernel_rfl))
  f280 := Tryz.func336.trans (congrArg some (by kernel_rfl))
  f281 := Tryz.func337.trans (congrArg some (by kernel_rfl))
  f282 := Tryz.func338.trans (congrArg some (by kernel_rfl))
  f283 := Tryz.func312.trans (congrArg some (by kernel_rfl))
  f284 := Tryz.func313.trans (congrArg some (by kernel_rfl))
  f285 := Tryz.func314.trans (congrArg some (by kernel_rfl))
  f286 := Tryz.func315.trans (congrArg some (by kernel_rfl))
  f287 := Tryz.func334.trans (congrArg some (by kernel_rfl))
  f316 := Tryz.func350.trans (congrArg some (by kernel_rfl))
  f317 := Tryz.func339.trans (congrArg some (by kernel_rfl))
  f318 := Tryz.func341.trans (congrArg some (by kernel_rfl))
  f319 := Tryz.func342.trans (congrArg some (by kernel_rfl))
  f320 := Tryz.func343.trans (congrArg some (by kernel_rfl))
  f321 := Tryz.func348.trans (congrArg some (by kernel_rfl))
  f322 := Tryz.func349.trans (congrArg some (by kernel_rfl))
  f337 := Tryz.func353.trans (congrArg some (by kernel_rfl))
  f338 := Tryz.func354.trans (congrArg some (by kernel_rfl))
  t0 := Tryz.underlying0
  a0 := Tryz.isAgg0
  z0 := Tryz.sizeOf0
  v0 := Tryz.zeroValue0
  t2 := Tryz.underlying2
  a2 := Tryz.isAgg2
  z2 := Tryz.sizeOf2
  v2 := Tryz.zeroValue2
  t3 := Tryz.underlying3
  a3 := Tryz.isAgg3
  z3 := Tryz.sizeOf3
  v3 := Tryz.zeroValue3
  t4 := Tryz.underlying4
  a4 := Tryz.isAgg4
  z4 := Tryz.sizeOf4
  v4 := Tryz.zeroValue4
  t5 := Tryz.underlying5
  a5 := Tryz.isAgg5
  z5 := Tryz.sizeOf5
  v5 := Tryz.zeroValue5
  t9 := Tryz.underlying9
  a9 := Tryz.isAgg9
  z9 := Tryz.sizeOf9
  v9 := Tryz.zeroValue9
  t20 := Tryz.underlying20
  a20 := Tryz.isAgg20
  z20 := Tryz.sizeOf20
  v20 := Tryz.zeroValue20
  t21 := Tryz.underlying21
  a21 := Tryz.isAgg21
  z21 := Tryz.sizeOf21
  v21 := Tryz.zeroValue21
  t37 := Tryz.underlying213
  a37 := Tryz.isAgg213
  z37 := Tryz.sizeOf213
  v37 := Tryz.zeroValue213
  t46 := Tryz.underlying173
  a46 := Tryz.isAgg173
  z46 := Tryz.sizeOf173
  v46 := Tryz.zeroValue173
  t51 := Tryz.underlying268
  a51 := Tryz.isAgg268
  z51 := Tryz.sizeOf268
  v51 := Tryz.zeroValue268
  t53 := Tryz.underlying271
  a53 := Tryz.isAgg271
  z53 := Tryz.sizeOf271
  v53 := Tryz.zeroValue271
  t75 := Tryz.underlying225
  a75 := Tryz.isAgg225
  z75 := Tryz.sizeOf225
  v75 := Tryz.zeroValue225
  t85 := Tryz.underlying254
  a85 := Tryz.isAgg254
  z85 := Tryz.sizeOf254
  v85 := Tryz.zeroValue254
  t127 := Tryz.underlying259
  a127 := Tryz.isAgg259
  z127 := Tryz.sizeOf259
  v127 := Tryz.zeroValue259
  t143 := Tryz.underlying319
  a143 := Tryz.isAgg319
  z143 := Tryz.sizeOf319
  v143 := Tryz.zeroValue319
  t145 := Tryz.underlying321
  a145 := Tryz.isAgg321
  z145 := Tryz.sizeOf321
  v145 := Tryz.zeroValue321
  t167 := Tryz.underlying302
  a167 := Tryz.isAgg302
  z167 := Tryz.sizeOf302
  v167 := Tryz.zeroValue302
  t168 := Tryz.underlying305
  a168 := Tryz.isAgg305
  z168 := Tryz.sizeOf305
  v168 := Tryz.zeroValue305
  t171 := Tryz.underlying285
  a171 := Tryz.isAgg285
  z171 := Tryz.sizeOf285
  v171 := Tryz.zeroValue285
  t173 := Tryz.underlying288
  a173 := Tryz.isAgg288
  z173 := Tryz.sizeOf288
  v173 := Tryz.zeroValue288
  t175 := Tryz.underlying303
  a175 := Tryz.isAgg303
  z175 := Tryz.sizeOf303
  v175 := Tryz.zeroValue303
  t210 := Tryz.underlying315
  a210 := Tryz.isAgg315
  z210 := Tryz.sizeOf315
  v210 := Tryz.zeroValue315
  t212 := Tryz.underlying309
  a212 := Tryz.isAgg309
  z212 := Tryz.sizeOf309
  v212 := Tryz.zeroValue309
  t213 := Tryz.underlying310
  a213 := Tryz.isAgg310
  z213 := Tryz.sizeOf310
  t232 := Tryz.underlying322
  a232 := Tryz.isAgg322
  z232 := Tryz.sizeOf322
  v232 := Tryz.zeroValue322
  t233 := Tryz.underlying323
  a233 := Tryz.isAgg323
  z233 := Tryz.sizeOf323
  v233 := Tryz.zeroValue323
  g15 := by kernel_rfl
  g16 := by kernel_rfl
  g17 := by kernel_rfl
  g18 := by kernel_rfl
  g19 := by kernel_rfl
  t80 := Tryz.underlying137
  a80 := Tryz.isAgg137
  z80 := Tryz.sizeOf137
  v80 := Tryz.zeroValue137
  i0 := by kernel_rfl
  i2 := by kernel_rfl
  i3 := by kernel_rfl
  i4 := by kernel_rfl
  i5 := by kernel_rfl
  i9 := by kernel_rfl
  i20 := by kernel_rfl
  i21 := by kernel_rfl
  i37 := by kernel_rfl
  i46 := by kernel_rfl
  i51 := by kernel_rfl
  i53 := by kernel_rfl
  i75 := by kernel_rfl
  i80 := by kernel_rfl
  i85 := by kernel_rfl
  i127 := by kernel_rfl
  i143 := by kernel_rfl
  i145 := by kernel_rfl
  i167 := by kernel_rfl
  i168 := by kernel_rfl
  i171 := by kernel_rfl
  i173 := by kernel_rfl
  i175 := by kernel_rfl
  i210 := by kernel_rfl
  i212 := by kernel_rfl
  i232 := by kernel_rfl
  i233 := by kernel_rfl
  m15 := by kernel_rfl
  m16 := by kernel_rfl
  m17 := by kernel_rfl
  m18 := by kernel_rfl
  m19 := by kernel_rfl
  c0 := by kernel_rfl
  c2 := by kernel_rfl
  c3 := by kernel_rfl
  c4 := by kernel_rfl
  c5 := by kernel_rfl
  c9 := by kernel_rfl
  c20 := by kernel_rfl
  c21 := by kernel_rfl
  c37 := by kernel_rfl
  c46 := by kernel_rfl
  c51 := by kernel_rfl
  c53 := by kernel_rfl
  c75 := by kernel_rfl
  c80 := by kernel_rfl
  c85 := by kernel_rfl
  c127 := by kernel_rfl
  c143 := by kernel_rfl
  c145 := by kernel_rfl
  c167 := by kernel_rfl
  c168 := by kernel_rfl
  c171 := by kernel_rfl
  c173 := by kernel_rfl
  c175 := by kernel_rfl
  c210 := by kernel_rfl
  c212 := by kernel_rfl
  c213 := by kernel_rfl
  c232 := by kernel_rfl
  c233 := by kernel_rfl }
def Tryz.lays144_ren : Go.Shelf.Ren := ⟨fun | 144 => 209 | 143 => 271 | 219 => 316 | 217 => 283 | 225 => 322 | 224 => 321 | 267 => 344 | 266 => 328 | 314 => 355 | n => n, fun | 9 => 9 | 4 => 4 | 3 => 3 | 5 => 5 | 46 => 173 | 146 => 269 | 51 => 268 | n => n, fun | 1 => 3 | n => n⟩
theorem Tryz.lays144 : Go.Proofs.Lays.n144 Tryz.prog Tryz.lays144_ren := {
  mixed := by kernel_rfl
  f143 := Tryz.func271.trans (congrArg some (by kernel_rfl))
  f144 := Tryz.func209.trans (congrArg some (by kernel_rfl))
  f217 := Tryz.func283.trans (congrArg some (by kernel_rfl))
  f219 := Tryz.func316.trans (congrArg some (by kernel_rfl))
  f224 := Tryz.func321.trans (congrArg some (by kernel_rfl))
  f225 := Tryz.func322.trans (congrArg some (by kernel_rfl))
  f266 := Tryz.func328.trans (congrArg some (by kernel_rfl))
  f267 := Tryz.func344.trans (congrArg some (by kernel_rfl))
  f314 := Tryz.func355.trans (congrArg some (by kernel_rfl))
  t3 := Tryz.underlying3
  a3 := Tryz.isAgg3
  z3 := Tryz.sizeOf3
  v3 := Tryz.zeroValue3
  t4 := Tryz.underlying4
  a4 := Tryz.isAgg4
  z4 := Tryz.sizeOf4
  v4 := Tryz.zeroValue4
  t5 := Tryz.underlying5
  a5 := Tryz.isAgg5
  z5 := Tryz.sizeOf5
  v5 := Tryz.zeroValue5
  t9 := Tryz.underlying9
  a9 := Tryz.isAgg9
  z9 := Tryz.sizeOf9
  v9 := Tryz.zeroValue9
  t46 := Tryz.underlying173
  a46 := Tryz.isAgg173
  z46 := Tryz.sizeOf173
  v46 := Tryz.zeroValue173
  t51 := Tryz.underlying268
  a51 := Tryz.isAgg268
  z51 := Tryz.sizeOf268
  v51 := Tryz.zeroValue268
  t146 := Tryz.underlying269
  a146 := Tryz.isAgg269
  z146 := Tryz.sizeOf269
  v146 := Tryz.zeroValue269
  g1 := by kernel_rfl }
def Tryz.lays99_ren : Go.Shelf.Ren := ⟨fun | 99 => 217 | 206 => 275 | n => n, fun | 9 => 9 | 4 => 4 | 3 => 3 | n => n, fun | n => n⟩
theorem Tryz.lays99 : Go.Proofs.Lays.n99 Tryz.prog Tryz.lays99_ren := {
  mixed := by kernel_rfl
  f99 := Tryz.func217.trans (congrArg some (by kernel_rfl))
  f206 := Tryz.func275.trans (congrArg some (by kernel_rfl))
  t3 := Tryz.underlying3
  a3 := Tryz.isAgg3
  z3 := Tryz.sizeOf3
  v3 := Tryz.zeroValue3
  t4 := Tryz.underlying4
  a4 := Tryz.isAgg4
  z4 := Tryz.sizeOf4
  v4 := Tryz.zeroValue4
  t9 := Tryz.underlying9
  a9 := Tryz.isAgg9
  z9 := Tryz.sizeOf9
  v9 := Tryz.zeroValue9 }
def Tryz.lays197_ren : Go.Shelf.Ren := ⟨fun | 197 => 272 | 260 => 317 | n => n, fun | 9 => 9 | 21 => 21 | 3 => 3 | 4 => 4 | 5 => 5 | 105 => 257 | 119 => 281 | 0 => 0 | 46 => 173 | 139 => 284 | 138 => 283 | n => n, fun | 3 => 0 | 4 => 1 | n => n⟩
theorem Tryz.lays197 : Go.Proofs.Lays.n197 Tryz.prog Tryz.lays197_ren := {
  mixed := by kernel_rfl
  f197 := Tryz.func272.trans (congrArg some (by kernel_rfl))
  f260 := Tryz.func317.trans (congrArg some (by kernel_rfl))
  t0 := Tryz.underlying0
  a0 := Tryz.isAgg0
  z0 := Tryz.sizeOf0
  v0 := Tryz.zeroValue0
  t3 := Tryz.underlying3
  a3 := Tryz.isAgg3
  z3 := Tryz.sizeOf3
  v3 := Tryz.zeroValue3
  t4 := Tryz.underlying4
  a4 := Tryz.isAgg4
  z4 := Tryz.sizeOf4
  v4 := Tryz.zeroValue4
  t5 := Tryz.underlying5
  a5 := Tryz.isAgg5
  z5 := Tryz.sizeOf5
  v5 := Tryz.zeroValue5
  t9 := Tryz.underlying9
  a9 := Tryz.isAgg9
  z9 := Tryz.sizeOf9
  v9 := Tryz.zeroValue9
  t21 := Tryz.underlying21
  a21 := Tryz.isAgg21
  z21 := Tryz.sizeOf21
  v21 := Tryz.zeroValue21
  t46 := Tryz.underlying173
  a46 := Tryz.isAgg173
  z46 := Tryz.sizeOf173
  v46 := Tryz.zeroValue173
  t105 := Tryz.underlying257
  a105 := Tryz.isAgg257
  z105 := Tryz.sizeOf257
  v105 := Tryz.zeroValue257
  t119 := Tryz.underlying281
  a119 := Tryz.isAgg281
  z119 := Tryz.sizeOf281
  t138 := Tryz.underlying283
  a138 := Tryz.isAgg283
  z138 := Tryz.sizeOf283
  v138 := Tryz.zeroValue283
  t139 := Tryz.underlying284
  a139 := Tryz.isAgg284
  z139 := Tryz.sizeOf284
  v139 := Tryz.zeroValue284
  g3 := by kernel_rfl
  g4 := by kernel_rfl }
open Go.RowKit Go.Sort Go.Lib in
theorem Tryz.strconv_FormatInt_10 (n : Int) (h0 : -9223372036854775808 ≤ n) (h1 : n ≤ 9223372036854775807) (w : World) (htab : Lib.TabIs Tryz.prog w "internal/strconv.uint64pow10" .u64 Lib.pow10Tab) :
    Calls Tryz.prog 206 #[.int .i64 n, .int .i64 10] w fun e w' => e = .returned (.string ⟨(Lib.itoa n).toArray⟩) ∧ ∃ k os, w' = grow (w.drewN k) os := Any.strconv_FormatInt_10 Tryz.laysM173 n h0 h1 w htab
open Go.RowKit in
theorem Tryz.strconv_ParseInt_10_at64_ok (s : ByteArray) (hmax : s.size ≤ 9223372036854775806) (v : Int) (h : Lib.parseIntB 64 s.data.toList = .ok v) (w : World) :
    Calls Tryz.prog 260 #[.string s, .int .i64 10, .int .i64 64] w fun e w' => e = .returned (.tuple #[.int .i64 v, .nilIface]) ∧ (w' = w ∨ ∃ t, w' = Lib.bytesWorld w 5 t) := Any.strconv_ParseInt_10_at64_ok Tryz.laysC174 s hmax v h w
open Go.RowKit in
theorem Tryz.strconv_ParseInt_10_at64_syntax (s : ByteArray) (hlim : s.size ≤ 281474976710656) (h : Lib.parseIntB 64 s.data.toList = Lib.NumEnd.syntax) (ev : Value) (w : World) (hv : w.cell? ⟨4, 0, none⟩ = some ev) (hev : ev = .nilIface ∨ ∃ te pe, ev = .iface te pe) :
    Calls Tryz.prog 260 #[.string s, .int .i64 10, .int .i64 64] w fun e w' => ∃ N, e = .returned (.tuple #[.int .i64 (0), .iface 305 (.pointer (some ⟨N, 0, none⟩))]) ∧ w.heap.size ≤ N ∧ w'.heap[N]? = some (.cells #[.string ⟨#[80, 97, 114, 115, 101, 73, 110, 116]⟩, .string s, ev] 315 (0, 0)) ∧ Below w.heap.size w w' := Any.strconv_ParseInt_10_at64_syntax Tryz.laysC174 s hlim h ev w hv hev
open Go.RowKit in
theorem Tryz.strconv_ParseInt_10_at64_range (s : ByteArray) (hlim : s.size ≤ 281474976710656) (h : Lib.parseIntB 64 s.data.toList = .range) (ev : Value) (w : World) (hv : w.cell? ⟨5, 0, none⟩ = some ev) (hev : ev = .nilIface ∨ ∃ te pe, ev = .iface te pe) :
    Calls Tryz.prog 260 #[.string s, .int .i64 10, .int .i64 64] w fun e w' => ∃ N, e = .returned (.tuple #[.int .i64 (Lib.intSat 64 s.data.toList), .iface 305 (.pointer (some ⟨N, 0, none⟩))]) ∧ w.heap.size ≤ N ∧ w'.heap[N]? = some (.cells #[.string ⟨#[80, 97, 114, 115, 101, 73, 110, 116]⟩, .string s, ev] 315 (0, 0)) ∧ Below w.heap.size w w' := Any.strconv_ParseInt_10_at64_range Tryz.laysC174 s hlim h ev w hv hev
open Go.RowKit Go.Lib in
theorem Tryz.strings_Contains_one (s : ByteArray) (c : UInt8) (w : World) :
    Calls Tryz.prog 209 #[.string s, .string ⟨#[c]⟩] w fun e w' => e = .returned (.bool (decide (0 ≤ Lib.indexByte s.data.toList c))) ∧ w' = w := Any.strings_Contains_one Tryz.lays144 s c w
open Go.RowKit Go.Lib in
theorem Tryz.strings_HasPrefix (s p : ByteArray) (w : World) :
    Calls Tryz.prog 217 #[.string s, .string p] w fun e w' => e = .returned (.bool (Lib.hasPrefix s.data.toList p.data.toList)) ∧ w' = w := Any.strings_HasPrefix Tryz.lays99 s p w
open Go.RowKit Go.Lib in
theorem Tryz.utf8_DecodeRuneInString (s : ByteArray) (w : World) (hT : Lib.Utf8Tabs 0 1 w) :
    Calls Tryz.prog 272 #[.string s] w fun e w' => e = .returned (.tuple #[.int .i32 (Lib.decodeGo s).1, .int .i64 (Lib.decodeGo s).2]) ∧ Below w.heap.size w w' := Any.utf8_DecodeRuneInString Tryz.lays197 s w hT
def Tryz.lays196_ren : Go.Shelf.Ren := ⟨fun | 196 => 268 | 259 => 311 | n => n, fun | 9 => 9 | 4 => 4 | 3 => 3 | 5 => 5 | 12 => 12 | 119 => 281 | 0 => 0 | 46 => 173 | 139 => 284 | 138 => 283 | 53 => 271 | n => n, fun | 3 => 0 | 4 => 1 | n => n⟩
theorem Tryz.lays196 : Go.Proofs.Lays.n196 Tryz.prog Tryz.lays196_ren := {
  mixed := by kernel_rfl
  f196 := Tryz.func268.trans (congrArg some (by kernel_rfl))
  f259 := Tryz.func311.trans (congrArg some (by kernel_rfl))
  t0 := Tryz.underlying0
  a0 := Tryz.isAgg0
  z0 := Tryz.sizeOf0
  v0 := Tryz.zeroValue0
  t3 := Tryz.underlying3
  a3 := Tryz.isAgg3
  z3 := Tryz.sizeOf3
  v3 := Tryz.zeroValue3
  t4 := Tryz.underlying4
  a4 := Tryz.isAgg4
  z4 := Tryz.sizeOf4
  v4 := Tryz.zeroValue4
  t5 := Tryz.underlying5
  a5 := Tryz.isAgg5
  z5 := Tryz.sizeOf5
  v5 := Tryz.zeroValue5
  t9 := Tryz.underlying9
  a9 := Tryz.isAgg9
  z9 := Tryz.sizeOf9
  v9 := Tryz.zeroValue9
  t12 := Tryz.underlying12
  a12 := Tryz.isAgg12
  z12 := Tryz.sizeOf12
  v12 := Tryz.zeroValue12
  t46 := Tryz.underlying173
  a46 := Tryz.isAgg173
  z46 := Tryz.sizeOf173
  v46 := Tryz.zeroValue173
  t53 := Tryz.underlying271
  a53 := Tryz.isAgg271
  z53 := Tryz.sizeOf271
  v53 := Tryz.zeroValue271
  t119 := Tryz.underlying281
  a119 := Tryz.isAgg281
  z119 := Tryz.sizeOf281
  t138 := Tryz.underlying283
  a138 := Tryz.isAgg283
  z138 := Tryz.sizeOf283
  v138 := Tryz.zeroValue283
  t139 := Tryz.underlying284
  a139 := Tryz.isAgg284
  z139 := Tryz.sizeOf284
  v139 := Tryz.zeroValue284
  g3 := by kernel_rfl
  g4 := by kernel_rfl }
end Go.Proofs
namespace Go.Proofs.YticbbfbpeimkbaaGreatDoor
open Go.Ab Go.RowKit Go.Sort Go.Lib
theorem ext_below {γ : Gh} {w w' : World} (h : Below w.heap.size w w') : Ext (fun _ => False) γ w γ w' := by
  refine ⟨⟨h.size, fun b o v hc hp => ⟨hp, ?_⟩, fun b arr E fr hb => ⟨arr, ?_, rfl⟩⟩, h.os, h.output, fun a ha => ?_, fun b hb _ => ⟨rfl, h.block b hb⟩⟩
  · have hlt := World.block_lt_of_cell? w _ hc
    unfold World.cell? at hc ⊢
    rw [h.block _ hlt]; exact hc
  · have hlt := (Array.getElem?_eq_some_iff.1 hb).1
    rw [h.block b hlt]; exact hb
  · exact World.frozen?_of_block (h.block _ ha)
theorem Pure.of_below {P : Program} {f : FuncId} {args : List AV} {r : AV} (h : ∀ (γ : Gh) (w : World) (vs : List Value), TabOk γ w → RepAll γ w args vs → Calls P f vs.toArray w fun e w' => Below w.heap.size w w' ∧ ∃ v, e = .returned v ∧ Rep γ w' r v) : Pure P f args r := by
  intro γ w vs ht _ hv
  refine (h γ w vs ht hv).mono fun e w' ⟨hw, v, he, hr⟩ => ?_
  subst he
  exact ⟨γ, Heap.emp, .ret r, (ext_below hw).weaken fun _ f => f.elim, fun b o hb => by simp [Heap.emp] at hb, fun b hb => by simp [Heap.emp] at hb, hr, rfl, rfl⟩
theorem below_grow (w : World) (k : Nat) (os : Array Obj) : Below w.heap.size w (grow (w.drewN k) os) := by
  refine ⟨rfl, rfl, rfl, ?_, fun i hi => ?_⟩
  · show w.heap.size ≤ (w.heap ++ os).size; simp
  · show (w.heap ++ os)[i]? = w.heap[i]?
    rw [Array.getElem?_append_left hi]
theorem below_bytes (w : World) (e : TypeId) (t : ByteArray) : Below w.heap.size w (Lib.bytesWorld w e t) := by
  have h1 : Below w.heap.size w (w.drew.alloc (.cells (bytesCells w e t) e)) := (Below.refl _ w).drew.alloc (Nat.le_refl _) _
  unfold Lib.bytesWorld World.freeze
  simp only [Nat.one_ne_zero, if_false]
  refine ⟨h1.os, h1.tape, h1.output, ?_, fun i hi => ?_⟩
  · rw [Array.size_modify]; exact h1.size
  · rw [Array.getElem?_modify]
    have : ¬ (w.heap.size = i) := by omega
    simp only [this, if_false]
    exact h1.block i hi
theorem tab_at {γ : Gh} {w : World} (h : TabOk γ w) {i b : Nat} {ps : List (Value → Prop)} (hi : tabL[i]? = some (b, ps)) {j : Nat} {p : Value → Prop} (hj : ps[j]? = some p) : ∃ v, w.cell? ⟨b, j, none⟩ = some v ∧ p v := by
  obtain ⟨v, h1, h2⟩ := (h _ (List.mem_of_getElem? hi)).2 j p hj
  exact ⟨v, h1.1, h2⟩
theorem first_at : ∀ c : Fin 256, Go.Pinned.utf8FirstZ[c.val]? = some (Lib.firstT c.val) := by decide +kernel
def accZ : List Nat := [128, 191, 160, 191, 128, 159, 144, 191, 128, 143, 0, 0, 0, 0, 0, 0, 0, 0, 0, 0, 0, 0, 0, 0, 0, 0, 0, 0, 0, 0, 0, 0]
theorem acc_at : ∀ c : Fin 16, accZ[2 * c.val]? = some (Lib.accLo c.val) ∧ accZ[2 * c.val + 1]? = some (Lib.accHi c.val) := by decide +kernel
theorem utf8Tabs {γ : Gh} {w : World} (h : TabOk γ w) : Lib.Utf8Tabs 0 1 w := by
  refine ⟨fun c hc => ?_, fun c hc => ?_⟩
  · have hf := first_at ⟨c, hc⟩
    obtain ⟨v, h1, h2⟩ := tab_at h (i := 0) rfl (j := c) (p := fun v => v = .int .u8 (Lib.firstT c)) (by rw [List.getElem?_map, hf]; rfl)
    rw [h1, h2]
  · obtain ⟨g1, g2⟩ := acc_at ⟨c, hc⟩
    have hi : tabL[1]? = some (1, accZ.map fun (n : Nat) (v : Value) => v = .int .u8 n) := rfl
    obtain ⟨v, h1, h2⟩ := tab_at h hi (j := 2 * c) (p := fun v => v = .int .u8 (Lib.accLo c)) (by rw [List.getElem?_map, g1]; rfl)
    obtain ⟨u, h3, h4⟩ := tab_at h hi (j := 2 * c + 1) (p := fun v => v = .int .u8 (Lib.accHi c)) (by rw [List.getElem?_map, g2]; rfl)
    exact ⟨by rw [h1, h2], by rw [h3, h4]⟩
theorem arg_str {γ : Gh} {w : World} {s : List UInt8} {vs : List Value} (h : RepAll γ w [.str s] vs) : vs = [.string ⟨s.toArray⟩] := by
  obtain ⟨hl, hr⟩ := h
  match vs, hl with
  | [v], _ => cases hr 0 _ _ rfl rfl; rfl
theorem validC (s : List UInt8) (hs : s.length ≤ 9223372036854775807) : Pure Tryz.prog 268 [.str s] (.bool (Lib.validD s)) := by
  refine Pure.of_below fun γ w vs ht hv => ?_
  rw [arg_str hv]
  have h := Any.utf8_ValidString Tryz.lays196 ⟨s.toArray⟩ w (by simpa [ByteArray.size] using hs) (utf8Tabs ht)
  refine Calls.mono h fun e w' ⟨he, hb⟩ => ⟨hb, _, he, .bool _⟩
theorem prefixC (s p : List UInt8) : Pure Tryz.prog 217 [.str s, .str p] (.bool (p.isPrefixOf s)) := by
  refine Pure.of_below fun γ w vs ht hv => ?_
  obtain ⟨hl, hr⟩ := hv
  match vs, hl with
  | [v, u], _ =>
    cases hr 0 _ _ rfl rfl
    cases hr 1 _ _ rfl rfl
    exact (Tryz.strings_HasPrefix ⟨s.toArray⟩ ⟨p.toArray⟩ w).mono fun e w' ⟨he, hw⟩ => ⟨by rw [hw]; exact Below.refl _ _, _, he, .bool _⟩
def powZ : List Nat := [1, 10, 100, 1000, 10000, 100000, 1000000, 10000000, 100000000, 1000000000, 10000000000, 100000000000, 1000000000000, 10000000000000, 100000000000000, 1000000000000000, 10000000000000000, 100000000000000000, 1000000000000000000, 10000000000000000000]
theorem powZ_len : powZ.length = 20 := rfl
theorem pow10_at : Lib.pow10Tab = powZ.map fun (n : Nat) => (n : Int) := by decide +kernel
theorem powTab {γ : Gh} {w : World} (ht : TabOk γ w) : Lib.TabIs Tryz.prog w "internal/strconv.uint64pow10" .u64 Lib.pow10Tab := by
  have hmem : tabL[2]? = some (2, powZ.map fun (n : Nat) (v : Value) => v = .int .u64 n) := rfl
  obtain ⟨⟨arr, E, fr, g1, g2⟩, g3⟩ := ht _ (List.mem_of_getElem? hmem)
  have hg : Tryz.prog.globalNamed "internal/strconv.uint64pow10" = some 2 := by kernel_rfl
  unfold Lib.TabIs World.var?
  rw [hg]
  simp only [Option.bind_some]
  rw [show w.heap[2]? = _ from g1]
  simp only [Option.some.injEq]
  refine Array.ext_getElem? fun j => ?_
  simp only [List.length_map] at g2
  by_cases hj : j < 20
  · have hj' : j < powZ.length := hj
    obtain ⟨v, h1, h2⟩ := g3 j (fun v => v = .int .u64 ((powZ[j] : Nat) : Int)) (by rw [List.getElem?_map, List.getElem?_eq_getElem hj']; rfl)
    have h3 := h1.1
    simp only [World.cell?] at h3
    rw [show w.heap[2]? = _ from g1] at h3
    have h4 : arr[j]? = some v := by simpa using h3
    rw [h4, h2, pow10_at]
    simp only [List.map_map, List.getElem?_toArray, List.getElem?_map, List.getElem?_eq_getElem hj', Option.map_some, Function.comp]
  · rw [Array.getElem?_eq_none (by rw [g2, powZ_len]; omega), Array.getElem?_eq_none (by simp [pow10_at, powZ_len]; omega)]
theorem formatIntC (n : Int) (h0 : -9223372036854775808 ≤ n) (h1 : n ≤ 9223372036854775807) : Pure Tryz.prog 206 [.int .i64 n, .int .i64 10] (.str (Lib.itoa n)) := by
  refine Pure.of_below fun γ w vs ht hv => ?_
  obtain ⟨hl, hr⟩ := hv
  match vs, hl with
  | [v, u], _ =>
    cases hr 0 _ _ rfl rfl
    cases hr 1 _ _ rfl rfl
    exact (Tryz.strconv_FormatInt_10 n h0 h1 w (powTab ht)).mono fun e w' ⟨he, k, os, hw⟩ => ⟨by rw [hw]; exact below_grow _ _ _, _, he, .str _⟩
theorem errRange_at {γ : Gh} {w : World} (h : TabOk γ w) : ∃ v, w.cell? ⟨5, 0, none⟩ = some v ∧ ∃ te pe, v = .iface te pe := tab_at h (i := 5) rfl (j := 0) rfl
theorem errSyntax_at {γ : Gh} {w : World} (h : TabOk γ w) : ∃ v, w.cell? ⟨4, 0, none⟩ = some v ∧ ∃ te pe, v = .iface te pe := tab_at h (i := 4) rfl (j := 0) rfl
def parseA (s : List UInt8) : AV :=
  match Lib.parseIntB 64 s with
  | .ok v => .tup [.int .i64 v, .oth .nilIface]
  | Lib.NumEnd.syntax => .tup [.int .i64 0, .ifc 305 .any]
  | .range => .tup [.int .i64 (Lib.intSat 64 s), .ifc 305 .any]
theorem rep_two {γ : Gh} {w : World} {a b : AV} {v u : Value} (h1 : Rep γ w a v) (h2 : Rep γ w b u) : Rep γ w (.tup [a, b]) (.tuple #[v, u]) := .tup _ [v, u] rfl (RepAll.cons h1 (RepAll.cons h2 RepAll.nil)).2
theorem parseIntC (s : List UInt8) (hs : s.length ≤ 281474976710656) : Pure Tryz.prog 260 [.str s, .int .i64 10, .int .i64 64] (parseA s) := by
  refine Pure.of_below fun γ w vs ht hv => ?_
  obtain ⟨hl, hr⟩ := hv
  match vs, hl with
  | [v, u, x], _ =>
    cases hr 0 _ _ rfl rfl
    cases hr 1 _ _ rfl rfl
    cases hr 2 _ _ rfl rfl
    have hsz : (⟨s.toArray⟩ : ByteArray).size = s.length := rfl
    unfold parseA
    rcases hp : Lib.parseIntB 64 s with v | _ | _
    · refine (Tryz.strconv_ParseInt_10_at64_ok ⟨s.toArray⟩ (by rw [hsz]; omega) v hp w).mono fun e w' ⟨he, hw⟩ => ⟨?_, _, he, rep_two (.int _ _) (.oth _)⟩
      rcases hw with rfl | ⟨t, rfl⟩
      · exact Below.refl _ _
      · exact below_bytes _ _ _
    · obtain ⟨ev, h1, h2⟩ := errSyntax_at ht
      exact (Tryz.strconv_ParseInt_10_at64_syntax ⟨s.toArray⟩ (by rw [hsz]; omega) hp ev w h1 (.inr h2)).mono fun e w' ⟨N, he, _, _, hb⟩ => ⟨hb, _, he, rep_two (.int _ _) (.ifc _ _ _ (.any _))⟩
    · obtain ⟨ev, h1, h2⟩ := errRange_at ht
      exact (Tryz.strconv_ParseInt_10_at64_range ⟨s.toArray⟩ (by rw [hsz]; omega) hp ev w h1 (.inr h2)).mono fun e w' ⟨N, he, _, _, hb⟩ => ⟨hb, _, he, rep_two (.int _ _) (.ifc _ _ _ (.any _))⟩
end Go.Proofs.YticbbfbpeimkbaaGreatDoor
namespace Go.Proofs.YticbbfbpeimkbaaGreatDoor
open Go.Ab Go.Lib
open Go.ChangeShapes Go.WideShapes Go.ChangeAt Go.RowKit Go.WideElems
mutual
theorem bulk_eq {H : Type} : ∀ d : DataW H, Rows.uptoBulk d = blk d
  | .lit (.string _) => rfl
  | .lit (.bool _) => rfl
  | .lit (.int _ _) => rfl
  | .lit (.float _ _) => rfl
  | .lit .nil => rfl
  | .nil => rfl
  | .ptr d => by simp only [Rows.uptoBulk, blk, bulk_eq d]
  | .slice e s => by simp only [Rows.uptoBulk, blk, bulkAll_eq e, bulkAll_eq s]
  | .agg e => by simp only [Rows.uptoBulk, blk, bulkAll_eq e]
  | .iface _ d => by simp only [Rows.uptoBulk, blk, bulk_eq d]
  | .map e => by simp only [Rows.uptoBulk, blk, bulkEs_eq e]
  | .held _ => rfl
theorem bulkAll_eq {H : Type} : ∀ d : List (DataW H), Rows.uptoBulkAll d = blkAll d
  | [] => rfl
  | d :: r => by simp only [Rows.uptoBulkAll, blkAll, bulk_eq d, bulkAll_eq r]
theorem bulkEs_eq {H : Type} : ∀ d : List (Lit × DataW H), Rows.uptoBulkEntries d = blkEs d
  | [] => rfl
  | x :: r => by simp only [Rows.uptoBulkEntries, blkEs, bulkE_eq x, bulkEs_eq r]
theorem bulkE_eq {H : Type} : ∀ d : Lit × DataW H, Rows.uptoBulkEntry d = blkE d
  | (.string _, d) => by simp only [Rows.uptoBulkEntry, blkE, bulk_eq d]
  | (.bool _, d) => by simp only [Rows.uptoBulkEntry, blkE, bulk_eq d]
  | (.int _ _, d) => by simp only [Rows.uptoBulkEntry, blkE, bulk_eq d]
  | (.float _ _, d) => by simp only [Rows.uptoBulkEntry, blkE, bulk_eq d]
  | (.nil, d) => by simp only [Rows.uptoBulkEntry, blkE, bulk_eq d]
end
def EntryOk (W : World) (g : Nat) (ps : List (Value → Prop)) : Prop :=
  (∃ (arr : Array Value) (E : TypeId) (fr : Nat × Nat), W.heap[g]? = some (.cells arr E fr) ∧ arr.size = ps.length) ∧ ∀ (j : Nat) (p : Value → Prop), ps[j]? = some p → ∃ v, CellIs immG W g j v ∧ p v
theorem entry_of_var {W : World} {n : String} {g : Nat} {cs : Array Value} {ps : List (Value → Prop)} (hg : Tryz.prog.globalNamed n = some g) (hv : W.var? Tryz.prog n = some cs) (hl : cs.size = ps.length)
    (h : ∀ (j : Nat) (p : Value → Prop) v, ps[j]? = some p → cs[j]? = some v → v.oneCell' = true ∧ p v) : EntryOk W g ps := by
  refine ⟨?_, fun j p hp => ?_⟩
  · have h1 := hv
    simp only [World.var?, hg, Option.bind_some] at h1
    split at h1
    · rename_i c t fr he
      cases h1
      exact ⟨_, _, _, he, hl⟩
    · cases h1
  · have hj : j < cs.size := by
      have := (List.getElem?_eq_some_iff.1 hp).1
      omega
    have h1 := h j p cs[j] hp (Array.getElem?_eq_getElem hj)
    refine ⟨cs[j], ⟨?_, trivial, h1.1⟩, h1.2⟩
    rw [World.var?_cell hg hv j, Array.getElem?_eq_getElem hj]
theorem entry_ints {W : World} {n : String} {g cnt : Nat} {t e : TypeId} {k : IntKind} {zs : List Nat} (hg : Tryz.prog.globalNamed n = some g) (hty : (Tryz.prog.globals[g]?).map (·.type) = some t) (ht : Tryz.prog.underlying t = some (.array cnt e)) (he : Tryz.prog.underlying e = some (.int k)) (hce : Tryz.prog.cellsOf e = 1) (hct : Tryz.prog.cellsOf t = cnt)
    (h : VarReads Tryz.prog W n (tabData k (zs.map fun (z : Nat) => (z : Int)))) : EntryOk W g (zs.map fun (z : Nat) (v : Value) => v = .int k z) := by
  obtain ⟨g', t', cs, fuel, p, hg', ht', hvar, hd⟩ := h
  obtain rfl := Option.some.inj (hg.symm.trans hg')
  obtain rfl := Option.some.inj (hty.symm.trans ht')
  have hcs := cells_of_tab ht he hce hct hd
  refine entry_of_var hg hvar (by rw [← Array.length_toList, hcs]; simp) fun j p v hp hj => ?_
  rw [← Array.getElem?_toList, hcs] at hj
  simp only [List.getElem?_map, Option.map_eq_some_iff] at hp hj
  obtain ⟨z, hz, rfl⟩ := hp
  obtain ⟨y, ⟨z', hz', rfl⟩, rfl⟩ := hj
  rw [hz] at hz'
  cases hz'
  exact ⟨rfl, rfl⟩
theorem u8x : U8Extra Tryz.prog Tryz.lays196_ren := ⟨by kernel_rfl, by kernel_rfl, by kernel_rfl, by kernel_rfl, by kernel_rfl, by kernel_rfl, by kernel_rfl⟩
theorem acc_at2 : ∀ c : Fin 32, accZ[c.val]? = some (if c.val % 2 = 0 then Lib.accLo (c.val / 2) else Lib.accHi (c.val / 2)) := by decide +kernel
theorem entry_accept {W : World} (h1 : VarReads Tryz.prog W "unicode/utf8.first" firstData) (h2 : VarReads Tryz.prog W "unicode/utf8.acceptRanges" acceptData) : EntryOk W 1 (accZ.map fun (n : Nat) (v : Value) => v = .int .u8 n) := by
  have ht := utf8Tabs_of_readsT (U8Types.of196 Tryz.lays196) u8x h1 h2
  obtain ⟨g', t', cs, fuel, p, hg', ht', hvar, hd⟩ := h2
  obtain rfl := Option.some.inj ((show Tryz.prog.globalNamed "unicode/utf8.acceptRanges" = some 1 by kernel_rfl).symm.trans hg')
  obtain rfl := Option.some.inj (u8x.y4.symm.trans ht')
  have hcs : cs.size = 32 := by
    have h3 : fuel ≠ 0 := fun e => by subst e; simp [DataW.trod] at hd
    obtain ⟨fuel, rfl⟩ := Nat.exists_eq_succ_of_ne_zero h3
    have h4 : cs.toList.length = Tryz.prog.cellsOf (Tryz.lays196_ren.t 139) := by
      have hu := (U8Types.of196 Tryz.lays196).t139
      simp only [DataW.trod, hu, u8x.c138] at hd
      split at hd
      · rename_i hl; simpa using hl
      · cases hd
    rw [← Array.length_toList, h4]; exact (show Tryz.prog.cellsOf (Tryz.lays196_ren.t 139) = 32 by kernel_rfl)
  refine entry_of_var hg' hvar (by rw [hcs]; rfl) fun j p v hp hj => ?_
  have hj32 : j < 32 := by rw [← hcs]; exact (Array.getElem?_eq_some_iff.1 hj).1
  simp only [List.getElem?_map, Option.map_eq_some_iff] at hp
  obtain ⟨z, hz, rfl⟩ := hp
  rw [acc_at2 ⟨j, hj32⟩] at hz
  cases hz
  have ⟨a1, a2⟩ := ht.2 (j / 2) (by omega)
  rcases Nat.mod_two_eq_zero_or_one j with e | e
  · have e2 : 2 * (j / 2) = j := by omega
    rw [e2] at a1
    have h5 := (World.var?_cell hg' hvar j).symm.trans a1
    rw [hj] at h5
    cases h5
    simp [e, Value.oneCell']
  · have e2 : 2 * (j / 2) + 1 = j := by omega
    rw [e2] at a2
    have h5 := (World.var?_cell hg' hvar j).symm.trans a2
    rw [hj] at h5
    cases h5
    simp [e, Value.oneCell']
theorem entry_err {W : World} {n : String} {g : Nat} {t : TypeId} {s : String} {d : DataW Unit} (hg : Tryz.prog.globalNamed n = some g) (hty : (Tryz.prog.globals[g]?).map (·.type) = some t) {ms : Array (String × TypeId)} (hu : Tryz.prog.underlying t = some (.interface ms)) (h : VarReads Tryz.prog W n (.iface s d)) : EntryOk W g [fun v => ∃ te pe, v = .iface te pe] := by
  obtain ⟨g', t', cs, fuel, p, hg', ht', hvar, hd⟩ := h
  obtain rfl := Option.some.inj (hg.symm.trans hg')
  obtain rfl := Option.some.inj (hty.symm.trans ht')
  have h1 : ∃ te pe, cs.toList = [.iface te pe] := by
    cases fuel with
    | zero => simp [DataW.trod] at hd
    | succ fuel =>
      simp only [DataW.trod, hu] at hd
      split at hd
      all_goals first
        | (cases hd; done)
        | skip
      all_goals simp_all
      done
  obtain ⟨te, pe, he⟩ := h1
  refine entry_of_var hg hvar (by rw [← Array.length_toList, he]; rfl) fun j p v hp hj => ?_
  rw [← Array.getElem?_toList, he] at hj
  match j, hp, hj with
  | 0, hp, hj => cases hp; cases hj; exact ⟨rfl, _, _, rfl⟩
  | j + 1, hp, hj => simp at hp
theorem entry_int {W : World} (hS : W.ShapedOpen Tryz.prog) {g : Nat} {z : Array Value} {t : TypeId} {k : IntKind} (hg : g < Tryz.prog.globals.size) (h0 : (((begin Tryz.prog (fun _ _ => 0) default).world.heap[g]?).bind Obj.row?) = some (z, t)) (hz : z.size = 1) (hb : Tryz.prog.buildable t = true)
    (hts : Tryz.prog.cellTypes Tryz.prog.depth t = some [t]) (ht : Tryz.prog.underlying t = some (.int k)) : EntryOk W g [fun v => ∃ m, v = .int k m] := by
  obtain ⟨cs, h1, h2, h3⟩ := hS.1 g z t hg h0
  have hsz : cs.size = 1 := by rw [h2, hz]
  obtain ⟨ts, hts', _, hall⟩ := h3 hb
  rw [hts] at hts'
  cases hts'
  have h4 : cs[0]? = some cs[0] := Array.getElem?_eq_getElem (by omega)
  obtain ⟨u, hu, hc⟩ := hall 0 cs[0] h4
  cases hu
  have h5 : ∃ m, cs[0] = .int k m := by
    unfold Cell.ok at hc
    rw [ht] at hc
    generalize cs[0] = v at hc
    cases v <;> first | exact hc.elim | (obtain ⟨rfl, _⟩ := hc; exact ⟨_, rfl⟩)
  obtain ⟨m, hm⟩ := h5
  refine ⟨⟨cs, t, _, h1, hsz⟩, fun j p hp => ?_⟩
  match j, hp with
  | 0, hp =>
    cases hp
    refine ⟨.int k m, ⟨?_, trivial, rfl⟩, m, rfl⟩
    unfold World.cell?
    simp only [h1, h4, hm]
    simp
  | j + 1, hp => simp at hp
abbrev T64 : List Nat := [1, 10, 100, 1000, 10000, 100000, 1000000, 10000000, 100000000, 1000000000, 10000000000, 100000000000, 1000000000000, 10000000000000, 100000000000000, 1000000000000000, 10000000000000000, 100000000000000000, 1000000000000000000, 10000000000000000000]
abbrev B32 : List Nat := [0, 1, 28, 2, 29, 14, 24, 3, 30, 22, 20, 15, 25, 17, 4, 8, 31, 27, 13, 23, 21, 19, 16, 7, 26, 12, 18, 6, 11, 5, 10, 9]
abbrev B64 : List Nat := [0, 1, 56, 2, 57, 49, 28, 3, 61, 58, 42, 50, 38, 29, 17, 4, 62, 47, 59, 36, 45, 43, 51, 22, 53, 39, 33, 30, 24, 18, 12, 5, 63, 55, 48, 27, 60, 41, 37, 16, 46, 35, 44, 21, 52, 32, 23, 11, 54, 26, 40, 15, 34, 20, 31, 10, 25, 14, 19, 9, 13, 8, 7, 6]
abbrev laidL : List (String × DataW Unit) := [("math/bits.deBruijn32tab", Rows.laid_math_bits_deBruijn32tab), ("math/bits.deBruijn64tab", Rows.laid_math_bits_deBruijn64tab), ("internal/strconv.uint64pow10", Rows.laid_internal_strconv_uint64pow10), ("unicode/utf8.acceptRanges", Rows.laid_unicode_utf8_acceptRanges), ("strconv.ErrRange", Rows.laid_strconv_ErrRange), ("strconv.ErrSyntax", Rows.laid_strconv_ErrSyntax), ("unicode/utf8.first", Rows.laid_unicode_utf8_first)]
theorem tabs_ok {W : World} (hL : laidMetH Tryz.prog laidL W) (hS : W.ShapedOpen Tryz.prog) : TabOk immG W := by
  have hL' : laidMet Tryz.prog laidL W := hL
  have m1 : VarReads Tryz.prog W "unicode/utf8.first" (tabData .u8 (Go.Pinned.utf8FirstZ.map fun (z : Nat) => (z : Int))) := laidMet.reads hL' (d := Rows.laid_unicode_utf8_first) (.tail _ (.tail _ (.tail _ (.tail _ (.tail _ (.tail _ (.head _)))))))
  have m2 : VarReads Tryz.prog W "unicode/utf8.acceptRanges" acceptData := laidMet.reads hL' (d := Rows.laid_unicode_utf8_acceptRanges) (.tail _ (.tail _ (.tail _ (.head _))))
  have m3 : VarReads Tryz.prog W "internal/strconv.uint64pow10" (tabData .u64 (T64.map fun (z : Nat) => (z : Int))) := laidMet.reads hL' (d := Rows.laid_internal_strconv_uint64pow10) (.tail _ (.tail _ (.head _)))
  have m4 : VarReads Tryz.prog W "math/bits.deBruijn32tab" (tabData .u8 (B32.map fun (z : Nat) => (z : Int))) := laidMet.reads hL' (d := Rows.laid_math_bits_deBruijn32tab) (.head _)
  have m5 : VarReads Tryz.prog W "math/bits.deBruijn64tab" (tabData .u8 (B64.map fun (z : Nat) => (z : Int))) := laidMet.reads hL' (d := Rows.laid_math_bits_deBruijn64tab) (.tail _ (.head _))
  have m6 : VarReads Tryz.prog W "strconv.ErrSyntax" Rows.laid_strconv_ErrSyntax := laidMet.reads hL' (.tail _ (.tail _ (.tail _ (.tail _ (.tail _ (.head _))))))
  have m7 : VarReads Tryz.prog W "strconv.ErrRange" Rows.laid_strconv_ErrRange := laidMet.reads hL' (.tail _ (.tail _ (.tail _ (.tail _ (.head _)))))
  have m8 : firstData = tabData .u8 (Go.Pinned.utf8FirstZ.map fun (z : Nat) => (z : Int)) := by kernel_rfl
  have e1 : EntryOk W 0 (Go.Pinned.utf8FirstZ.map fun (n : Nat) (v : Value) => v = .int .u8 n) :=
    entry_ints (t := Tryz.lays196_ren.t 119) u8x.n3 u8x.y3 (U8Types.of196 Tryz.lays196).t119 (U8Types.of196 Tryz.lays196).t5 u8x.c5 u8x.c119 m1
  have e2 : EntryOk W 1 (accZ.map fun (n : Nat) (v : Value) => v = .int .u8 n) := entry_accept (m8 ▸ m1) m2
  have e3 : EntryOk W 2 (T64.map fun (n : Nat) (v : Value) => v = .int .u64 n) :=
    entry_ints (t := 309) (e := 271) (cnt := 20) (by kernel_rfl) (by kernel_rfl) (by kernel_rfl) (by kernel_rfl) (by kernel_rfl) (by kernel_rfl) m3
  have e4 : EntryOk W 6 (B32.map fun (n : Nat) (v : Value) => v = .int .u8 n) :=
    entry_ints (t := 322) (e := 5) (cnt := 32) (by kernel_rfl) (by kernel_rfl) (by kernel_rfl) (by kernel_rfl) (by kernel_rfl) (by kernel_rfl) m4
  have e5 : EntryOk W 7 (B64.map fun (n : Nat) (v : Value) => v = .int .u8 n) :=
    entry_ints (t := 323) (e := 5) (cnt := 64) (by kernel_rfl) (by kernel_rfl) (by kernel_rfl) (by kernel_rfl) (by kernel_rfl) (by kernel_rfl) m5
  have e6 : EntryOk W 4 [fun v => ∃ te pe, v = .iface te pe] := entry_err (t := 225) (by kernel_rfl) (by kernel_rfl) Tryz.underlying225 m6
  have e7 : EntryOk W 5 [fun v => ∃ te pe, v = .iface te pe] := entry_err (t := 225) (by kernel_rfl) (by kernel_rfl) Tryz.underlying225 m7
  have e8 : EntryOk W 3 [fun v => ∃ m, v = .int .i64 m] := entry_int hS (z := #[.int .i64 0]) (t := 3) (of_decide_eq_true (by kernel_rfl)) (by kernel_rfl) rfl (by kernel_rfl) (by kernel_rfl) (by kernel_rfl)
  intro x hx
  unfold tabL at hx
  simp only [List.mem_cons, List.not_mem_nil, or_false] at hx
  rcases hx with rfl | rfl | rfl | rfl | rfl | rfl | rfl | rfl <;> first | exact e1 | exact e2 | exact e3 | exact e4 | exact e5 | exact e6 | exact e7 | exact e8
noncomputable abbrev N0 : Nat := (World.settled Tryz.prog default).heap.size
noncomputable def laidWorld (os : Os) : World :=
  let w0 := World.holding Tryz.prog os ⟨#[.cells #[.string ⟨#[105, 110, 118, 97, 108, 105, 100, 32, 115, 121, 110, 116, 97, 120]⟩] 321, .cells #[.string ⟨#[118, 97, 108, 117, 101, 32, 111, 117, 116, 32, 111, 102, 32, 114, 97, 110, 103, 101]⟩] 321], #[], []⟩
  let put (h : Array Obj) (g : Nat) (cs : Array Value) : Array Obj := h.modify g fun
    | .cells _ t frozen => .cells cs t frozen
    | o => o
  let h1 := put w0.heap 0 (Go.Pinned.utf8FirstZ.map fun (z : Nat) => Value.int .u8 z).toArray
  let h2 := put h1 1 (accZ.map fun (z : Nat) => Value.int .u8 z).toArray
  let h3 := put h2 2 (T64.map fun (z : Nat) => Value.int .u64 z).toArray
  let h4 := put h3 6 (B32.map fun (z : Nat) => Value.int .u8 z).toArray
  let h5 := put h4 7 (B64.map fun (z : Nat) => Value.int .u8 z).toArray
  let h6 := put h5 4 #[.iface 319 (.pointer (some ⟨(World.settled Tryz.prog os).heap.size, 0, none⟩))]
  let h7 := put h6 5 #[.iface 319 (.pointer (some ⟨(World.settled Tryz.prog os).heap.size + 1, 0, none⟩))]
  { w0 with heap := h7 }
theorem laid_met (os : Os) (args : Array Value) : laidMet Tryz.prog laidL ((laidWorld os).forCall (fun _ _ => 0) ⟨#[], args, []⟩).memory :=
  (LaidIn.of_run (l := laidL) [0, 1, 2, 3, 4, 5, 6, 7, N0, N0 + 1] 8 (by kernel_rfl) (by kernel_rfl) (by kernel_rfl) (by kernel_rfl)).met
end Go.Proofs.YticbbfbpeimkbaaGreatDoor
namespace Go.Proofs.YticbbfbpeimkbaaGreatDoor
open Go.Ab
def ir4 : AFn := ⟨101, 1, [.t 2], .seq (.reg [] [⟨some 1, none, .boxv (.t 0), []⟩, ⟨some 2, none, .mv (.k (.bool false)), []⟩])
 (.seq (.seq (.reg [] [⟨some 13, none, .ld 2 true (.t 1), []⟩, ⟨some 14, none, .call 24 [(.t 13)], []⟩, ⟨some 15, none, .not (.t 14), []⟩])
 (.cond (.t 15) (.seq (.reg [] [⟨some 16, none, .call 25 [], []⟩, ⟨some 2, none, .mv (.t 16), []⟩])
 (.ret)) (.skip)))
 (.seq (.reg [] [⟨some 18, none, .ld 2 true (.t 1), []⟩, ⟨some 19, none, .call 27 [(.t 18)], []⟩, ⟨some 17, none, .mv (.t 19), []⟩, ⟨some 20, none, .ext (.t 17) 0, []⟩, ⟨some 21, none, .ext (.t 17) 1, []⟩, ⟨some 3, none, .mv (.t 20), []⟩, ⟨some 4, none, .mv (.t 21), []⟩])
 (.seq (.reg [] [⟨some 5, none, .mv (.k (.sl .nil 2 [])), []⟩])
 (.seq (.reg [] [⟨some 22, none, .fa 0 (.t 1), []⟩, ⟨some 23, none, .ld 1 false (.t 22), []⟩, ⟨some 24, none, .len (.t 23), []⟩, ⟨some 25, none, .fa 1 (.t 1), []⟩, ⟨some 26, none, .ld 1 false (.t 25), []⟩, ⟨some 27, none, .len (.t 26), []⟩, ⟨some 28, none, .bi .add .i64 (.t 24) (.t 27), []⟩, ⟨some 29, none, .bi .gtr .i64 (.t 28) (.k (.int .i64 0)), []⟩, ⟨some 6, none, .mv (.t 29), []⟩])
 (.seq (.seq (.reg [] [⟨some 7, none, .mv (.k (.int .i64 0)), []⟩])
 (.block 0 (.loop [1, 3, 4, 5, 6, 7] (.seq (.seq (.reg [] [⟨some 30, none, .mv (.t 7), []⟩, ⟨some 31, none, .fa 0 (.t 1), []⟩, ⟨some 32, none, .ld 1 false (.t 31), []⟩, ⟨some 33, none, .len (.t 32), []⟩, ⟨some 34, none, .bi .lss .i64 (.t 30) (.t 33), []⟩])
 (.cond (.t 34) (.skip) (.exit 0)))
 (.seq (.block 1 (.seq (.reg [] [⟨some 38, none, .fa 0 (.t 1), []⟩, ⟨some 39, none, .ld 1 false (.t 38), []⟩, ⟨some 40, none, .mv (.t 7), []⟩, ⟨some 41, none, .mv (.t 7), []⟩, ⟨some 42, none, .bi .add .i64 (.t 41) (.k (.int .i64 1)), []⟩, ⟨some 43, none, .sll 5 (.t 39) (some (.t 40)) (some (.t 42)) none, []⟩, ⟨some 44, none, .bld [.sl .nil 5 [], .sl .nil 4 []] [(0, 1, (.t 43))], []⟩, ⟨some 45, none, .call 27 [(.t 44)], []⟩, ⟨some 37, none, .mv (.t 45), []⟩, ⟨some 46, none, .ext (.t 37) 0, []⟩, ⟨some 47, none, .ext (.t 37) 1, []⟩, ⟨some 8, none, .mv (.t 46), []⟩, ⟨some 9, none, .mv (.t 47), []⟩])
 (.reg [] [⟨some 48, none, .mv (.t 5), []⟩, ⟨some 49, none, .mv (.t 8), []⟩, ⟨some 50, none, .app 2 24 (.t 48) (.t 49), []⟩, ⟨some 51, none, .mv (.t 6), []⟩, ⟨some 52, none, .mv (.t 51), []⟩, ⟨some 53, (some (52, true)), .mv (.t 9), []⟩, ⟨some 54, none, .pick (.t 52) (.t 53) (.k (.bool false)), []⟩, ⟨some 5, none, .mv (.t 50), []⟩, ⟨some 6, none, .mv (.t 54), []⟩])))
 (.reg [] [⟨some 35, none, .mv (.t 7), []⟩, ⟨some 36, none, .bi .add .i64 (.t 35) (.k (.int .i64 1)), []⟩, ⟨some 7, none, .mv (.t 36), []⟩]))))))
 (.seq (.seq (.reg [] [⟨some 10, none, .mv (.k (.int .i64 0)), []⟩])
 (.block 2 (.loop [1, 3, 4, 5, 6, 10] (.seq (.seq (.reg [] [⟨some 55, none, .mv (.t 10), []⟩, ⟨some 56, none, .fa 1 (.t 1), []⟩, ⟨some 57, none, .ld 1 false (.t 56), []⟩, ⟨some 58, none, .len (.t 57), []⟩, ⟨some 59, none, .bi .lss .i64 (.t 55) (.t 58), []⟩])
 (.cond (.t 59) (.skip) (.exit 2)))
 (.seq (.block 3 (.seq (.reg [] [⟨some 63, none, .fa 1 (.t 1), []⟩, ⟨some 64, none, .ld 1 false (.t 63), []⟩, ⟨some 65, none, .mv (.t 10), []⟩, ⟨some 66, none, .mv (.t 10), []⟩, ⟨some 67, none, .bi .add .i64 (.t 66) (.k (.int .i64 1)), []⟩, ⟨some 68, none, .sll 4 (.t 64) (some (.t 65)) (some (.t 67)) none, []⟩, ⟨some 69, none, .bld [.sl .nil 5 [], .sl .nil 4 []] [(1, 1, (.t 68))], []⟩, ⟨some 70, none, .call 27 [(.t 69)], []⟩, ⟨some 62, none, .mv (.t 70), []⟩, ⟨some 71, none, .ext (.t 62) 0, []⟩, ⟨some 72, none, .ext (.t 62) 1, []⟩, ⟨some 11, none, .mv (.t 71), []⟩, ⟨some 12, none, .mv (.t 72), []⟩])
 (.reg [] [⟨some 73, none, .mv (.t 5), []⟩, ⟨some 74, none, .mv (.t 11), []⟩, ⟨some 75, none, .app 2 24 (.t 73) (.t 74), []⟩, ⟨some 76, none, .mv (.t 6), []⟩, ⟨some 77, none, .mv (.t 76), []⟩, ⟨some 78, (some (77, true)), .mv (.t 12), []⟩, ⟨some 79, none, .pick (.t 77) (.t 78) (.k (.bool false)), []⟩, ⟨some 5, none, .mv (.t 75), []⟩, ⟨some 6, none, .mv (.t 79), []⟩])))
 (.reg [] [⟨some 60, none, .mv (.t 10), []⟩, ⟨some 61, none, .bi .add .i64 (.t 60) (.k (.int .i64 1)), []⟩, ⟨some 10, none, .mv (.t 61), []⟩]))))))
 (.seq (.seq (.reg [] [⟨some 80, none, .mv (.t 4), []⟩, ⟨some 81, none, .mv (.t 6), []⟩, ⟨some 82, none, .bb true (.t 80) (.t 81), []⟩])
 (.cond (.t 82) (.seq (.reg [] [⟨some 2, none, .mv (.k (.bool false)), []⟩])
 (.ret)) (.skip)))
 (.seq (.reg [] [⟨some 83, none, .mv (.t 4), []⟩, ⟨some 84, none, .mv (.t 83), []⟩, ⟨some 85, (some (84, true)), .mv (.t 3), []⟩, ⟨some 86, (some (84, true)), .mv (.t 5), []⟩, ⟨some 87, (some (84, true)), .call 29 [(.t 85), (.t 86)], []⟩, ⟨some 88, none, .pick (.t 84) (.t 87) (.k (.bool false)), []⟩, ⟨some 89, none, .mv (.t 88), []⟩, ⟨some 90, (some (89, false)), .mv (.t 4), []⟩, ⟨some 91, (some (89, false)), .not (.t 90), []⟩, ⟨some 92, (some (89, false)), .mv (.t 91), []⟩, ⟨some 93, (some (92, true)), .mv (.t 3), []⟩, ⟨some 94, (some (92, true)), .len (.t 93), []⟩, ⟨some 95, (some (92, true)), .bi .eql .i64 (.t 94) (.k (.int .i64 0)), []⟩, ⟨some 96, (some (89, false)), .pick (.t 92) (.t 95) (.k (.bool false)), []⟩, ⟨some 97, none, .pick (.t 89) (.k (.bool true)) (.t 96), []⟩, ⟨some 98, none, .mv (.t 97), []⟩, ⟨some 99, (some (98, true)), .call 25 [], []⟩, ⟨some 100, none, .pick (.t 98) (.t 99) (.k (.bool false)), []⟩, ⟨some 2, none, .mv (.t 100), []⟩])
 (.ret)))))))))⟩
theorem ck4 : chkFn Tryz.prog 4 ir4 = true := by kernel_rfl
def ir24 : AFn := ⟨112, 1, [.t 2], .seq (.reg [] [⟨some 1, none, .boxv (.t 0), []⟩, ⟨some 2, none, .mv (.k (.bool false)), []⟩])
 (.seq (.reg [] [⟨some 3, none, .mv (.k (.int .i64 0)), []⟩])
 (.seq (.seq (.reg [] [⟨some 4, none, .mv (.k (.int .i64 0)), []⟩])
 (.block 0 (.loop [1, 3, 4] (.seq (.seq (.reg [] [⟨some 7, none, .mv (.t 4), []⟩, ⟨some 8, none, .fa 0 (.t 1), []⟩, ⟨some 9, none, .ld 1 false (.t 8), []⟩, ⟨some 10, none, .len (.t 9), []⟩, ⟨some 11, none, .bi .lss .i64 (.t 7) (.t 10), []⟩])
 (.cond (.t 11) (.skip) (.exit 0)))
 (.seq (.block 1 (.seq (.reg [0, 1, 2, 3, 4, 5, 6, 7, 10, 11, 12, 13, 14, 15, 18, 19, 20, 21, 22, 23, 24, 8, 9, 16, 17, 25, 26] [⟨some 14, none, .mv (.t 3), []⟩, ⟨some 15, none, .bi .add .i64 (.t 14) (.k (.int .i64 1)), []⟩, ⟨some 16, none, .fa 0 (.t 1), []⟩, ⟨some 17, none, .ld 1 false (.t 16), []⟩, ⟨some 18, none, .mv (.t 4), []⟩, ⟨some 19, none, .ia 5 (.t 17) (.t 18), []⟩, ⟨some 20, none, .fa 3 (.t 19), []⟩, ⟨some 21, none, .ld 1 false (.t 20), []⟩, ⟨some 24, none, .fa 0 (.t 1), []⟩, ⟨some 25, none, .ld 1 false (.t 24), []⟩, ⟨some 26, none, .mv (.t 4), []⟩, ⟨some 27, none, .ia 5 (.t 25) (.t 26), []⟩, ⟨some 28, none, .fa 4 (.t 27), []⟩, ⟨some 29, none, .ld 1 false (.t 28), []⟩, ⟨some 32, none, .fa 0 (.t 1), []⟩, ⟨some 33, none, .ld 1 false (.t 32), []⟩, ⟨some 34, none, .mv (.t 4), []⟩, ⟨some 35, none, .ia 5 (.t 33) (.t 34), []⟩, ⟨some 36, none, .fa 1 (.t 35), []⟩, ⟨some 37, none, .ld 1 false (.t 36), []⟩, ⟨some 38, none, .lens (.t 37), []⟩, ⟨some 22, none, .call 67 [(.t 21)], [9, 13, 15, 19]⟩, ⟨some 23, none, .bi .add .i64 (.t 15) (.t 22), []⟩, ⟨some 30, none, .call 35 [(.t 29)], [15, 19]⟩, ⟨some 31, none, .bi .add .i64 (.t 23) (.t 30), []⟩, ⟨some 39, none, .bi .add .i64 (.t 31) (.t 38), []⟩, ⟨some 3, none, .mv (.t 39), []⟩])
 (.seq (.reg [] [⟨some 5, none, .mv (.k (.int .i64 0)), []⟩])
 (.block 2 (.loop [1, 3, 4, 5] (.seq (.seq (.reg [] [⟨some 40, none, .mv (.t 5), []⟩, ⟨some 41, none, .fa 0 (.t 1), []⟩, ⟨some 42, none, .ld 1 false (.t 41), []⟩, ⟨some 43, none, .mv (.t 4), []⟩, ⟨some 44, none, .ia 5 (.t 42) (.t 43), []⟩, ⟨some 45, none, .fa 2 (.t 44), []⟩, ⟨some 46, none, .ld 1 false (.t 45), []⟩, ⟨some 47, none, .len (.t 46), []⟩, ⟨some 48, none, .bi .lss .i64 (.t 40) (.t 47), []⟩])
 (.cond (.t 48) (.skip) (.exit 2)))
 (.seq (.block 3 (.reg [0, 1, 2, 3, 4, 5, 6, 7, 8, 9, 10, 11, 14, 15, 16, 17, 18, 19, 20, 21, 22, 23, 24, 12, 13, 25, 26] [⟨some 51, none, .mv (.t 3), []⟩, ⟨some 52, none, .bi .add .i64 (.t 51) (.k (.int .i64 1)), []⟩, ⟨some 53, none, .fa 0 (.t 1), []⟩, ⟨some 54, none, .ld 1 false (.t 53), []⟩, ⟨some 55, none, .mv (.t 4), []⟩, ⟨some 56, none, .ia 5 (.t 54) (.t 55), []⟩, ⟨some 57, none, .fa 2 (.t 56), []⟩, ⟨some 58, none, .ld 1 false (.t 57), []⟩, ⟨some 59, none, .mv (.t 5), []⟩, ⟨some 60, none, .ia 10 (.t 58) (.t 59), []⟩, ⟨some 61, none, .fa 5 (.t 60), []⟩, ⟨some 62, none, .ld 5 true (.t 61), []⟩, ⟨some 65, none, .fa 0 (.t 1), []⟩, ⟨some 66, none, .ld 1 false (.t 65), []⟩, ⟨some 67, none, .mv (.t 4), []⟩, ⟨some 68, none, .ia 5 (.t 66) (.t 67), []⟩, ⟨some 69, none, .fa 2 (.t 68), []⟩, ⟨some 70, none, .ld 1 false (.t 69), []⟩, ⟨some 71, none, .mv (.t 5), []⟩, ⟨some 72, none, .ia 10 (.t 70) (.t 71), []⟩, ⟨some 73, none, .fa 0 (.t 72), []⟩, ⟨some 74, none, .ld 1 false (.t 73), []⟩, ⟨some 75, none, .lens (.t 74), []⟩, ⟨some 63, none, .call 53 [(.t 62)], [13, 17, 21]⟩, ⟨some 64, none, .bi .add .i64 (.t 52) (.t 63), []⟩, ⟨some 76, none, .bi .add .i64 (.t 64) (.t 75), []⟩, ⟨some 3, none, .mv (.t 76), []⟩]))
 (.reg [] [⟨some 49, none, .mv (.t 5), []⟩, ⟨some 50, none, .bi .add .i64 (.t 49) (.k (.int .i64 1)), []⟩, ⟨some 5, none, .mv (.t 50), []⟩]))))))))
 (.reg [] [⟨some 12, none, .mv (.t 4), []⟩, ⟨some 13, none, .bi .add .i64 (.t 12) (.k (.int .i64 1)), []⟩, ⟨some 4, none, .mv (.t 13), []⟩]))))))
 (.seq (.seq (.reg [] [⟨some 6, none, .mv (.k (.int .i64 0)), []⟩])
 (.block 4 (.loop [1, 3, 6] (.seq (.seq (.reg [] [⟨some 77, none, .mv (.t 6), []⟩, ⟨some 78, none, .fa 1 (.t 1), []⟩, ⟨some 79, none, .ld 1 false (.t 78), []⟩, ⟨some 80, none, .len (.t 79), []⟩, ⟨some 81, none, .bi .lss .i64 (.t 77) (.t 80), []⟩])
 (.cond (.t 81) (.skip) (.exit 4)))
 (.seq (.block 5 (.reg [0, 1, 2, 3, 4, 5, 6, 7, 10, 11, 12, 13, 14, 15, 18, 19, 20, 21, 22, 23, 24, 8, 9, 16, 17, 25, 26] [⟨some 84, none, .mv (.t 3), []⟩, ⟨some 85, none, .bi .add .i64 (.t 84) (.k (.int .i64 1)), []⟩, ⟨some 86, none, .fa 1 (.t 1), []⟩, ⟨some 87, none, .ld 1 false (.t 86), []⟩, ⟨some 88, none, .mv (.t 6), []⟩, ⟨some 89, none, .ia 4 (.t 87) (.t 88), []⟩, ⟨some 90, none, .fa 2 (.t 89), []⟩, ⟨some 91, none, .ld 1 false (.t 90), []⟩, ⟨some 94, none, .fa 1 (.t 1), []⟩, ⟨some 95, none, .ld 1 false (.t 94), []⟩, ⟨some 96, none, .mv (.t 6), []⟩, ⟨some 97, none, .ia 4 (.t 95) (.t 96), []⟩, ⟨some 98, none, .fa 3 (.t 97), []⟩, ⟨some 99, none, .ld 1 false (.t 98), []⟩, ⟨some 102, none, .fa 1 (.t 1), []⟩, ⟨some 103, none, .ld 1 false (.t 102), []⟩, ⟨some 104, none, .mv (.t 6), []⟩, ⟨some 105, none, .ia 4 (.t 103) (.t 104), []⟩, ⟨some 106, none, .fa 0 (.t 105), []⟩, ⟨some 107, none, .ld 1 false (.t 106), []⟩, ⟨some 108, none, .lens (.t 107), []⟩, ⟨some 92, none, .call 67 [(.t 91)], [9, 13, 15, 19]⟩, ⟨some 93, none, .bi .add .i64 (.t 85) (.t 92), []⟩, ⟨some 100, none, .call 35 [(.t 99)], [15, 19]⟩, ⟨some 101, none, .bi .add .i64 (.t 93) (.t 100), []⟩, ⟨some 109, none, .bi .add .i64 (.t 101) (.t 108), []⟩, ⟨some 3, none, .mv (.t 109), []⟩]))
 (.reg [] [⟨some 82, none, .mv (.t 6), []⟩, ⟨some 83, none, .bi .add .i64 (.t 82) (.k (.int .i64 1)), []⟩, ⟨some 6, none, .mv (.t 83), []⟩]))))))
 (.seq (.reg [] [⟨some 110, none, .mv (.t 3), []⟩, ⟨some 111, none, .bi .leq .i64 (.t 110) (.k (.int .i64 3200)), []⟩, ⟨some 2, none, .mv (.t 111), []⟩])
 (.ret)))))⟩
theorem ck24 : chkFn Tryz.prog 24 ir24 = true := by kernel_rfl
def ir25 : AFn := ⟨29, 0, [.t 0], .seq (.reg [] [⟨some 0, none, .mv (.k (.bool false)), []⟩])
 (.seq (.reg [] [⟨some 4, none, .bld [.int .i64 0, .str [], .str [], .sl .nil 6 [], .sl .nil 2 [], .str [], .sl .nil 7 []] [(2, 1, (.k (.str [97])))], []⟩, ⟨some 5, none, .bld [.int .i64 0, .str [], .str [], .sl .nil 6 [], .sl .nil 2 [], .str [], .sl .nil 7 []] [(1, 1, (.k (.str [98]))), (2, 1, (.k (.str [99])))], []⟩, ⟨some 6, none, .bls 7 2 [.int .i64 0, .str [], .str [], .sl .nil 6 [], .sl .nil 2 [], .str [], .sl .nil 7 []] [(0, (.t 4)), (1, (.t 5))], []⟩, ⟨some 7, none, .bld [.int .i64 0, .str [], .sl .nil 10 [], .sl .nil 2 [], .sl .nil 7 []] [(4, 1, (.t 6))], []⟩, ⟨some 8, none, .bls 5 1 [.int .i64 0, .str [], .sl .nil 10 [], .sl .nil 2 [], .sl .nil 7 []] [(0, (.t 7))], []⟩, ⟨some 9, none, .bld [.sl .nil 5 [], .sl .nil 4 []] [(0, 1, (.t 8))], []⟩, ⟨some 1, none, .alloc [.sl .nil 5 [], .sl .nil 4 []], []⟩, ⟨none, none, .st 2 (.t 1) (.t 9), []⟩])
 (.seq (.reg [] [⟨some 11, none, .ld 2 true (.t 1), []⟩, ⟨some 12, none, .call 32 [(.t 11)], []⟩, ⟨some 10, none, .mv (.t 12), []⟩, ⟨some 13, none, .ext (.t 10) 0, []⟩, ⟨some 14, none, .ext (.t 10) 1, []⟩, ⟨some 2, none, .mv (.t 13), []⟩, ⟨some 3, none, .mv (.t 14), []⟩])
 (.seq (.reg [] [⟨some 15, none, .mv (.t 3), []⟩, ⟨some 16, none, .mv (.t 15), []⟩, ⟨some 17, (some (16, true)), .mv (.t 2), []⟩, ⟨some 18, (some (16, true)), .bs .eql (.t 17) (.k (.str [113, 117, 101, 114, 121, 32, 123, 32, 97, 32, 98, 32, 58, 32, 99, 32, 125])), []⟩, ⟨some 19, none, .pick (.t 16) (.t 18) (.k (.bool false)), []⟩, ⟨some 20, none, .mv (.t 19), []⟩, ⟨some 21, (some (20, true)), .ld 2 true (.t 1), []⟩, ⟨some 22, (some (20, true)), .call 30 [(.t 21)], []⟩, ⟨some 23, none, .pick (.t 20) (.t 22) (.k (.bool false)), []⟩, ⟨some 24, none, .mv (.t 23), []⟩, ⟨some 25, (some (24, true)), .bld [.sl .nil 5 [], .sl .nil 4 []] [], []⟩, ⟨some 26, (some (24, true)), .call 30 [(.t 25)], []⟩, ⟨some 27, (some (24, true)), .not (.t 26), []⟩, ⟨some 28, none, .pick (.t 24) (.t 27) (.k (.bool false)), []⟩, ⟨some 0, none, .mv (.t 28), []⟩])
 (.ret))))⟩
theorem ck25 : chkFn Tryz.prog 25 ir25 = true := by kernel_rfl
def ir27 : AFn := ⟨51, 1, [.t 2, .t 3], .seq (.reg [] [⟨some 1, none, .boxv (.t 0), []⟩, ⟨some 2, none, .mv (.k (.sl .nil 2 [])), []⟩, ⟨some 3, none, .mv (.k (.bool false)), []⟩])
 (.seq (.reg [] [⟨some 9, none, .call 69 [], []⟩, ⟨some 4, none, .mv (.t 9), []⟩])
 (.seq (.reg [] [⟨some 10, none, .mv (.t 4), []⟩, ⟨some 11, none, .fa 0 (.t 1), []⟩, ⟨some 12, none, .ld 1 false (.t 11), []⟩, ⟨some 13, none, .len (.t 12), []⟩, ⟨some 14, none, .fa 1 (.t 1), []⟩, ⟨some 15, none, .ld 1 false (.t 14), []⟩, ⟨some 16, none, .len (.t 15), []⟩, ⟨some 17, none, .bi .add .i64 (.t 13) (.t 16), []⟩, ⟨some 18, none, .bi .gtr .i64 (.t 17) (.k (.int .i64 0)), []⟩, ⟨some 19, none, .call 70 [(.t 10), (.t 18)], []⟩])
 (.seq (.seq (.reg [] [⟨some 20, none, .fa 0 (.t 1), []⟩, ⟨some 21, none, .ld 1 false (.t 20), []⟩, ⟨some 22, none, .len (.t 21), []⟩, ⟨some 23, none, .mv (.k (.int .i64 0)), []⟩])
 (.block 0 (.loop [1, 4, 21, 22, 23] (.seq (.reg [] [⟨some 24, none, .bi .lss .i64 (.t 23) (.t 22), []⟩])
 (.seq (.cond (.t 24) (.skip) (.exit 0))
 (.seq (.block 1 (.seq (.reg [] [⟨some 25, none, .ia 5 (.t 21) (.t 23), []⟩, ⟨some 26, none, .ld 5 true (.t 25), []⟩, ⟨some 6, none, .alloc [.int .i64 0, .str [], .sl .nil 10 [], .sl .nil 2 [], .sl .nil 7 []], []⟩, ⟨none, none, .st 5 (.t 6) (.t 26), []⟩])
 (.reg [] [⟨some 27, none, .mv (.t 4), []⟩, ⟨some 28, none, .ld 5 true (.t 6), []⟩, ⟨some 29, none, .call 71 [(.t 27), (.t 28)], []⟩])))
 (.reg [] [⟨some 30, none, .bi .add .i64 (.t 23) (.k (.int .i64 1)), []⟩, ⟨some 23, none, .mv (.t 30), []⟩])))))))
 (.seq (.seq (.reg [] [⟨some 31, none, .fa 1 (.t 1), []⟩, ⟨some 32, none, .ld 1 false (.t 31), []⟩, ⟨some 33, none, .len (.t 32), []⟩, ⟨some 34, none, .mv (.k (.int .i64 0)), []⟩])
 (.block 2 (.loop [4, 32, 33, 34] (.seq (.reg [] [⟨some 35, none, .bi .lss .i64 (.t 34) (.t 33), []⟩])
 (.seq (.cond (.t 35) (.skip) (.exit 2))
 (.seq (.block 3 (.seq (.reg [] [⟨some 36, none, .ia 4 (.t 32) (.t 34), []⟩, ⟨some 37, none, .ld 4 true (.t 36), []⟩, ⟨some 8, none, .alloc [.str [], .str [], .sl .nil 2 [], .sl .nil 7 []], []⟩, ⟨none, none, .st 4 (.t 8) (.t 37), []⟩])
 (.reg [] [⟨some 38, none, .mv (.t 4), []⟩, ⟨some 39, none, .ld 4 true (.t 8), []⟩, ⟨some 40, none, .call 72 [(.t 38), (.t 39)], []⟩])))
 (.reg [] [⟨some 41, none, .bi .add .i64 (.t 34) (.k (.int .i64 1)), []⟩, ⟨some 34, none, .mv (.t 41), []⟩])))))))
 (.seq (.seq (.reg [] [⟨some 42, none, .mv (.t 4), []⟩, ⟨some 43, none, .nilchk (.t 42), []⟩, ⟨some 44, none, .fa 1 (.t 43), []⟩, ⟨some 45, none, .ld 1 false (.t 44), []⟩, ⟨some 46, none, .not (.t 45), []⟩])
 (.cond (.t 46) (.seq (.reg [] [⟨some 2, none, .mv (.k (.sl .nil 2 [])), []⟩, ⟨some 3, none, .mv (.k (.bool false)), []⟩])
 (.ret)) (.skip)))
 (.seq (.reg [] [⟨some 47, none, .mv (.t 4), []⟩, ⟨some 48, none, .nilchk (.t 47), []⟩, ⟨some 49, none, .fa 0 (.t 48), []⟩, ⟨some 50, none, .ld 1 false (.t 49), []⟩, ⟨some 2, none, .mv (.t 50), []⟩, ⟨some 3, none, .mv (.k (.bool true)), []⟩])
 (.ret)))))))⟩
theorem ck27 : chkFn Tryz.prog 27 ir27 = true := by kernel_rfl
def ir29 : AFn := ⟨26, 2, [.t 4], .seq (.reg [] [⟨some 4, none, .mv (.k (.bool false)), []⟩])
 (.seq (.seq (.reg [] [⟨some 6, none, .mv (.t 0), []⟩, ⟨some 7, none, .len (.t 6), []⟩, ⟨some 8, none, .mv (.t 1), []⟩, ⟨some 9, none, .len (.t 8), []⟩, ⟨some 10, none, .bi .neq .i64 (.t 7) (.t 9), []⟩])
 (.cond (.t 10) (.seq (.reg [] [⟨some 4, none, .mv (.k (.bool false)), []⟩])
 (.ret)) (.skip)))
 (.seq (.seq (.reg [] [⟨some 5, none, .mv (.k (.int .i64 0)), []⟩])
 (.block 0 (.loop [0, 1, 5] (.seq (.seq (.reg [] [⟨some 11, none, .mv (.t 5), []⟩, ⟨some 12, none, .mv (.t 0), []⟩, ⟨some 13, none, .len (.t 12), []⟩, ⟨some 14, none, .bi .lss .i64 (.t 11) (.t 13), []⟩])
 (.cond (.t 14) (.skip) (.exit 0)))
 (.seq (.block 1 (.seq (.reg [0, 1, 2, 3, 4, 5, 6, 7, 8] [⟨some 17, none, .mv (.t 0), []⟩, ⟨some 18, none, .mv (.t 5), []⟩, ⟨some 19, none, .ia 2 (.t 17) (.t 18), []⟩, ⟨some 20, none, .ld 2 true (.t 19), []⟩, ⟨some 21, none, .mv (.t 1), []⟩, ⟨some 22, none, .mv (.t 5), []⟩, ⟨some 23, none, .ia 2 (.t 21) (.t 22), []⟩, ⟨some 24, none, .ld 2 true (.t 23), []⟩, ⟨some 25, none, .eqa true [(.i .i64), .s] (.t 20) (.t 24), []⟩])
 (.cond (.t 25) (.seq (.reg [] [⟨some 4, none, .mv (.k (.bool false)), []⟩])
 (.ret)) (.skip))))
 (.reg [] [⟨some 15, none, .mv (.t 5), []⟩, ⟨some 16, none, .bi .add .i64 (.t 15) (.k (.int .i64 1)), []⟩, ⟨some 5, none, .mv (.t 16), []⟩]))))))
 (.seq (.reg [] [⟨some 4, none, .mv (.k (.bool true)), []⟩])
 (.ret))))⟩
theorem ck29 : chkFn Tryz.prog 29 ir29 = true := by kernel_rfl
def ir30 : AFn := ⟨11, 1, [.t 2], .seq (.reg [] [⟨some 1, none, .boxv (.t 0), []⟩, ⟨some 2, none, .mv (.k (.bool false)), []⟩])
 (.seq (.reg [] [⟨some 6, none, .ld 2 true (.t 1), []⟩, ⟨some 7, none, .call 27 [(.t 6)], []⟩, ⟨some 5, none, .mv (.t 7), []⟩, ⟨some 8, none, .ext (.t 5) 0, []⟩, ⟨some 9, none, .ext (.t 5) 1, []⟩, ⟨some 3, none, .mv (.t 8), []⟩, ⟨some 4, none, .mv (.t 9), []⟩])
 (.seq (.reg [] [⟨some 10, none, .mv (.t 4), []⟩, ⟨some 2, none, .mv (.t 10), []⟩])
 (.ret)))⟩
theorem ck30 : chkFn Tryz.prog 30 ir30 = true := by kernel_rfl
def ir32 : AFn := ⟨30, 1, [.t 2, .t 3], .seq (.reg [] [⟨some 1, none, .boxv (.t 0), []⟩, ⟨some 2, none, .mv (.k (.str [])), []⟩, ⟨some 3, none, .mv (.k (.bool false)), []⟩])
 (.seq (.reg [] [⟨some 9, none, .ld 2 true (.t 1), []⟩, ⟨some 10, none, .call 27 [(.t 9)], []⟩, ⟨some 8, none, .mv (.t 10), []⟩, ⟨some 11, none, .ext (.t 8) 0, []⟩, ⟨some 12, none, .ext (.t 8) 1, []⟩, ⟨some 4, none, .mv (.t 11), []⟩, ⟨some 5, none, .mv (.t 12), []⟩])
 (.seq (.reg [] [⟨some 14, none, .mv (.t 4), []⟩, ⟨some 15, none, .call 56 [(.t 14)], []⟩, ⟨some 13, none, .mv (.t 15), []⟩, ⟨some 16, none, .ext (.t 13) 0, []⟩, ⟨some 17, none, .ext (.t 13) 1, []⟩, ⟨some 6, none, .mv (.t 16), []⟩, ⟨some 7, none, .mv (.t 17), []⟩])
 (.seq (.seq (.reg [] [⟨some 18, none, .mv (.t 5), []⟩, ⟨some 19, none, .not (.t 18), []⟩, ⟨some 20, none, .mv (.t 19), []⟩, ⟨some 21, (some (20, false)), .mv (.t 7), []⟩, ⟨some 22, (some (20, false)), .not (.t 21), []⟩, ⟨some 23, none, .pick (.t 20) (.k (.bool true)) (.t 22), []⟩, ⟨some 24, none, .mv (.t 23), []⟩, ⟨some 25, (some (24, false)), .mv (.t 6), []⟩, ⟨some 26, (some (24, false)), .lens (.t 25), []⟩, ⟨some 27, (some (24, false)), .bi .gtr .i64 (.t 26) (.k (.int .i64 8192)), []⟩, ⟨some 28, none, .pick (.t 24) (.k (.bool true)) (.t 27), []⟩])
 (.cond (.t 28) (.seq (.reg [] [⟨some 2, none, .mv (.k (.str [])), []⟩, ⟨some 3, none, .mv (.k (.bool false)), []⟩])
 (.ret)) (.skip)))
 (.seq (.reg [] [⟨some 29, none, .mv (.t 6), []⟩, ⟨some 2, none, .mv (.t 29), []⟩, ⟨some 3, none, .mv (.k (.bool true)), []⟩])
 (.ret)))))⟩
theorem ck32 : chkFn Tryz.prog 32 ir32 = true := by kernel_rfl
def ir35 : AFn := ⟨57, 1, [.t 2], .seq (.reg [] [⟨some 2, none, .mv (.k (.int .i64 0)), []⟩])
 (.seq (.reg [] [⟨some 3, none, .mv (.k (.int .i64 0)), []⟩])
 (.seq (.seq (.reg [] [⟨some 4, none, .mv (.k (.int .i64 0)), []⟩])
 (.block 0 (.loop [0, 3, 4] (.seq (.seq (.reg [] [⟨some 5, none, .mv (.t 4), []⟩, ⟨some 6, none, .mv (.t 0), []⟩, ⟨some 7, none, .len (.t 6), []⟩, ⟨some 8, none, .bi .lss .i64 (.t 5) (.t 7), []⟩])
 (.cond (.t 8) (.skip) (.exit 0)))
 (.seq (.block 1 (.reg [0, 1, 2, 3, 4, 5, 6, 7, 8, 9, 10, 11, 12, 13, 14, 15, 16, 17, 18, 19, 20, 21, 22, 23, 24, 25, 26, 27, 28, 31, 32, 33, 34, 35, 38, 39, 40, 41, 42, 29, 30, 36, 37, 43, 44, 45] [⟨some 11, none, .mv (.t 3), []⟩, ⟨some 12, none, .bi .add .i64 (.t 11) (.k (.int .i64 1)), []⟩, ⟨some 13, none, .mv (.t 0), []⟩, ⟨some 14, none, .mv (.t 4), []⟩, ⟨some 15, none, .ia 7 (.t 13) (.t 14), []⟩, ⟨some 16, none, .fa 2 (.t 15), []⟩, ⟨some 17, none, .ld 1 false (.t 16), []⟩, ⟨some 18, none, .lens (.t 17), []⟩, ⟨some 19, none, .bi .add .i64 (.t 12) (.t 18), []⟩, ⟨some 20, none, .mv (.t 0), []⟩, ⟨some 21, none, .mv (.t 4), []⟩, ⟨some 22, none, .ia 7 (.t 20) (.t 21), []⟩, ⟨some 23, none, .fa 1 (.t 22), []⟩, ⟨some 24, none, .ld 1 false (.t 23), []⟩, ⟨some 25, none, .lens (.t 24), []⟩, ⟨some 26, none, .bi .add .i64 (.t 19) (.t 25), []⟩, ⟨some 27, none, .mv (.t 0), []⟩, ⟨some 28, none, .mv (.t 4), []⟩, ⟨some 29, none, .ia 7 (.t 27) (.t 28), []⟩, ⟨some 30, none, .fa 5 (.t 29), []⟩, ⟨some 31, none, .ld 1 false (.t 30), []⟩, ⟨some 32, none, .lens (.t 31), []⟩, ⟨some 33, none, .bi .add .i64 (.t 26) (.t 32), []⟩, ⟨some 34, none, .mv (.t 0), []⟩, ⟨some 35, none, .mv (.t 4), []⟩, ⟨some 36, none, .ia 7 (.t 34) (.t 35), []⟩, ⟨some 37, none, .fa 3 (.t 36), []⟩, ⟨some 38, none, .ld 1 false (.t 37), []⟩, ⟨some 39, none, .bld [.int .i64 0, .int .i64 0, .str [], .sl .nil 5 [], .sl .nil 6 []] [(4, 1, (.t 38))], []⟩, ⟨some 42, none, .mv (.t 0), []⟩, ⟨some 43, none, .mv (.t 4), []⟩, ⟨some 44, none, .ia 7 (.t 42) (.t 43), []⟩, ⟨some 45, none, .fa 4 (.t 44), []⟩, ⟨some 46, none, .ld 1 false (.t 45), []⟩, ⟨some 49, none, .mv (.t 0), []⟩, ⟨some 50, none, .mv (.t 4), []⟩, ⟨some 51, none, .ia 7 (.t 49) (.t 50), []⟩, ⟨some 52, none, .fa 6 (.t 51), []⟩, ⟨some 53, none, .ld 1 false (.t 52), []⟩, ⟨some 40, none, .call 53 [(.t 39)], [6, 13, 20, 33, 38]⟩, ⟨some 41, none, .bi .add .i64 (.t 33) (.t 40), []⟩, ⟨some 47, none, .call 67 [(.t 46)], [6, 13, 20, 38]⟩, ⟨some 48, none, .bi .add .i64 (.t 41) (.t 47), []⟩, ⟨some 54, none, .call 35 [(.t 53)], [6, 13, 20]⟩, ⟨some 55, none, .bi .add .i64 (.t 48) (.t 54), []⟩, ⟨some 3, none, .mv (.t 55), []⟩]))
 (.reg [] [⟨some 9, none, .mv (.t 4), []⟩, ⟨some 10, none, .bi .add .i64 (.t 9) (.k (.int .i64 1)), []⟩, ⟨some 4, none, .mv (.t 10), []⟩]))))))
 (.seq (.reg [] [⟨some 56, none, .mv (.t 3), []⟩, ⟨some 2, none, .mv (.t 56), []⟩])
 (.ret))))⟩
theorem ck35 : chkFn Tryz.prog 35 ir35 = true := by kernel_rfl
def ir53 : AFn := ⟨50, 1, [.t 2], .seq (.reg [] [⟨some 1, none, .boxv (.t 0), []⟩, ⟨some 2, none, .mv (.k (.int .i64 0)), []⟩])
 (.seq (.reg [] [⟨some 6, none, .fa 2 (.t 1), []⟩, ⟨some 7, none, .ld 1 false (.t 6), []⟩, ⟨some 8, none, .lens (.t 7), []⟩, ⟨some 9, none, .bi .add .i64 (.k (.int .i64 1)) (.t 8), []⟩, ⟨some 3, none, .mv (.t 9), []⟩])
 (.seq (.seq (.reg [] [⟨some 4, none, .mv (.k (.int .i64 0)), []⟩])
 (.block 0 (.loop [1, 3, 4] (.seq (.seq (.reg [] [⟨some 10, none, .mv (.t 4), []⟩, ⟨some 11, none, .fa 3 (.t 1), []⟩, ⟨some 12, none, .ld 1 false (.t 11), []⟩, ⟨some 13, none, .len (.t 12), []⟩, ⟨some 14, none, .bi .lss .i64 (.t 10) (.t 13), []⟩])
 (.cond (.t 14) (.skip) (.exit 0)))
 (.seq (.block 1 (.reg [] [⟨some 17, none, .mv (.t 3), []⟩, ⟨some 18, none, .fa 3 (.t 1), []⟩, ⟨some 19, none, .ld 1 false (.t 18), []⟩, ⟨some 20, none, .mv (.t 4), []⟩, ⟨some 21, none, .ia 5 (.t 19) (.t 20), []⟩, ⟨some 22, none, .ld 5 true (.t 21), []⟩, ⟨some 23, none, .call 53 [(.t 22)], []⟩, ⟨some 24, none, .bi .add .i64 (.t 17) (.t 23), []⟩, ⟨some 3, none, .mv (.t 24), []⟩]))
 (.reg [] [⟨some 15, none, .mv (.t 4), []⟩, ⟨some 16, none, .bi .add .i64 (.t 15) (.k (.int .i64 1)), []⟩, ⟨some 4, none, .mv (.t 16), []⟩]))))))
 (.seq (.seq (.reg [] [⟨some 5, none, .mv (.k (.int .i64 0)), []⟩])
 (.block 2 (.loop [1, 3, 5] (.seq (.seq (.reg [] [⟨some 25, none, .mv (.t 5), []⟩, ⟨some 26, none, .fa 4 (.t 1), []⟩, ⟨some 27, none, .ld 1 false (.t 26), []⟩, ⟨some 28, none, .len (.t 27), []⟩, ⟨some 29, none, .bi .lss .i64 (.t 25) (.t 28), []⟩])
 (.cond (.t 29) (.skip) (.exit 2)))
 (.seq (.block 3 (.reg [0, 1, 2, 3, 4, 5, 6, 7, 8, 9, 10, 11, 12, 13, 14, 15, 16, 17] [⟨some 32, none, .mv (.t 3), []⟩, ⟨some 33, none, .fa 4 (.t 1), []⟩, ⟨some 34, none, .ld 1 false (.t 33), []⟩, ⟨some 35, none, .mv (.t 5), []⟩, ⟨some 36, none, .ia 6 (.t 34) (.t 35), []⟩, ⟨some 37, none, .fa 0 (.t 36), []⟩, ⟨some 38, none, .ld 1 false (.t 37), []⟩, ⟨some 39, none, .lens (.t 38), []⟩, ⟨some 40, none, .bi .add .i64 (.t 32) (.t 39), []⟩, ⟨some 41, none, .fa 4 (.t 1), []⟩, ⟨some 42, none, .ld 1 false (.t 41), []⟩, ⟨some 43, none, .mv (.t 5), []⟩, ⟨some 44, none, .ia 6 (.t 42) (.t 43), []⟩, ⟨some 45, none, .fa 1 (.t 44), []⟩, ⟨some 46, none, .ld 5 true (.t 45), []⟩, ⟨some 47, none, .call 53 [(.t 46)], [2, 6]⟩, ⟨some 48, none, .bi .add .i64 (.t 40) (.t 47), []⟩, ⟨some 3, none, .mv (.t 48), []⟩]))
 (.reg [] [⟨some 30, none, .mv (.t 5), []⟩, ⟨some 31, none, .bi .add .i64 (.t 30) (.k (.int .i64 1)), []⟩, ⟨some 5, none, .mv (.t 31), []⟩]))))))
 (.seq (.reg [] [⟨some 49, none, .mv (.t 3), []⟩, ⟨some 2, none, .mv (.t 49), []⟩])
 (.ret)))))⟩
theorem ck53 : chkFn Tryz.prog 53 ir53 = true := by kernel_rfl
def ir55 : AFn := ⟨9, 1, [.t 2, .t 3], .seq (.reg [] [⟨some 1, none, .boxv (.t 0), []⟩, ⟨some 2, none, .mv (.k (.sl .nil 2 [])), []⟩, ⟨some 3, none, .mv (.k (.bool false)), []⟩])
 (.seq (.seq (.reg [] [⟨some 4, none, .ld 5 true (.t 1), []⟩, ⟨some 5, none, .call 117 [(.t 4)], []⟩, ⟨some 6, none, .not (.t 5), []⟩])
 (.cond (.t 6) (.seq (.reg [] [⟨some 2, none, .mv (.k (.sl .nil 2 [])), []⟩, ⟨some 3, none, .mv (.k (.bool false)), []⟩])
 (.ret)) (.skip)))
 (.seq (.reg [] [⟨some 7, none, .ld 5 true (.t 1), []⟩, ⟨some 8, none, .call 118 [(.k (.sl .nil 2 [])), (.t 7)], []⟩, ⟨some 2, none, .mv (.t 8), []⟩, ⟨some 3, none, .mv (.k (.bool true)), []⟩])
 (.ret)))⟩
theorem ck55 : chkFn Tryz.prog 55 ir55 = true := by kernel_rfl
def ir56 : AFn := ⟨35, 1, [.t 2, .t 3], .seq (.reg [] [⟨some 2, none, .mv (.k (.str [])), []⟩, ⟨some 3, none, .mv (.k (.bool false)), []⟩])
 (.seq (.reg [] [⟨some 4, none, .mv (.k (.sl .nil 1 [])), []⟩])
 (.seq (.seq (.reg [] [⟨some 7, none, .mv (.t 0), []⟩, ⟨some 8, none, .len (.t 7), []⟩, ⟨some 9, none, .mv (.k (.int .i64 0)), []⟩])
 (.block 0 (.loop [4, 7, 8, 9] (.seq (.reg [] [⟨some 10, none, .bi .lss .i64 (.t 9) (.t 8), []⟩])
 (.seq (.cond (.t 10) (.skip) (.exit 0))
 (.seq (.block 1 (.seq (.reg [] [⟨some 11, none, .ia 2 (.t 7) (.t 9), []⟩, ⟨some 12, none, .ld 2 true (.t 11), []⟩, ⟨some 6, none, .alloc [.int .i64 0, .str []], []⟩, ⟨none, none, .st 2 (.t 6) (.t 12), []⟩])
 (.block 2 (.seq (.reg [] [⟨some 19, none, .ld 2 true (.t 6), []⟩, ⟨some 20, none, .call 119 [(.t 19)], []⟩, ⟨some 21, none, .not (.t 20), []⟩, ⟨some 18, none, .mv (.t 21), []⟩])
 (.cond (.t 18) (.seq (.reg [] [⟨some 2, none, .mv (.k (.str [])), []⟩, ⟨some 3, none, .mv (.k (.bool false)), []⟩])
 (.ret)) (.seq (.reg [] [⟨some 23, none, .fa 0 (.t 6), []⟩, ⟨some 24, none, .ld 1 false (.t 23), []⟩, ⟨some 25, none, .bi .eql .i64 (.t 24) (.k (.int .i64 5)), []⟩, ⟨some 22, none, .mv (.t 25), []⟩])
 (.cond (.t 22) (.reg [] [⟨some 26, none, .mv (.t 4), []⟩, ⟨some 27, none, .fa 1 (.t 6), []⟩, ⟨some 28, none, .ld 1 false (.t 27), []⟩, ⟨some 29, none, .call 120 [(.t 28)], []⟩, ⟨some 30, none, .bls 1 1 [.str []] [(0, (.t 29))], []⟩, ⟨some 31, none, .app 1 16 (.t 26) (.t 30), []⟩, ⟨some 4, none, .mv (.t 31), []⟩]) (.reg [] [⟨some 13, none, .mv (.t 4), []⟩, ⟨some 14, none, .fa 1 (.t 6), []⟩, ⟨some 15, none, .ld 1 false (.t 14), []⟩, ⟨some 16, none, .bls 1 1 [.str []] [(0, (.t 15))], []⟩, ⟨some 17, none, .app 1 16 (.t 13) (.t 16), []⟩, ⟨some 4, none, .mv (.t 17), []⟩]))))))))
 (.reg [] [⟨some 32, none, .bi .add .i64 (.t 9) (.k (.int .i64 1)), []⟩, ⟨some 9, none, .mv (.t 32), []⟩])))))))
 (.seq (.reg [] [⟨some 33, none, .mv (.t 4), []⟩, ⟨some 34, none, .call 121 [(.t 33), (.k (.str [32]))], []⟩, ⟨some 2, none, .mv (.t 34), []⟩, ⟨some 3, none, .mv (.k (.bool true)), []⟩])
 (.ret))))⟩
theorem ck56 : chkFn Tryz.prog 56 ir56 = true := by kernel_rfl
def ir59 : AFn := ⟨38, 2, [.t 4], .seq (.reg [] [⟨some 2, none, .boxv (.t 0), []⟩, ⟨some 3, none, .boxv (.t 1), []⟩, ⟨some 4, none, .mv (.k (.bool false)), []⟩])
 (.seq (.reg [] [⟨some 5, none, .fa 0 (.t 2), []⟩, ⟨some 6, none, .ld 1 false (.t 5), []⟩, ⟨some 7, none, .fa 0 (.t 3), []⟩, ⟨some 8, none, .ld 1 false (.t 7), []⟩, ⟨some 9, none, .bi .eql .i64 (.t 6) (.t 8), []⟩, ⟨some 10, none, .mv (.t 9), []⟩, ⟨some 11, (some (10, true)), .fa 1 (.t 2), []⟩, ⟨some 12, (some (10, true)), .ld 1 false (.t 11), []⟩, ⟨some 13, (some (10, true)), .fa 1 (.t 3), []⟩, ⟨some 14, (some (10, true)), .ld 1 false (.t 13), []⟩, ⟨some 15, (some (10, true)), .bi .eql .i64 (.t 12) (.t 14), []⟩, ⟨some 16, none, .pick (.t 10) (.t 15) (.k (.bool false)), []⟩, ⟨some 17, none, .mv (.t 16), []⟩, ⟨some 18, (some (17, true)), .fa 2 (.t 2), []⟩, ⟨some 19, (some (17, true)), .ld 1 false (.t 18), []⟩, ⟨some 20, (some (17, true)), .fa 2 (.t 3), []⟩, ⟨some 21, (some (17, true)), .ld 1 false (.t 20), []⟩, ⟨some 22, (some (17, true)), .bs .eql (.t 19) (.t 21), []⟩, ⟨some 23, none, .pick (.t 17) (.t 22) (.k (.bool false)), []⟩, ⟨some 24, none, .mv (.t 23), []⟩, ⟨some 25, (some (24, true)), .fa 3 (.t 2), []⟩, ⟨some 26, (some (24, true)), .ld 1 false (.t 25), []⟩, ⟨some 27, (some (24, true)), .fa 3 (.t 3), []⟩, ⟨some 28, (some (24, true)), .ld 1 false (.t 27), []⟩, ⟨some 29, (some (24, true)), .call 128 [(.t 26), (.t 28), (.k (.clo 59 [] []))], []⟩, ⟨some 30, none, .pick (.t 24) (.t 29) (.k (.bool false)), []⟩, ⟨some 31, none, .mv (.t 30), []⟩, ⟨some 32, (some (31, true)), .fa 4 (.t 2), []⟩, ⟨some 33, (some (31, true)), .ld 1 false (.t 32), []⟩, ⟨some 34, (some (31, true)), .fa 4 (.t 3), []⟩, ⟨some 35, (some (31, true)), .ld 1 false (.t 34), []⟩, ⟨some 36, (some (31, true)), .call 129 [(.t 33), (.t 35), (.k (.clo 130 [] []))], []⟩, ⟨some 37, none, .pick (.t 31) (.t 36) (.k (.bool false)), []⟩, ⟨some 4, none, .mv (.t 37), []⟩])
 (.ret))⟩
theorem ck59 : chkFn Tryz.prog 59 ir59 = true := by kernel_rfl
def ir60 : AFn := ⟨5, 1, [.t 2], .seq (.reg [] [⟨some 1, none, .boxv (.t 0), []⟩, ⟨some 2, none, .mv (.k (.sl .nil 1 [])), []⟩])
 (.seq (.reg [] [⟨some 3, none, .ld 5 true (.t 1), []⟩, ⟨some 4, none, .call 131 [(.k (.sl .nil 1 [])), (.t 3)], []⟩, ⟨some 2, none, .mv (.t 4), []⟩])
 (.ret))⟩
theorem ck60 : chkFn Tryz.prog 60 ir60 = true := by kernel_rfl
def ir67 : AFn := ⟨29, 1, [.t 2], .seq (.reg [] [⟨some 2, none, .mv (.k (.int .i64 0)), []⟩])
 (.seq (.reg [] [⟨some 3, none, .mv (.k (.int .i64 0)), []⟩])
 (.seq (.seq (.reg [] [⟨some 4, none, .mv (.k (.int .i64 0)), []⟩])
 (.block 0 (.loop [0, 3, 4] (.seq (.seq (.reg [] [⟨some 5, none, .mv (.t 4), []⟩, ⟨some 6, none, .mv (.t 0), []⟩, ⟨some 7, none, .len (.t 6), []⟩, ⟨some 8, none, .bi .lss .i64 (.t 5) (.t 7), []⟩])
 (.cond (.t 8) (.skip) (.exit 0)))
 (.seq (.block 1 (.reg [0, 1, 2, 3, 4, 5, 6, 7, 8, 9, 10, 11, 12, 13, 14, 15, 16, 17] [⟨some 11, none, .mv (.t 3), []⟩, ⟨some 12, none, .bi .add .i64 (.t 11) (.k (.int .i64 1)), []⟩, ⟨some 13, none, .mv (.t 0), []⟩, ⟨some 14, none, .mv (.t 4), []⟩, ⟨some 15, none, .ia 2 (.t 13) (.t 14), []⟩, ⟨some 16, none, .fa 0 (.t 15), []⟩, ⟨some 17, none, .ld 1 false (.t 16), []⟩, ⟨some 18, none, .lens (.t 17), []⟩, ⟨some 19, none, .bi .add .i64 (.t 12) (.t 18), []⟩, ⟨some 20, none, .mv (.t 0), []⟩, ⟨some 21, none, .mv (.t 4), []⟩, ⟨some 22, none, .ia 2 (.t 20) (.t 21), []⟩, ⟨some 23, none, .fa 1 (.t 22), []⟩, ⟨some 24, none, .ld 1 false (.t 23), []⟩, ⟨some 25, none, .bld [.int .i64 0, .int .i64 0, .str [], .sl .nil 5 [], .sl .nil 6 []] [(4, 1, (.t 24))], []⟩, ⟨some 26, none, .call 53 [(.t 25)], [6]⟩, ⟨some 27, none, .bi .add .i64 (.t 19) (.t 26), []⟩, ⟨some 3, none, .mv (.t 27), []⟩]))
 (.reg [] [⟨some 9, none, .mv (.t 4), []⟩, ⟨some 10, none, .bi .add .i64 (.t 9) (.k (.int .i64 1)), []⟩, ⟨some 4, none, .mv (.t 10), []⟩]))))))
 (.seq (.reg [] [⟨some 28, none, .mv (.t 3), []⟩, ⟨some 2, none, .mv (.t 28), []⟩])
 (.ret))))⟩
theorem ck67 : chkFn Tryz.prog 67 ir67 = true := by kernel_rfl
def ir69 : AFn := ⟨3, 0, [.t 0], .seq (.reg [] [⟨some 0, none, .mv (.k (.nilp)), []⟩])
 (.seq (.reg [] [⟨some 1, none, .bld [.sl .nil 2 [], .bool false, .int .i64 0] [(1, 1, (.k (.bool true)))], []⟩, ⟨some 2, none, .box (.t 1), []⟩, ⟨some 0, none, .mv (.t 2), []⟩])
 (.ret))⟩
theorem ck69 : chkFn Tryz.prog 69 ir69 = true := by kernel_rfl
def ir70 : AFn := ⟨14, 2, [], .reg [] [⟨some 4, none, .mv (.t 0), []⟩, ⟨some 5, none, .mv (.t 0), []⟩, ⟨some 6, none, .nilchk (.t 5), []⟩, ⟨some 7, none, .fa 1 (.t 6), []⟩, ⟨some 8, none, .ld 1 false (.t 7), []⟩, ⟨some 9, none, .mv (.t 8), []⟩, ⟨some 10, (some (9, true)), .mv (.t 1), []⟩, ⟨some 11, none, .pick (.t 9) (.t 10) (.k (.bool false)), []⟩, ⟨some 12, none, .nilchk (.t 4), []⟩, ⟨some 13, none, .fa 1 (.t 12), []⟩, ⟨none, none, .st 1 (.t 13) (.t 11), []⟩]⟩
theorem ck70 : chkFn Tryz.prog 70 ir70 = true := by kernel_rfl
def ir71 : AFn := ⟨71, 2, [], .seq (.reg [] [⟨some 3, none, .boxv (.t 1), []⟩])
 (.seq (.seq (.reg [] [⟨some 6, none, .fa 0 (.t 3), []⟩, ⟨some 7, none, .ld 1 false (.t 6), []⟩])
 (.block 0 (.seq (.reg [] [⟨some 11, none, .bi .eql .i64 (.t 7) (.k (.int .i64 0)), []⟩, ⟨some 10, none, .mv (.t 11), []⟩])
 (.cond (.t 10) (.reg [] [⟨some 12, none, .mv (.t 0), []⟩, ⟨some 13, none, .call 139 [(.t 12), (.k (.str [113, 117, 101, 114, 121]))], []⟩]) (.seq (.reg [] [⟨some 15, none, .bi .eql .i64 (.t 7) (.k (.int .i64 1)), []⟩, ⟨some 14, none, .mv (.t 15), []⟩])
 (.cond (.t 14) (.reg [] [⟨some 16, none, .mv (.t 0), []⟩, ⟨some 17, none, .call 139 [(.t 16), (.k (.str [109, 117, 116, 97, 116, 105, 111, 110]))], []⟩]) (.reg [] [⟨some 8, none, .mv (.t 0), []⟩, ⟨some 9, none, .call 70 [(.t 8), (.k (.bool false))], []⟩])))))))
 (.seq (.seq (.reg [] [⟨some 18, none, .fa 1 (.t 3), []⟩, ⟨some 19, none, .ld 1 false (.t 18), []⟩, ⟨some 20, none, .bs .neq (.t 19) (.k (.str [])), []⟩])
 (.cond (.t 20) (.reg [] [⟨some 21, none, .mv (.t 0), []⟩, ⟨some 22, none, .fa 1 (.t 3), []⟩, ⟨some 23, none, .ld 1 false (.t 22), []⟩, ⟨some 24, none, .call 139 [(.t 21), (.t 23)], []⟩]) (.skip)))
 (.seq (.seq (.reg [] [⟨some 25, none, .fa 2 (.t 3), []⟩, ⟨some 26, none, .ld 1 false (.t 25), []⟩, ⟨some 27, none, .len (.t 26), []⟩, ⟨some 28, none, .bi .gtr .i64 (.t 27) (.k (.int .i64 0)), []⟩])
 (.cond (.t 28) (.seq (.reg [] [⟨some 29, none, .mv (.t 0), []⟩, ⟨some 30, none, .bls 1 1 [.str []] [(0, (.k (.str [40])))], []⟩, ⟨some 31, none, .call 140 [(.t 29), (.t 30)], []⟩])
 (.seq (.seq (.reg [] [⟨some 32, none, .fa 2 (.t 3), []⟩, ⟨some 33, none, .ld 1 false (.t 32), []⟩, ⟨some 34, none, .len (.t 33), []⟩, ⟨some 35, none, .mv (.k (.int .i64 0)), []⟩])
 (.block 1 (.loop [0, 3, 33, 34, 35] (.seq (.reg [] [⟨some 36, none, .bi .lss .i64 (.t 35) (.t 34), []⟩])
 (.seq (.cond (.t 36) (.skip) (.exit 1))
 (.seq (.block 2 (.seq (.reg [] [⟨some 37, none, .ia 10 (.t 33) (.t 35), []⟩, ⟨some 38, none, .ld 10 true (.t 37), []⟩, ⟨some 5, none, .alloc [.str [], .str [], .int .i64 0, .int .i64 0, .bool false, .int .i64 0, .int .i64 0, .str [], .sl .nil 5 [], .sl .nil 6 []], []⟩, ⟨none, none, .st 10 (.t 5) (.t 38), []⟩])
 (.seq (.reg [] [⟨some 39, none, .mv (.t 0), []⟩, ⟨some 40, none, .bls 1 1 [.str []] [(0, (.k (.str [36])))], []⟩, ⟨some 41, none, .call 140 [(.t 39), (.t 40)], []⟩])
 (.seq (.reg [] [⟨some 42, none, .mv (.t 0), []⟩, ⟨some 43, none, .fa 0 (.t 5), []⟩, ⟨some 44, none, .ld 1 false (.t 43), []⟩, ⟨some 45, none, .call 139 [(.t 42), (.t 44)], []⟩])
 (.seq (.reg [] [⟨some 46, none, .mv (.t 0), []⟩, ⟨some 47, none, .bls 1 1 [.str []] [(0, (.k (.str [58])))], []⟩, ⟨some 48, none, .call 140 [(.t 46), (.t 47)], []⟩])
 (.seq (.reg [] [⟨some 49, none, .mv (.t 0), []⟩, ⟨some 50, none, .fa 1 (.t 5), []⟩, ⟨some 51, none, .ld 3 true (.t 50), []⟩, ⟨some 52, none, .call 141 [(.t 49), (.t 51)], []⟩])
 (.reg [] [⟨some 53, none, .mv (.t 0), []⟩, ⟨some 54, none, .fa 4 (.t 5), []⟩, ⟨some 55, none, .ld 1 false (.t 54), []⟩, ⟨some 56, none, .fa 5 (.t 5), []⟩, ⟨some 57, none, .ld 5 true (.t 56), []⟩, ⟨some 58, none, .call 142 [(.t 53), (.t 55), (.t 57)], []⟩])))))))
 (.reg [] [⟨some 59, none, .bi .add .i64 (.t 35) (.k (.int .i64 1)), []⟩, ⟨some 35, none, .mv (.t 59), []⟩])))))))
 (.reg [] [⟨some 60, none, .mv (.t 0), []⟩, ⟨some 61, none, .bls 1 1 [.str []] [(0, (.k (.str [41])))], []⟩, ⟨some 62, none, .call 140 [(.t 60), (.t 61)], []⟩]))) (.skip)))
 (.seq (.reg [] [⟨some 63, none, .mv (.t 0), []⟩, ⟨some 64, none, .fa 3 (.t 3), []⟩, ⟨some 65, none, .ld 1 false (.t 64), []⟩, ⟨some 66, none, .call 143 [(.t 63), (.k (.bool true)), (.t 65)], []⟩])
 (.reg [] [⟨some 67, none, .mv (.t 0), []⟩, ⟨some 68, none, .fa 4 (.t 3), []⟩, ⟨some 69, none, .ld 1 false (.t 68), []⟩, ⟨some 70, none, .call 144 [(.t 67), (.t 69)], []⟩])))))⟩
theorem ck71 : chkFn Tryz.prog 71 ir71 = true := by kernel_rfl
def ir72 : AFn := ⟨29, 2, [], .seq (.reg [] [⟨some 3, none, .boxv (.t 1), []⟩])
 (.seq (.reg [] [⟨some 4, none, .mv (.t 0), []⟩, ⟨some 5, none, .fa 0 (.t 3), []⟩, ⟨some 6, none, .ld 1 false (.t 5), []⟩, ⟨some 7, none, .bs .neq (.t 6) (.k (.str [111, 110])), []⟩, ⟨some 8, none, .call 70 [(.t 4), (.t 7)], []⟩])
 (.seq (.reg [] [⟨some 9, none, .mv (.t 0), []⟩, ⟨some 10, none, .call 139 [(.t 9), (.k (.str [102, 114, 97, 103, 109, 101, 110, 116]))], []⟩])
 (.seq (.reg [] [⟨some 11, none, .mv (.t 0), []⟩, ⟨some 12, none, .fa 0 (.t 3), []⟩, ⟨some 13, none, .ld 1 false (.t 12), []⟩, ⟨some 14, none, .call 139 [(.t 11), (.t 13)], []⟩])
 (.seq (.reg [] [⟨some 15, none, .mv (.t 0), []⟩, ⟨some 16, none, .call 139 [(.t 15), (.k (.str [111, 110]))], []⟩])
 (.seq (.reg [] [⟨some 17, none, .mv (.t 0), []⟩, ⟨some 18, none, .fa 1 (.t 3), []⟩, ⟨some 19, none, .ld 1 false (.t 18), []⟩, ⟨some 20, none, .call 139 [(.t 17), (.t 19)], []⟩])
 (.seq (.reg [] [⟨some 21, none, .mv (.t 0), []⟩, ⟨some 22, none, .fa 2 (.t 3), []⟩, ⟨some 23, none, .ld 1 false (.t 22), []⟩, ⟨some 24, none, .call 143 [(.t 21), (.k (.bool true)), (.t 23)], []⟩])
 (.reg [] [⟨some 25, none, .mv (.t 0), []⟩, ⟨some 26, none, .fa 3 (.t 3), []⟩, ⟨some 27, none, .ld 1 false (.t 26), []⟩, ⟨some 28, none, .call 144 [(.t 25), (.t 27)], []⟩])))))))⟩
theorem ck72 : chkFn Tryz.prog 72 ir72 = true := by kernel_rfl
def ir87 : AFn := ⟨82, 2, [], .scope (.seq (.reg [] [⟨some 6, none, .mv (.t 0), []⟩, ⟨some 7, none, .mv (.t 1), []⟩, ⟨some 8, none, .len (.t 7), []⟩, ⟨some 9, none, .bi .gtr .i64 (.t 8) (.k (.int .i64 0)), []⟩, ⟨some 10, none, .mv (.t 9), []⟩, ⟨some 11, (some (10, true)), .mv (.t 0), []⟩, ⟨some 12, (some (10, true)), .nilchk (.t 11), []⟩, ⟨some 13, (some (10, true)), .fa 2 (.t 12), []⟩, ⟨some 14, (some (10, true)), .ld 1 false (.t 13), []⟩, ⟨some 15, (some (10, true)), .bi .leq .i64 (.t 14) (.k (.int .i64 16)), []⟩, ⟨some 16, none, .pick (.t 10) (.t 15) (.k (.bool false)), []⟩, ⟨some 17, none, .call 70 [(.t 6), (.t 16)], []⟩])
 (.seq (.skip)
 (.seq (.reg [] [⟨some 18, none, .mv (.t 1), []⟩, ⟨some 19, none, .len (.t 18), []⟩, ⟨some 20, none, .mv (.k (.int .i64 0)), []⟩])
 (.block 0 (.loop [0, 18, 19, 20] (.seq (.reg [] [⟨some 21, none, .bi .lss .i64 (.t 20) (.t 19), []⟩])
 (.seq (.cond (.t 21) (.skip) (.exit 0))
 (.seq (.block 1 (.seq (.reg [] [⟨some 22, none, .ia 7 (.t 18) (.t 20), []⟩, ⟨some 23, none, .ld 7 true (.t 22), []⟩, ⟨some 5, none, .alloc [.int .i64 0, .str [], .str [], .sl .nil 6 [], .sl .nil 2 [], .str [], .sl .nil 7 []], []⟩, ⟨none, none, .st 7 (.t 5) (.t 23), []⟩])
 (.seq (.seq (.reg [] [⟨some 24, none, .mv (.t 0), []⟩, ⟨some 25, none, .nilchk (.t 24), []⟩, ⟨some 26, none, .fa 1 (.t 25), []⟩, ⟨some 27, none, .ld 1 false (.t 26), []⟩, ⟨some 28, none, .not (.t 27), []⟩])
 (.cond (.t 28) (.ret) (.skip)))
 (.seq (.seq (.reg [] [⟨some 29, none, .fa 0 (.t 5), []⟩, ⟨some 30, none, .ld 1 false (.t 29), []⟩])
 (.block 2 (.seq (.reg [] [⟨some 32, none, .bi .eql .i64 (.t 30) (.k (.int .i64 1)), []⟩, ⟨some 31, none, .mv (.t 32), []⟩])
 (.cond (.t 31) (.seq (.reg [] [⟨some 33, none, .mv (.t 0), []⟩, ⟨some 34, none, .ld 7 true (.t 5), []⟩, ⟨some 35, none, .call 155 [(.t 33), (.t 34)], []⟩])
 (.exit 1)) (.seq (.reg [] [⟨some 37, none, .bi .eql .i64 (.t 30) (.k (.int .i64 2)), []⟩, ⟨some 36, none, .mv (.t 37), []⟩])
 (.cond (.t 36) (.seq (.reg [] [⟨some 38, none, .mv (.t 0), []⟩, ⟨some 39, none, .ld 7 true (.t 5), []⟩, ⟨some 40, none, .call 156 [(.t 38), (.t 39)], []⟩])
 (.exit 1)) (.skip)))))))
 (.seq (.reg [] [⟨some 41, none, .mv (.t 0), []⟩, ⟨some 42, none, .fa 0 (.t 5), []⟩, ⟨some 43, none, .ld 1 false (.t 42), []⟩, ⟨some 44, none, .bi .eql .i64 (.t 43) (.k (.int .i64 0)), []⟩, ⟨some 45, none, .mv (.t 44), []⟩, ⟨some 46, (some (45, true)), .fa 5 (.t 5), []⟩, ⟨some 47, (some (45, true)), .ld 1 false (.t 46), []⟩, ⟨some 48, (some (45, true)), .bs .eql (.t 47) (.k (.str [])), []⟩, ⟨some 49, none, .pick (.t 45) (.t 48) (.k (.bool false)), []⟩, ⟨some 50, none, .call 70 [(.t 41), (.t 49)], []⟩])
 (.seq (.seq (.reg [] [⟨some 51, none, .fa 1 (.t 5), []⟩, ⟨some 52, none, .ld 1 false (.t 51), []⟩, ⟨some 53, none, .bs .neq (.t 52) (.k (.str [])), []⟩])
 (.cond (.t 53) (.seq (.reg [] [⟨some 54, none, .mv (.t 0), []⟩, ⟨some 55, none, .fa 1 (.t 5), []⟩, ⟨some 56, none, .ld 1 false (.t 55), []⟩, ⟨some 57, none, .call 139 [(.t 54), (.t 56)], []⟩])
 (.reg [] [⟨some 58, none, .mv (.t 0), []⟩, ⟨some 59, none, .bls 1 1 [.str []] [(0, (.k (.str [58])))], []⟩, ⟨some 60, none, .call 140 [(.t 58), (.t 59)], []⟩])) (.skip)))
 (.seq (.reg [] [⟨some 61, none, .mv (.t 0), []⟩, ⟨some 62, none, .fa 2 (.t 5), []⟩, ⟨some 63, none, .ld 1 false (.t 62), []⟩, ⟨some 64, none, .call 139 [(.t 61), (.t 63)], []⟩])
 (.seq (.reg [] [⟨some 65, none, .mv (.t 0), []⟩, ⟨some 66, none, .fa 3 (.t 5), []⟩, ⟨some 67, none, .ld 1 false (.t 66), []⟩, ⟨some 68, none, .call 157 [(.t 65), (.k (.bool false)), (.t 67)], []⟩])
 (.seq (.reg [] [⟨some 69, none, .mv (.t 0), []⟩, ⟨some 70, none, .fa 4 (.t 5), []⟩, ⟨some 71, none, .ld 1 false (.t 70), []⟩, ⟨some 72, none, .call 143 [(.t 69), (.k (.bool false)), (.t 71)], []⟩])
 (.seq (.reg [] [⟨some 73, none, .fa 6 (.t 5), []⟩, ⟨some 74, none, .ld 1 false (.t 73), []⟩, ⟨some 75, none, .len (.t 74), []⟩, ⟨some 76, none, .bi .gtr .i64 (.t 75) (.k (.int .i64 0)), []⟩])
 (.cond (.t 76) (.reg [] [⟨some 77, none, .mv (.t 0), []⟩, ⟨some 78, none, .fa 6 (.t 5), []⟩, ⟨some 79, none, .ld 1 false (.t 78), []⟩, ⟨some 80, none, .call 144 [(.t 77), (.t 79)], []⟩]) (.skip))))))))))))
 (.reg [] [⟨some 81, none, .bi .add .i64 (.t 20) (.k (.int .i64 1)), []⟩, ⟨some 20, none, .mv (.t 81), []⟩])))))))))⟩
theorem ck87 : chkFn Tryz.prog 87 ir87 = true := by kernel_rfl
def ir116 : AFn := ⟨41, 1, [.t 2], .seq (.reg [] [⟨some 1, none, .boxv (.t 0), []⟩, ⟨some 2, none, .mv (.k (.int .i64 0)), []⟩])
 (.seq (.reg [] [⟨some 3, none, .mv (.k (.int .i64 0)), []⟩])
 (.seq (.seq (.reg [] [⟨some 8, none, .fa 0 (.t 1), []⟩, ⟨some 9, none, .ld 1 false (.t 8), []⟩])
 (.block 0 (.seq (.reg [] [⟨some 11, none, .bi .eql .i64 (.t 9) (.k (.int .i64 6)), []⟩, ⟨some 10, none, .mv (.t 11), []⟩])
 (.cond (.t 10) (.seq (.reg [] [⟨some 12, none, .fa 3 (.t 1), []⟩, ⟨some 13, none, .ld 1 false (.t 12), []⟩, ⟨some 14, none, .len (.t 13), []⟩, ⟨some 15, none, .mv (.k (.int .i64 0)), []⟩])
 (.block 1 (.loop [3, 13, 14, 15] (.seq (.reg [] [⟨some 16, none, .bi .lss .i64 (.t 15) (.t 14), []⟩])
 (.seq (.cond (.t 16) (.skip) (.exit 1))
 (.seq (.block 2 (.seq (.reg [] [⟨some 17, none, .ia 5 (.t 13) (.t 15), []⟩, ⟨some 18, none, .ld 5 true (.t 17), []⟩, ⟨some 5, none, .alloc [.int .i64 0, .int .i64 0, .str [], .sl .nil 5 [], .sl .nil 6 []], []⟩, ⟨none, none, .st 5 (.t 5) (.t 18), []⟩])
 (.reg [] [⟨some 19, none, .mv (.t 3), []⟩, ⟨some 20, none, .ld 5 true (.t 5), []⟩, ⟨some 21, none, .call 116 [(.t 20)], []⟩, ⟨some 22, none, .mm true (.t 19) [(.t 21)], []⟩, ⟨some 3, none, .mv (.t 22), []⟩])))
 (.reg [] [⟨some 23, none, .bi .add .i64 (.t 15) (.k (.int .i64 1)), []⟩, ⟨some 15, none, .mv (.t 23), []⟩]))))))) (.seq (.reg [] [⟨some 25, none, .bi .eql .i64 (.t 9) (.k (.int .i64 7)), []⟩, ⟨some 24, none, .mv (.t 25), []⟩])
 (.cond (.t 24) (.seq (.reg [] [⟨some 26, none, .fa 4 (.t 1), []⟩, ⟨some 27, none, .ld 1 false (.t 26), []⟩, ⟨some 28, none, .len (.t 27), []⟩, ⟨some 29, none, .mv (.k (.int .i64 0)), []⟩])
 (.block 3 (.loop [3, 27, 28, 29] (.seq (.reg [] [⟨some 30, none, .bi .lss .i64 (.t 29) (.t 28), []⟩])
 (.seq (.cond (.t 30) (.skip) (.exit 3))
 (.seq (.block 4 (.seq (.reg [] [⟨some 31, none, .ia 6 (.t 27) (.t 29), []⟩, ⟨some 32, none, .ld 6 true (.t 31), []⟩, ⟨some 7, none, .alloc [.str [], .int .i64 0, .int .i64 0, .str [], .sl .nil 5 [], .sl .nil 6 []], []⟩, ⟨none, none, .st 6 (.t 7) (.t 32), []⟩])
 (.reg [] [⟨some 33, none, .mv (.t 3), []⟩, ⟨some 34, none, .fa 1 (.t 7), []⟩, ⟨some 35, none, .ld 5 true (.t 34), []⟩, ⟨some 36, none, .call 116 [(.t 35)], []⟩, ⟨some 37, none, .mm true (.t 33) [(.t 36)], []⟩, ⟨some 3, none, .mv (.t 37), []⟩])))
 (.reg [] [⟨some 38, none, .bi .add .i64 (.t 29) (.k (.int .i64 1)), []⟩, ⟨some 29, none, .mv (.t 38), []⟩]))))))) (.seq (.reg [] [⟨some 2, none, .mv (.k (.int .i64 0)), []⟩])
 (.ret))))))))
 (.seq (.reg [] [⟨some 39, none, .mv (.t 3), []⟩, ⟨some 40, none, .bi .add .i64 (.t 39) (.k (.int .i64 1)), []⟩, ⟨some 2, none, .mv (.t 40), []⟩])
 (.ret))))⟩
theorem ck116 : chkFn Tryz.prog 116 ir116 = true := by kernel_rfl
def ir117 : AFn := ⟨10, 1, [.t 2], .seq (.reg [] [⟨some 1, none, .boxv (.t 0), []⟩, ⟨some 2, none, .mv (.k (.bool false)), []⟩])
 (.seq (.reg [] [⟨some 3, none, .ld 5 true (.t 1), []⟩, ⟨some 4, none, .call 201 [(.t 3), (.k (.clo 203 [] []))], []⟩, ⟨some 5, none, .mv (.t 4), []⟩, ⟨some 6, (some (5, true)), .ld 5 true (.t 1), []⟩, ⟨some 7, (some (5, true)), .call 116 [(.t 6)], []⟩, ⟨some 8, (some (5, true)), .bi .leq .i64 (.t 7) (.k (.int .i64 16)), []⟩, ⟨some 9, none, .pick (.t 5) (.t 8) (.k (.bool false)), []⟩, ⟨some 2, none, .mv (.t 9), []⟩])
 (.ret))⟩
theorem ck117 : chkFn Tryz.prog 117 ir117 = true := by kernel_rfl
def ir118 : AFn := ⟨119, 2, [.t 4], .seq (.reg [] [⟨some 3, none, .boxv (.t 1), []⟩, ⟨some 4, none, .mv (.k (.sl .nil 2 [])), []⟩])
 (.seq (.seq (.reg [] [⟨some 9, none, .fa 0 (.t 3), []⟩, ⟨some 10, none, .ld 1 false (.t 9), []⟩])
 (.block 0 (.seq (.reg [] [⟨some 12, none, .bi .eql .i64 (.t 10) (.k (.int .i64 0)), []⟩, ⟨some 11, none, .mv (.t 12), []⟩])
 (.cond (.t 11) (.seq (.reg [] [⟨some 13, none, .mv (.t 0), []⟩, ⟨some 14, none, .call 204 [(.k (.str [110, 117, 108, 108]))], []⟩, ⟨some 15, none, .bls 2 1 [.int .i64 0, .str []] [(0, (.t 14))], []⟩, ⟨some 16, none, .app 2 24 (.t 13) (.t 15), []⟩, ⟨some 4, none, .mv (.t 16), []⟩])
 (.ret)) (.seq (.reg [] [⟨some 18, none, .bi .eql .i64 (.t 10) (.k (.int .i64 1)), []⟩, ⟨some 17, none, .mv (.t 18), []⟩])
 (.cond (.t 17) (.seq (.reg [] [⟨some 19, none, .mv (.t 0), []⟩, ⟨some 20, none, .fa 1 (.t 3), []⟩, ⟨some 21, none, .ld 1 false (.t 20), []⟩, ⟨some 22, none, .bi .eql .i64 (.t 21) (.k (.int .i64 1)), []⟩, ⟨some 23, none, .call 205 [(.t 22)], []⟩, ⟨some 24, none, .call 204 [(.t 23)], []⟩, ⟨some 25, none, .bls 2 1 [.int .i64 0, .str []] [(0, (.t 24))], []⟩, ⟨some 26, none, .app 2 24 (.t 19) (.t 25), []⟩, ⟨some 4, none, .mv (.t 26), []⟩])
 (.ret)) (.seq (.reg [] [⟨some 28, none, .bi .eql .i64 (.t 10) (.k (.int .i64 2)), []⟩, ⟨some 27, none, .mv (.t 28), []⟩])
 (.cond (.t 27) (.seq (.reg [] [⟨some 29, none, .mv (.t 0), []⟩, ⟨some 30, none, .fa 1 (.t 3), []⟩, ⟨some 31, none, .ld 1 false (.t 30), []⟩, ⟨some 32, none, .call 206 [(.t 31), (.k (.int .i64 10))], []⟩, ⟨some 33, none, .bld [.int .i64 0, .str []] [(0, 1, (.k (.int .i64 3))), (1, 1, (.t 32))], []⟩, ⟨some 34, none, .bls 2 1 [.int .i64 0, .str []] [(0, (.t 33))], []⟩, ⟨some 35, none, .app 2 24 (.t 29) (.t 34), []⟩, ⟨some 4, none, .mv (.t 35), []⟩])
 (.ret)) (.seq (.reg [] [⟨some 37, none, .bi .eql .i64 (.t 10) (.k (.int .i64 3)), []⟩, ⟨some 36, none, .mv (.t 37), []⟩])
 (.cond (.t 36) (.seq (.reg [0, 1, 2, 4, 5, 3, 6, 7, 8, 9] [⟨some 38, none, .mv (.t 0), []⟩, ⟨some 39, none, .fa 2 (.t 3), []⟩, ⟨some 40, none, .ld 1 false (.t 39), []⟩, ⟨some 42, none, .fa 2 (.t 3), []⟩, ⟨some 43, none, .ld 1 false (.t 42), []⟩, ⟨some 41, none, .call 207 [(.t 40)], [4]⟩, ⟨some 44, none, .bld [.int .i64 0, .str []] [(0, 1, (.t 41)), (1, 1, (.t 43))], []⟩, ⟨some 45, none, .bls 2 1 [.int .i64 0, .str []] [(0, (.t 44))], []⟩, ⟨some 46, none, .app 2 24 (.t 38) (.t 45), []⟩, ⟨some 4, none, .mv (.t 46), []⟩])
 (.ret)) (.seq (.reg [] [⟨some 48, none, .bi .eql .i64 (.t 10) (.k (.int .i64 4)), []⟩, ⟨some 47, none, .mv (.t 48), []⟩])
 (.cond (.t 47) (.seq (.reg [] [⟨some 49, none, .mv (.t 0), []⟩, ⟨some 50, none, .fa 2 (.t 3), []⟩, ⟨some 51, none, .ld 1 false (.t 50), []⟩, ⟨some 52, none, .bld [.int .i64 0, .str []] [(0, 1, (.k (.int .i64 5))), (1, 1, (.t 51))], []⟩, ⟨some 53, none, .bls 2 1 [.int .i64 0, .str []] [(0, (.t 52))], []⟩, ⟨some 54, none, .app 2 24 (.t 49) (.t 53), []⟩, ⟨some 4, none, .mv (.t 54), []⟩])
 (.ret)) (.seq (.reg [] [⟨some 56, none, .bi .eql .i64 (.t 10) (.k (.int .i64 5)), []⟩, ⟨some 55, none, .mv (.t 56), []⟩])
 (.cond (.t 55) (.seq (.reg [] [⟨some 57, none, .mv (.t 0), []⟩, ⟨some 58, none, .fa 2 (.t 3), []⟩, ⟨some 59, none, .ld 1 false (.t 58), []⟩, ⟨some 60, none, .call 204 [(.t 59)], []⟩, ⟨some 61, none, .bls 2 1 [.int .i64 0, .str []] [(0, (.t 60))], []⟩, ⟨some 62, none, .app 2 24 (.t 57) (.t 61), []⟩, ⟨some 4, none, .mv (.t 62), []⟩])
 (.ret)) (.seq (.reg [] [⟨some 64, none, .bi .eql .i64 (.t 10) (.k (.int .i64 8)), []⟩, ⟨some 63, none, .mv (.t 64), []⟩])
 (.cond (.t 63) (.seq (.reg [0, 2, 3, 1, 4, 5, 6, 7] [⟨some 65, none, .mv (.t 0), []⟩, ⟨some 67, none, .fa 2 (.t 3), []⟩, ⟨some 68, none, .ld 1 false (.t 67), []⟩, ⟨some 66, none, .call 208 [(.k (.str [36]))], [2]⟩, ⟨some 69, none, .call 204 [(.t 68)], []⟩, ⟨some 70, none, .bls 2 2 [.int .i64 0, .str []] [(0, (.t 66)), (1, (.t 69))], []⟩, ⟨some 71, none, .app 2 24 (.t 65) (.t 70), []⟩, ⟨some 4, none, .mv (.t 71), []⟩])
 (.ret)) (.seq (.reg [] [⟨some 73, none, .bi .eql .i64 (.t 10) (.k (.int .i64 6)), []⟩, ⟨some 72, none, .mv (.t 73), []⟩])
 (.cond (.t 72) (.seq (.reg [] [⟨some 74, none, .mv (.t 0), []⟩, ⟨some 75, none, .call 208 [(.k (.str [91]))], []⟩, ⟨some 76, none, .bls 2 1 [.int .i64 0, .str []] [(0, (.t 75))], []⟩, ⟨some 77, none, .app 2 24 (.t 74) (.t 76), []⟩, ⟨some 0, none, .mv (.t 77), []⟩])
 (.seq (.seq (.reg [] [⟨some 78, none, .fa 3 (.t 3), []⟩, ⟨some 79, none, .ld 1 false (.t 78), []⟩, ⟨some 80, none, .len (.t 79), []⟩, ⟨some 81, none, .mv (.k (.int .i64 0)), []⟩])
 (.block 1 (.loop [0, 79, 80, 81] (.seq (.reg [] [⟨some 82, none, .bi .lss .i64 (.t 81) (.t 80), []⟩])
 (.seq (.cond (.t 82) (.skip) (.exit 1))
 (.seq (.block 2 (.seq (.reg [] [⟨some 83, none, .ia 5 (.t 79) (.t 81), []⟩, ⟨some 84, none, .ld 5 true (.t 83), []⟩, ⟨some 6, none, .alloc [.int .i64 0, .int .i64 0, .str [], .sl .nil 5 [], .sl .nil 6 []], []⟩, ⟨none, none, .st 5 (.t 6) (.t 84), []⟩])
 (.reg [] [⟨some 85, none, .mv (.t 0), []⟩, ⟨some 86, none, .ld 5 true (.t 6), []⟩, ⟨some 87, none, .call 118 [(.t 85), (.t 86)], []⟩, ⟨some 0, none, .mv (.t 87), []⟩])))
 (.reg [] [⟨some 88, none, .bi .add .i64 (.t 81) (.k (.int .i64 1)), []⟩, ⟨some 81, none, .mv (.t 88), []⟩])))))))
 (.seq (.reg [] [⟨some 89, none, .mv (.t 0), []⟩, ⟨some 90, none, .call 208 [(.k (.str [93]))], []⟩, ⟨some 91, none, .bls 2 1 [.int .i64 0, .str []] [(0, (.t 90))], []⟩, ⟨some 92, none, .app 2 24 (.t 89) (.t 91), []⟩, ⟨some 4, none, .mv (.t 92), []⟩])
 (.ret)))) (.skip)))))))))))))))))))
 (.seq (.reg [] [⟨some 93, none, .mv (.t 0), []⟩, ⟨some 94, none, .call 208 [(.k (.str [123]))], []⟩, ⟨some 95, none, .bls 2 1 [.int .i64 0, .str []] [(0, (.t 94))], []⟩, ⟨some 96, none, .app 2 24 (.t 93) (.t 95), []⟩, ⟨some 0, none, .mv (.t 96), []⟩])
 (.seq (.seq (.reg [] [⟨some 97, none, .fa 4 (.t 3), []⟩, ⟨some 98, none, .ld 1 false (.t 97), []⟩, ⟨some 99, none, .len (.t 98), []⟩, ⟨some 100, none, .mv (.k (.int .i64 0)), []⟩])
 (.block 3 (.loop [0, 98, 99, 100] (.seq (.reg [] [⟨some 101, none, .bi .lss .i64 (.t 100) (.t 99), []⟩])
 (.seq (.cond (.t 101) (.skip) (.exit 3))
 (.seq (.block 4 (.seq (.reg [] [⟨some 102, none, .ia 6 (.t 98) (.t 100), []⟩, ⟨some 103, none, .ld 6 true (.t 102), []⟩, ⟨some 8, none, .alloc [.str [], .int .i64 0, .int .i64 0, .str [], .sl .nil 5 [], .sl .nil 6 []], []⟩, ⟨none, none, .st 6 (.t 8) (.t 103), []⟩])
 (.reg [0, 1, 2, 7, 8, 3, 4, 5, 6, 9, 10] [⟨some 104, none, .mv (.t 0), []⟩, ⟨some 105, none, .fa 0 (.t 8), []⟩, ⟨some 106, none, .ld 1 false (.t 105), []⟩, ⟨some 111, none, .fa 1 (.t 8), []⟩, ⟨some 112, none, .ld 5 true (.t 111), []⟩, ⟨some 107, none, .call 204 [(.t 106)], [4]⟩, ⟨some 108, none, .call 208 [(.k (.str [58]))], [4]⟩, ⟨some 109, none, .bls 2 2 [.int .i64 0, .str []] [(0, (.t 107)), (1, (.t 108))], []⟩, ⟨some 110, none, .app 2 24 (.t 104) (.t 109), [4]⟩, ⟨some 113, none, .call 118 [(.t 110), (.t 112)], []⟩, ⟨some 0, none, .mv (.t 113), []⟩])))
 (.reg [] [⟨some 114, none, .bi .add .i64 (.t 100) (.k (.int .i64 1)), []⟩, ⟨some 100, none, .mv (.t 114), []⟩])))))))
 (.seq (.reg [] [⟨some 115, none, .mv (.t 0), []⟩, ⟨some 116, none, .call 208 [(.k (.str [125]))], []⟩, ⟨some 117, none, .bls 2 1 [.int .i64 0, .str []] [(0, (.t 116))], []⟩, ⟨some 118, none, .app 2 24 (.t 115) (.t 117), []⟩, ⟨some 4, none, .mv (.t 118), []⟩])
 (.ret)))))⟩
theorem ck118 : chkFn Tryz.prog 118 ir118 = true := by kernel_rfl
def ir119 : AFn := ⟨40, 1, [.t 2], .seq (.reg [] [⟨some 1, none, .boxv (.t 0), []⟩, ⟨some 2, none, .mv (.k (.bool false)), []⟩])
 (.seq (.seq (.reg [] [⟨some 3, none, .fa 0 (.t 1), []⟩, ⟨some 4, none, .ld 1 false (.t 3), []⟩])
 (.block 0 (.seq (.reg [] [⟨some 6, none, .bi .eql .i64 (.t 4) (.k (.int .i64 1)), []⟩, ⟨some 5, none, .mv (.t 6), []⟩])
 (.cond (.t 5) (.seq (.reg [] [⟨some 7, none, .fa 1 (.t 1), []⟩, ⟨some 8, none, .ld 1 false (.t 7), []⟩, ⟨some 9, none, .bs .eql (.t 8) (.k (.str [46, 46, 46])), []⟩, ⟨some 10, none, .mv (.t 9), []⟩, ⟨some 11, (some (10, false)), .fa 1 (.t 1), []⟩, ⟨some 12, (some (10, false)), .ld 1 false (.t 11), []⟩, ⟨some 13, (some (10, false)), .lens (.t 12), []⟩, ⟨some 14, (some (10, false)), .bi .eql .i64 (.t 13) (.k (.int .i64 1)), []⟩, ⟨some 15, (some (10, false)), .mv (.t 14), []⟩, ⟨some 16, (some (15, true)), .fa 1 (.t 1), []⟩, ⟨some 17, (some (15, true)), .ld 1 false (.t 16), []⟩, ⟨some 18, (some (15, true)), .call 209 [(.k (.str [33, 36, 38, 40, 41, 58, 61, 64, 91, 93, 123, 124, 125])), (.t 17)], []⟩, ⟨some 19, (some (10, false)), .pick (.t 15) (.t 18) (.k (.bool false)), []⟩, ⟨some 20, none, .pick (.t 10) (.k (.bool true)) (.t 19), []⟩, ⟨some 2, none, .mv (.t 20), []⟩])
 (.ret)) (.seq (.reg [] [⟨some 22, none, .bi .eql .i64 (.t 4) (.k (.int .i64 2)), []⟩, ⟨some 21, none, .mv (.t 22), []⟩])
 (.cond (.t 21) (.seq (.reg [] [⟨some 23, none, .fa 1 (.t 1), []⟩, ⟨some 24, none, .ld 1 false (.t 23), []⟩, ⟨some 25, none, .call 203 [(.t 24)], []⟩, ⟨some 2, none, .mv (.t 25), []⟩])
 (.ret)) (.seq (.seq (.reg [] [⟨some 27, none, .bi .eql .i64 (.t 4) (.k (.int .i64 3)), []⟩, ⟨some 26, none, .mv (.t 27), []⟩])
 (.cond (.t 26) (.skip) (.reg [] [⟨some 28, none, .bi .eql .i64 (.t 4) (.k (.int .i64 4)), []⟩, ⟨some 26, none, .mv (.t 28), []⟩])))
 (.cond (.t 26) (.seq (.reg [0, 1, 3, 4, 2, 5, 6] [⟨some 29, none, .fa 1 (.t 1), []⟩, ⟨some 30, none, .ld 1 false (.t 29), []⟩, ⟨some 32, none, .fa 0 (.t 1), []⟩, ⟨some 33, none, .ld 1 false (.t 32), []⟩, ⟨some 31, none, .call 207 [(.t 30)], [3]⟩, ⟨some 34, none, .bi .eql .i64 (.t 31) (.t 33), []⟩, ⟨some 2, none, .mv (.t 34), []⟩])
 (.ret)) (.seq (.reg [] [⟨some 36, none, .bi .eql .i64 (.t 4) (.k (.int .i64 5)), []⟩, ⟨some 35, none, .mv (.t 36), []⟩])
 (.cond (.t 35) (.seq (.reg [] [⟨some 37, none, .fa 1 (.t 1), []⟩, ⟨some 38, none, .ld 1 false (.t 37), []⟩, ⟨some 39, none, .call 202 [(.t 38)], []⟩, ⟨some 2, none, .mv (.t 39), []⟩])
 (.ret)) (.skip)))))))))))
 (.seq (.reg [] [⟨some 2, none, .mv (.k (.bool false)), []⟩])
 (.ret)))⟩
theorem ck119 : chkFn Tryz.prog 119 ir119 = true := by kernel_rfl
def ir120 : AFn := ⟨83, 1, [.t 2], .seq (.reg [] [⟨some 2, none, .mv (.k (.str [])), []⟩])
 (.seq (.reg [] [⟨some 11, none, .bls 1 1 [.int .u8 0] [(0, (.k (.int .u8 34)))], []⟩, ⟨some 3, none, .mv (.t 11), []⟩])
 (.seq (.seq (.reg [] [⟨some 4, none, .mv (.k (.int .i64 0)), []⟩])
 (.block 0 (.loop [0, 3, 4] (.seq (.seq (.reg [] [⟨some 12, none, .mv (.t 4), []⟩, ⟨some 13, none, .mv (.t 0), []⟩, ⟨some 14, none, .lens (.t 13), []⟩, ⟨some 15, none, .bi .lss .i64 (.t 12) (.t 14), []⟩])
 (.cond (.t 15) (.skip) (.exit 0)))
 (.block 1 (.seq (.reg [] [⟨some 17, none, .mv (.t 0), []⟩, ⟨some 18, none, .mv (.t 4), []⟩, ⟨some 19, none, .call 210 [(.t 17), (.t 18)], []⟩, ⟨some 16, none, .mv (.t 19), []⟩, ⟨some 20, none, .ext (.t 16) 0, []⟩, ⟨some 21, none, .ext (.t 16) 1, []⟩, ⟨some 5, none, .mv (.t 20), []⟩, ⟨some 6, none, .mv (.t 21), []⟩])
 (.seq (.block 2 (.seq (.reg [] [⟨some 31, none, .mv (.t 5), []⟩, ⟨some 32, none, .bi .eql .i64 (.t 31) (.k (.int .i64 34)), []⟩, ⟨some 33, none, .mv (.t 32), []⟩, ⟨some 34, (some (33, false)), .mv (.t 5), []⟩, ⟨some 35, (some (33, false)), .bi .eql .i64 (.t 34) (.k (.int .i64 92)), []⟩, ⟨some 36, none, .pick (.t 33) (.k (.bool true)) (.t 35), []⟩, ⟨some 30, none, .mv (.t 36), []⟩])
 (.cond (.t 30) (.reg [] [⟨some 37, none, .mv (.t 3), []⟩, ⟨some 38, none, .mv (.t 5), []⟩, ⟨some 39, none, .cvi .u8 (.t 38), []⟩, ⟨some 40, none, .bls 1 2 [.int .u8 0] [(0, (.k (.int .u8 92))), (1, (.t 39))], []⟩, ⟨some 41, none, .app 1 1 (.t 37) (.t 40), []⟩, ⟨some 3, none, .mv (.t 41), []⟩]) (.seq (.reg [] [⟨some 43, none, .mv (.t 5), []⟩, ⟨some 44, none, .bi .eql .i64 (.t 43) (.k (.int .i64 10)), []⟩, ⟨some 42, none, .mv (.t 44), []⟩])
 (.cond (.t 42) (.reg [] [⟨some 45, none, .mv (.t 3), []⟩, ⟨some 46, none, .bls 1 2 [.int .u8 0] [(0, (.k (.int .u8 92))), (1, (.k (.int .u8 110)))], []⟩, ⟨some 47, none, .app 1 1 (.t 45) (.t 46), []⟩, ⟨some 3, none, .mv (.t 47), []⟩]) (.seq (.reg [] [⟨some 49, none, .mv (.t 5), []⟩, ⟨some 50, none, .bi .lss .i64 (.t 49) (.k (.int .i64 32)), []⟩, ⟨some 51, none, .mv (.t 50), []⟩, ⟨some 52, (some (51, false)), .mv (.t 5), []⟩, ⟨some 53, (some (51, false)), .bi .geq .i64 (.t 52) (.k (.int .i64 65536)), []⟩, ⟨some 54, none, .pick (.t 51) (.k (.bool true)) (.t 53), []⟩, ⟨some 48, none, .mv (.t 54), []⟩])
 (.cond (.t 48) (.seq (.reg [] [⟨some 56, none, .mv (.t 0), []⟩, ⟨some 57, none, .mv (.t 4), []⟩, ⟨some 58, none, .mv (.t 4), []⟩, ⟨some 59, none, .mv (.t 6), []⟩, ⟨some 60, none, .bi .add .i64 (.t 58) (.t 59), []⟩, ⟨some 61, none, .sls (.t 56) (some (.t 57)) (some (.t 60)), []⟩, ⟨some 62, none, .call 211 [(.t 61)], []⟩, ⟨some 55, none, .mv (.t 62), []⟩, ⟨some 63, none, .ext (.t 55) 0, []⟩, ⟨some 64, none, .ext (.t 55) 1, []⟩, ⟨some 7, none, .mv (.t 63), []⟩, ⟨some 8, none, .mv (.t 64), []⟩])
 (.seq (.reg [] [⟨some 65, none, .mv (.t 7), []⟩, ⟨some 66, none, .len (.t 65), []⟩, ⟨some 67, none, .mv (.k (.int .i64 0)), []⟩])
 (.block 3 (.loop [0, 3, 4, 6, 65, 66, 67] (.seq (.reg [] [⟨some 68, none, .bi .lss .i64 (.t 67) (.t 66), []⟩])
 (.seq (.cond (.t 68) (.skip) (.exit 3))
 (.seq (.block 4 (.seq (.reg [] [⟨some 69, none, .ia 1 (.t 65) (.t 67), []⟩, ⟨some 70, none, .ld 1 false (.t 69), []⟩, ⟨some 10, none, .mv (.t 70), []⟩])
 (.reg [] [⟨some 71, none, .mv (.t 3), []⟩, ⟨some 72, none, .mv (.t 10), []⟩, ⟨some 73, none, .call 212 [(.t 71), (.t 72)], []⟩, ⟨some 3, none, .mv (.t 73), []⟩])))
 (.reg [] [⟨some 74, none, .bi .add .i64 (.t 67) (.k (.int .i64 1)), []⟩, ⟨some 67, none, .mv (.t 74), []⟩])))))))) (.reg [] [⟨some 22, none, .mv (.t 3), []⟩, ⟨some 23, none, .mv (.t 0), []⟩, ⟨some 24, none, .mv (.t 4), []⟩, ⟨some 25, none, .mv (.t 4), []⟩, ⟨some 26, none, .mv (.t 6), []⟩, ⟨some 27, none, .bi .add .i64 (.t 25) (.t 26), []⟩, ⟨some 28, none, .sls (.t 23) (some (.t 24)) (some (.t 27)), []⟩, ⟨some 29, none, .apps (.t 22) (.t 28), []⟩, ⟨some 3, none, .mv (.t 29), []⟩]))))))))
 (.reg [] [⟨some 75, none, .mv (.t 4), []⟩, ⟨some 76, none, .mv (.t 6), []⟩, ⟨some 77, none, .mm true (.t 76) [(.k (.int .i64 1))], []⟩, ⟨some 78, none, .bi .add .i64 (.t 75) (.t 77), []⟩, ⟨some 4, none, .mv (.t 78), []⟩]))))))))
 (.seq (.reg [] [⟨some 79, none, .mv (.t 3), []⟩, ⟨some 80, none, .bls 1 1 [.int .u8 0] [(0, (.k (.int .u8 34)))], []⟩, ⟨some 81, none, .app 1 1 (.t 79) (.t 80), []⟩, ⟨some 82, none, .cvb2s (.t 81), []⟩, ⟨some 2, none, .mv (.t 82), []⟩])
 (.ret))))⟩
theorem ck120 : chkFn Tryz.prog 120 ir120 = true := by kernel_rfl
def ir125 : AFn := ⟨30, 1, [.t 2], .seq (.reg [] [⟨some 1, none, .boxv (.t 0), []⟩, ⟨some 2, none, .mv (.k (.bool false)), []⟩])
 (.seq (.reg [] [⟨some 3, none, .fa 0 (.t 1), []⟩, ⟨some 4, none, .ld 1 false (.t 3), []⟩, ⟨some 5, none, .call 203 [(.t 4)], []⟩, ⟨some 6, none, .mv (.t 5), []⟩, ⟨some 7, (some (6, true)), .fa 1 (.t 1), []⟩, ⟨some 8, (some (6, true)), .ld 1 false (.t 7), []⟩, ⟨some 9, (some (6, true)), .bi .geq .i64 (.t 8) (.k (.int .i64 0)), []⟩, ⟨some 10, none, .pick (.t 6) (.t 9) (.k (.bool false)), []⟩, ⟨some 11, none, .mv (.t 10), []⟩, ⟨some 12, (some (11, true)), .fa 1 (.t 1), []⟩, ⟨some 13, (some (11, true)), .ld 1 false (.t 12), []⟩, ⟨some 14, (some (11, true)), .bi .leq .i64 (.t 13) (.k (.int .i64 4)), []⟩, ⟨some 15, none, .pick (.t 11) (.t 14) (.k (.bool false)), []⟩, ⟨some 16, none, .mv (.t 15), []⟩, ⟨some 17, (some (16, true)), .fa 2 (.t 1), []⟩, ⟨some 18, (some (16, true)), .ld 1 false (.t 17), []⟩, ⟨some 19, (some (16, true)), .bi .geq .i64 (.t 18) (.k (.int .i64 0)), []⟩, ⟨some 20, none, .pick (.t 16) (.t 19) (.k (.bool false)), []⟩, ⟨some 21, none, .mv (.t 20), []⟩, ⟨some 22, (some (21, true)), .fa 2 (.t 1), []⟩, ⟨some 23, (some (21, true)), .ld 1 false (.t 22), []⟩, ⟨some 24, (some (21, true)), .fa 1 (.t 1), []⟩, ⟨some 25, (some (21, true)), .ld 1 false (.t 24), []⟩, ⟨some 26, (some (21, true)), .bi .add .i64 (.t 25) (.k (.int .i64 1)), []⟩, ⟨some 27, (some (21, true)), .shf .shr (.t 23) (.t 26), []⟩, ⟨some 28, (some (21, true)), .bi .eql .i64 (.t 27) (.k (.int .i64 0)), []⟩, ⟨some 29, none, .pick (.t 21) (.t 28) (.k (.bool false)), []⟩, ⟨some 2, none, .mv (.t 29), []⟩])
 (.ret))⟩
theorem ck125 : chkFn Tryz.prog 125 ir125 = true := by kernel_rfl
def ir128 : AFn := ⟨32, 3, [.t 6], .seq (.reg [] [⟨some 6, none, .mv (.k (.bool false)), []⟩])
 (.seq (.seq (.reg [] [⟨some 10, none, .mv (.t 0), []⟩, ⟨some 11, none, .len (.t 10), []⟩, ⟨some 12, none, .mv (.t 1), []⟩, ⟨some 13, none, .len (.t 12), []⟩, ⟨some 14, none, .bi .neq .i64 (.t 11) (.t 13), []⟩])
 (.cond (.t 14) (.seq (.reg [] [⟨some 6, none, .mv (.k (.bool false)), []⟩])
 (.ret)) (.skip)))
 (.seq (.seq (.reg [] [⟨some 15, none, .mv (.t 0), []⟩, ⟨some 16, none, .len (.t 15), []⟩, ⟨some 17, none, .mv (.k (.int .i64 0)), []⟩])
 (.block 0 (.loop [1, 2, 15, 16, 17] (.seq (.reg [] [⟨some 18, none, .bi .lss .i64 (.t 17) (.t 16), []⟩])
 (.seq (.cond (.t 18) (.skip) (.exit 0))
 (.seq (.block 1 (.seq (.reg [] [⟨some 19, none, .mv (.t 17), []⟩, ⟨some 20, none, .ia 5 (.t 15) (.t 17), []⟩, ⟨some 21, none, .ld 5 true (.t 20), []⟩, ⟨some 8, none, .alloc [.int .i64 0, .int .i64 0, .str [], .sl .nil 5 [], .sl .nil 6 []], []⟩, ⟨some 7, none, .mv (.t 19), []⟩, ⟨none, none, .st 5 (.t 8) (.t 21), []⟩])
 (.seq (.reg [] [⟨some 22, none, .mv (.t 1), []⟩, ⟨some 23, none, .mv (.t 7), []⟩, ⟨some 24, none, .ia 5 (.t 22) (.t 23), []⟩, ⟨some 25, none, .ld 5 true (.t 24), []⟩, ⟨some 9, none, .alloc [.int .i64 0, .int .i64 0, .str [], .sl .nil 5 [], .sl .nil 6 []], []⟩, ⟨none, none, .st 5 (.t 9) (.t 25), []⟩])
 (.seq (.reg [] [⟨some 26, none, .mv (.t 2), []⟩, ⟨some 27, none, .ld 5 true (.t 8), []⟩, ⟨some 28, none, .ld 5 true (.t 9), []⟩, ⟨some 29, none, .callv (.t 26) [(.t 27), (.t 28)], []⟩, ⟨some 30, none, .not (.t 29), []⟩])
 (.cond (.t 30) (.seq (.reg [] [⟨some 6, none, .mv (.k (.bool false)), []⟩])
 (.ret)) (.skip))))))
 (.reg [] [⟨some 31, none, .bi .add .i64 (.t 17) (.k (.int .i64 1)), []⟩, ⟨some 17, none, .mv (.t 31), []⟩])))))))
 (.seq (.reg [] [⟨some 6, none, .mv (.k (.bool true)), []⟩])
 (.ret))))⟩
theorem ck128 : chkFn Tryz.prog 128 ir128 = true := by kernel_rfl
def ir129 : AFn := ⟨32, 3, [.t 6], .seq (.reg [] [⟨some 6, none, .mv (.k (.bool false)), []⟩])
 (.seq (.seq (.reg [] [⟨some 10, none, .mv (.t 0), []⟩, ⟨some 11, none, .len (.t 10), []⟩, ⟨some 12, none, .mv (.t 1), []⟩, ⟨some 13, none, .len (.t 12), []⟩, ⟨some 14, none, .bi .neq .i64 (.t 11) (.t 13), []⟩])
 (.cond (.t 14) (.seq (.reg [] [⟨some 6, none, .mv (.k (.bool false)), []⟩])
 (.ret)) (.skip)))
 (.seq (.seq (.reg [] [⟨some 15, none, .mv (.t 0), []⟩, ⟨some 16, none, .len (.t 15), []⟩, ⟨some 17, none, .mv (.k (.int .i64 0)), []⟩])
 (.block 0 (.loop [1, 2, 15, 16, 17] (.seq (.reg [] [⟨some 18, none, .bi .lss .i64 (.t 17) (.t 16), []⟩])
 (.seq (.cond (.t 18) (.skip) (.exit 0))
 (.seq (.block 1 (.seq (.reg [] [⟨some 19, none, .mv (.t 17), []⟩, ⟨some 20, none, .ia 6 (.t 15) (.t 17), []⟩, ⟨some 21, none, .ld 6 true (.t 20), []⟩, ⟨some 8, none, .alloc [.str [], .int .i64 0, .int .i64 0, .str [], .sl .nil 5 [], .sl .nil 6 []], []⟩, ⟨some 7, none, .mv (.t 19), []⟩, ⟨none, none, .st 6 (.t 8) (.t 21), []⟩])
 (.seq (.reg [] [⟨some 22, none, .mv (.t 1), []⟩, ⟨some 23, none, .mv (.t 7), []⟩, ⟨some 24, none, .ia 6 (.t 22) (.t 23), []⟩, ⟨some 25, none, .ld 6 true (.t 24), []⟩, ⟨some 9, none, .alloc [.str [], .int .i64 0, .int .i64 0, .str [], .sl .nil 5 [], .sl .nil 6 []], []⟩, ⟨none, none, .st 6 (.t 9) (.t 25), []⟩])
 (.seq (.reg [] [⟨some 26, none, .mv (.t 2), []⟩, ⟨some 27, none, .ld 6 true (.t 8), []⟩, ⟨some 28, none, .ld 6 true (.t 9), []⟩, ⟨some 29, none, .callv (.t 26) [(.t 27), (.t 28)], []⟩, ⟨some 30, none, .not (.t 29), []⟩])
 (.cond (.t 30) (.seq (.reg [] [⟨some 6, none, .mv (.k (.bool false)), []⟩])
 (.ret)) (.skip))))))
 (.reg [] [⟨some 31, none, .bi .add .i64 (.t 17) (.k (.int .i64 1)), []⟩, ⟨some 17, none, .mv (.t 31), []⟩])))))))
 (.seq (.reg [] [⟨some 6, none, .mv (.k (.bool true)), []⟩])
 (.ret))))⟩
theorem ck129 : chkFn Tryz.prog 129 ir129 = true := by kernel_rfl
def ir130 : AFn := ⟨17, 2, [.t 4], .seq (.reg [] [⟨some 2, none, .boxv (.t 0), []⟩, ⟨some 3, none, .boxv (.t 1), []⟩, ⟨some 4, none, .mv (.k (.bool false)), []⟩])
 (.seq (.reg [] [⟨some 5, none, .fa 0 (.t 2), []⟩, ⟨some 6, none, .ld 1 false (.t 5), []⟩, ⟨some 7, none, .fa 0 (.t 3), []⟩, ⟨some 8, none, .ld 1 false (.t 7), []⟩, ⟨some 9, none, .bs .eql (.t 6) (.t 8), []⟩, ⟨some 10, none, .mv (.t 9), []⟩, ⟨some 11, (some (10, true)), .fa 1 (.t 2), []⟩, ⟨some 12, (some (10, true)), .ld 5 true (.t 11), []⟩, ⟨some 13, (some (10, true)), .fa 1 (.t 3), []⟩, ⟨some 14, (some (10, true)), .ld 5 true (.t 13), []⟩, ⟨some 15, (some (10, true)), .call 59 [(.t 12), (.t 14)], []⟩, ⟨some 16, none, .pick (.t 10) (.t 15) (.k (.bool false)), []⟩, ⟨some 4, none, .mv (.t 16), []⟩])
 (.ret))⟩
theorem ck130 : chkFn Tryz.prog 130 ir130 = true := by kernel_rfl
def ir131 : AFn := ⟨51, 2, [.t 4], .seq (.reg [] [⟨some 3, none, .boxv (.t 1), []⟩, ⟨some 4, none, .mv (.k (.sl .nil 1 [])), []⟩])
 (.seq (.seq (.reg [] [⟨some 9, none, .fa 0 (.t 3), []⟩, ⟨some 10, none, .ld 1 false (.t 9), []⟩])
 (.block 0 (.seq (.reg [] [⟨some 12, none, .bi .eql .i64 (.t 10) (.k (.int .i64 8)), []⟩, ⟨some 11, none, .mv (.t 12), []⟩])
 (.cond (.t 11) (.seq (.reg [] [⟨some 13, none, .mv (.t 0), []⟩, ⟨some 14, none, .fa 2 (.t 3), []⟩, ⟨some 15, none, .ld 1 false (.t 14), []⟩, ⟨some 16, none, .call 229 [(.t 13), (.t 15)], []⟩, ⟨some 17, none, .not (.t 16), []⟩])
 (.cond (.t 17) (.reg [] [⟨some 18, none, .mv (.t 0), []⟩, ⟨some 19, none, .fa 2 (.t 3), []⟩, ⟨some 20, none, .ld 1 false (.t 19), []⟩, ⟨some 21, none, .bls 1 1 [.str []] [(0, (.t 20))], []⟩, ⟨some 22, none, .app 1 16 (.t 18) (.t 21), []⟩, ⟨some 0, none, .mv (.t 22), []⟩]) (.skip))) (.seq (.reg [] [⟨some 24, none, .bi .eql .i64 (.t 10) (.k (.int .i64 6)), []⟩, ⟨some 23, none, .mv (.t 24), []⟩])
 (.cond (.t 23) (.seq (.reg [] [⟨some 25, none, .fa 3 (.t 3), []⟩, ⟨some 26, none, .ld 1 false (.t 25), []⟩, ⟨some 27, none, .len (.t 26), []⟩, ⟨some 28, none, .mv (.k (.int .i64 0)), []⟩])
 (.block 1 (.loop [0, 26, 27, 28] (.seq (.reg [] [⟨some 29, none, .bi .lss .i64 (.t 28) (.t 27), []⟩])
 (.seq (.cond (.t 29) (.skip) (.exit 1))
 (.seq (.block 2 (.seq (.reg [] [⟨some 30, none, .ia 5 (.t 26) (.t 28), []⟩, ⟨some 31, none, .ld 5 true (.t 30), []⟩, ⟨some 6, none, .alloc [.int .i64 0, .int .i64 0, .str [], .sl .nil 5 [], .sl .nil 6 []], []⟩, ⟨none, none, .st 5 (.t 6) (.t 31), []⟩])
 (.reg [] [⟨some 32, none, .mv (.t 0), []⟩, ⟨some 33, none, .ld 5 true (.t 6), []⟩, ⟨some 34, none, .call 131 [(.t 32), (.t 33)], []⟩, ⟨some 0, none, .mv (.t 34), []⟩])))
 (.reg [] [⟨some 35, none, .bi .add .i64 (.t 28) (.k (.int .i64 1)), []⟩, ⟨some 28, none, .mv (.t 35), []⟩]))))))) (.seq (.reg [] [⟨some 37, none, .bi .eql .i64 (.t 10) (.k (.int .i64 7)), []⟩, ⟨some 36, none, .mv (.t 37), []⟩])
 (.cond (.t 36) (.seq (.reg [] [⟨some 38, none, .fa 4 (.t 3), []⟩, ⟨some 39, none, .ld 1 false (.t 38), []⟩, ⟨some 40, none, .len (.t 39), []⟩, ⟨some 41, none, .mv (.k (.int .i64 0)), []⟩])
 (.block 3 (.loop [0, 39, 40, 41] (.seq (.reg [] [⟨some 42, none, .bi .lss .i64 (.t 41) (.t 40), []⟩])
 (.seq (.cond (.t 42) (.skip) (.exit 3))
 (.seq (.block 4 (.seq (.reg [] [⟨some 43, none, .ia 6 (.t 39) (.t 41), []⟩, ⟨some 44, none, .ld 6 true (.t 43), []⟩, ⟨some 8, none, .alloc [.str [], .int .i64 0, .int .i64 0, .str [], .sl .nil 5 [], .sl .nil 6 []], []⟩, ⟨none, none, .st 6 (.t 8) (.t 44), []⟩])
 (.reg [] [⟨some 45, none, .mv (.t 0), []⟩, ⟨some 46, none, .fa 1 (.t 8), []⟩, ⟨some 47, none, .ld 5 true (.t 46), []⟩, ⟨some 48, none, .call 131 [(.t 45), (.t 47)], []⟩, ⟨some 0, none, .mv (.t 48), []⟩])))
 (.reg [] [⟨some 49, none, .bi .add .i64 (.t 41) (.k (.int .i64 1)), []⟩, ⟨some 41, none, .mv (.t 49), []⟩]))))))) (.skip)))))))))
 (.seq (.reg [] [⟨some 50, none, .mv (.t 0), []⟩, ⟨some 4, none, .mv (.t 50), []⟩])
 (.ret)))⟩
theorem ck131 : chkFn Tryz.prog 131 ir131 = true := by kernel_rfl
def ir139 : AFn := ⟨19, 2, [], .seq (.reg [] [⟨some 4, none, .mv (.t 0), []⟩, ⟨some 5, none, .mv (.t 1), []⟩, ⟨some 6, none, .call 203 [(.t 5)], []⟩, ⟨some 7, none, .call 70 [(.t 4), (.t 6)], []⟩])
 (.reg [] [⟨some 8, none, .mv (.t 0), []⟩, ⟨some 9, none, .mv (.t 0), []⟩, ⟨some 10, none, .nilchk (.t 9), []⟩, ⟨some 11, none, .fa 0 (.t 10), []⟩, ⟨some 12, none, .ld 1 false (.t 11), []⟩, ⟨some 13, none, .mv (.t 1), []⟩, ⟨some 14, none, .bld [.int .i64 0, .str []] [(0, 1, (.k (.int .i64 2))), (1, 1, (.t 13))], []⟩, ⟨some 15, none, .bls 2 1 [.int .i64 0, .str []] [(0, (.t 14))], []⟩, ⟨some 16, none, .app 2 24 (.t 12) (.t 15), []⟩, ⟨some 17, none, .nilchk (.t 8), []⟩, ⟨some 18, none, .fa 0 (.t 17), []⟩, ⟨none, none, .st 1 (.t 18) (.t 16), []⟩])⟩
theorem ck139 : chkFn Tryz.prog 139 ir139 = true := by kernel_rfl
def ir140 : AFn := ⟨24, 2, [], .seq (.reg [] [⟨some 6, none, .mv (.t 1), []⟩, ⟨some 7, none, .len (.t 6), []⟩, ⟨some 8, none, .mv (.k (.int .i64 0)), []⟩])
 (.block 0 (.loop [0, 6, 7, 8] (.seq (.reg [] [⟨some 9, none, .bi .lss .i64 (.t 8) (.t 7), []⟩])
 (.seq (.cond (.t 9) (.skip) (.exit 0))
 (.seq (.block 1 (.seq (.reg [] [⟨some 10, none, .ia 1 (.t 6) (.t 8), []⟩, ⟨some 11, none, .ld 1 false (.t 10), []⟩, ⟨some 5, none, .mv (.t 11), []⟩])
 (.reg [] [⟨some 12, none, .mv (.t 0), []⟩, ⟨some 13, none, .mv (.t 0), []⟩, ⟨some 14, none, .nilchk (.t 13), []⟩, ⟨some 15, none, .fa 0 (.t 14), []⟩, ⟨some 16, none, .ld 1 false (.t 15), []⟩, ⟨some 17, none, .mv (.t 5), []⟩, ⟨some 18, none, .bld [.int .i64 0, .str []] [(0, 1, (.k (.int .i64 1))), (1, 1, (.t 17))], []⟩, ⟨some 19, none, .bls 2 1 [.int .i64 0, .str []] [(0, (.t 18))], []⟩, ⟨some 20, none, .app 2 24 (.t 16) (.t 19), []⟩, ⟨some 21, none, .nilchk (.t 12), []⟩, ⟨some 22, none, .fa 0 (.t 21), []⟩, ⟨none, none, .st 1 (.t 22) (.t 20), []⟩])))
 (.reg [] [⟨some 23, none, .bi .add .i64 (.t 8) (.k (.int .i64 1)), []⟩, ⟨some 8, none, .mv (.t 23), []⟩]))))))⟩
theorem ck140 : chkFn Tryz.prog 140 ir140 = true := by kernel_rfl
def ir141 : AFn := ⟨48, 2, [], .seq (.reg [] [⟨some 3, none, .boxv (.t 1), []⟩])
 (.seq (.reg [] [⟨some 5, none, .mv (.t 0), []⟩, ⟨some 6, none, .ld 3 true (.t 3), []⟩, ⟨some 7, none, .call 125 [(.t 6)], []⟩, ⟨some 8, none, .call 70 [(.t 5), (.t 7)], []⟩])
 (.seq (.seq (.reg [] [⟨some 9, none, .mv (.t 0), []⟩, ⟨some 10, none, .nilchk (.t 9), []⟩, ⟨some 11, none, .fa 1 (.t 10), []⟩, ⟨some 12, none, .ld 1 false (.t 11), []⟩, ⟨some 13, none, .not (.t 12), []⟩])
 (.cond (.t 13) (.ret) (.skip)))
 (.seq (.seq (.reg [] [⟨some 14, none, .fa 1 (.t 3), []⟩, ⟨some 15, none, .ld 1 false (.t 14), []⟩, ⟨some 16, none, .mv (.k (.int .i64 0)), []⟩])
 (.block 0 (.loop [0, 3, 15, 16] (.seq (.reg [] [⟨some 17, none, .bi .lss .i64 (.t 16) (.t 15), []⟩])
 (.seq (.cond (.t 17) (.skip) (.exit 0))
 (.seq (.block 1 (.reg [] [⟨some 18, none, .mv (.t 0), []⟩, ⟨some 19, none, .bls 1 1 [.str []] [(0, (.k (.str [91])))], []⟩, ⟨some 20, none, .call 140 [(.t 18), (.t 19)], []⟩]))
 (.reg [] [⟨some 21, none, .bi .add .i64 (.t 16) (.k (.int .i64 1)), []⟩, ⟨some 16, none, .mv (.t 21), []⟩])))))))
 (.seq (.reg [] [⟨some 22, none, .mv (.t 0), []⟩, ⟨some 23, none, .fa 0 (.t 3), []⟩, ⟨some 24, none, .ld 1 false (.t 23), []⟩, ⟨some 25, none, .call 139 [(.t 22), (.t 24)], []⟩])
 (.seq (.reg [] [⟨some 26, none, .fa 1 (.t 3), []⟩, ⟨some 27, none, .ld 1 false (.t 26), []⟩, ⟨some 4, none, .mv (.t 27), []⟩])
 (.block 2 (.loop [0, 3, 4] (.seq (.seq (.reg [] [⟨some 28, none, .mv (.t 4), []⟩, ⟨some 29, none, .bi .geq .i64 (.t 28) (.k (.int .i64 0)), []⟩])
 (.cond (.t 29) (.skip) (.exit 2)))
 (.seq (.block 3 (.seq (.seq (.reg [] [⟨some 32, none, .mv (.t 4), []⟩, ⟨some 33, none, .fa 1 (.t 3), []⟩, ⟨some 34, none, .ld 1 false (.t 33), []⟩, ⟨some 35, none, .bi .lss .i64 (.t 32) (.t 34), []⟩])
 (.cond (.t 35) (.reg [] [⟨some 36, none, .mv (.t 0), []⟩, ⟨some 37, none, .bls 1 1 [.str []] [(0, (.k (.str [93])))], []⟩, ⟨some 38, none, .call 140 [(.t 36), (.t 37)], []⟩]) (.skip)))
 (.seq (.reg [] [⟨some 39, none, .fa 2 (.t 3), []⟩, ⟨some 40, none, .ld 1 false (.t 39), []⟩, ⟨some 41, none, .mv (.t 4), []⟩, ⟨some 42, none, .shf .shr (.t 40) (.t 41), []⟩, ⟨some 43, none, .bi .and .i64 (.t 42) (.k (.int .i64 1)), []⟩, ⟨some 44, none, .bi .eql .i64 (.t 43) (.k (.int .i64 1)), []⟩])
 (.cond (.t 44) (.reg [] [⟨some 45, none, .mv (.t 0), []⟩, ⟨some 46, none, .bls 1 1 [.str []] [(0, (.k (.str [33])))], []⟩, ⟨some 47, none, .call 140 [(.t 45), (.t 46)], []⟩]) (.skip)))))
 (.reg [] [⟨some 30, none, .mv (.t 4), []⟩, ⟨some 31, none, .bi .sub .i64 (.t 30) (.k (.int .i64 1)), []⟩, ⟨some 4, none, .mv (.t 31), []⟩]))))))))))⟩
theorem ck141 : chkFn Tryz.prog 141 ir141 = true := by kernel_rfl
def ir142 : AFn := ⟨19, 3, [], .seq (.reg [] [⟨some 5, none, .boxv (.t 2), []⟩])
 (.seq (.seq (.reg [] [⟨some 6, none, .mv (.t 1), []⟩, ⟨some 7, none, .not (.t 6), []⟩])
 (.cond (.t 7) (.seq (.reg [] [⟨some 8, none, .mv (.t 0), []⟩, ⟨some 9, none, .ld 5 true (.t 5), []⟩, ⟨some 10, none, .bld [.int .i64 0, .int .i64 0, .str [], .sl .nil 5 [], .sl .nil 6 []] [], []⟩, ⟨some 11, none, .call 59 [(.t 9), (.t 10)], []⟩, ⟨some 12, none, .call 70 [(.t 8), (.t 11)], []⟩])
 (.ret)) (.skip)))
 (.seq (.reg [] [⟨some 13, none, .mv (.t 0), []⟩, ⟨some 14, none, .bls 1 1 [.str []] [(0, (.k (.str [61])))], []⟩, ⟨some 15, none, .call 140 [(.t 13), (.t 14)], []⟩])
 (.reg [] [⟨some 16, none, .mv (.t 0), []⟩, ⟨some 17, none, .ld 5 true (.t 5), []⟩, ⟨some 18, none, .call 237 [(.t 16), (.t 17), (.k (.bool true))], []⟩])))⟩
theorem ck142 : chkFn Tryz.prog 142 ir142 = true := by kernel_rfl
def ir143 : AFn := ⟨27, 3, [], .seq (.reg [] [⟨some 8, none, .mv (.t 2), []⟩, ⟨some 9, none, .len (.t 8), []⟩, ⟨some 10, none, .mv (.k (.int .i64 0)), []⟩])
 (.block 0 (.loop [0, 1, 8, 9, 10] (.seq (.reg [] [⟨some 11, none, .bi .lss .i64 (.t 10) (.t 9), []⟩])
 (.seq (.cond (.t 11) (.skip) (.exit 0))
 (.seq (.block 1 (.seq (.reg [] [⟨some 12, none, .ia 2 (.t 8) (.t 10), []⟩, ⟨some 13, none, .ld 2 true (.t 12), []⟩, ⟨some 7, none, .alloc [.str [], .sl .nil 6 []], []⟩, ⟨none, none, .st 2 (.t 7) (.t 13), []⟩])
 (.seq (.reg [] [⟨some 14, none, .mv (.t 0), []⟩, ⟨some 15, none, .bls 1 1 [.str []] [(0, (.k (.str [64])))], []⟩, ⟨some 16, none, .call 140 [(.t 14), (.t 15)], []⟩])
 (.seq (.reg [] [⟨some 17, none, .mv (.t 0), []⟩, ⟨some 18, none, .fa 0 (.t 7), []⟩, ⟨some 19, none, .ld 1 false (.t 18), []⟩, ⟨some 20, none, .call 139 [(.t 17), (.t 19)], []⟩])
 (.reg [] [⟨some 21, none, .mv (.t 0), []⟩, ⟨some 22, none, .mv (.t 1), []⟩, ⟨some 23, none, .fa 1 (.t 7), []⟩, ⟨some 24, none, .ld 1 false (.t 23), []⟩, ⟨some 25, none, .call 157 [(.t 21), (.t 22), (.t 24)], []⟩])))))
 (.reg [] [⟨some 26, none, .bi .add .i64 (.t 10) (.k (.int .i64 1)), []⟩, ⟨some 10, none, .mv (.t 26), []⟩]))))))⟩
theorem ck143 : chkFn Tryz.prog 143 ir143 = true := by kernel_rfl
def ir144 : AFn := ⟨27, 2, [], .seq (.reg [] [⟨some 4, none, .mv (.t 0), []⟩, ⟨some 5, none, .bls 1 1 [.str []] [(0, (.k (.str [123])))], []⟩, ⟨some 6, none, .call 140 [(.t 4), (.t 5)], []⟩])
 (.seq (.reg [] [⟨some 7, none, .mv (.t 0), []⟩, ⟨some 8, none, .nilchk (.t 7), []⟩, ⟨some 9, none, .fa 2 (.t 8), []⟩, ⟨some 10, none, .ld 1 false (.t 9), []⟩, ⟨some 11, none, .bi .add .i64 (.t 10) (.k (.int .i64 1)), []⟩, ⟨some 12, none, .nilchk (.t 7), []⟩, ⟨some 13, none, .fa 2 (.t 12), []⟩, ⟨none, none, .st 1 (.t 13) (.t 11), []⟩])
 (.seq (.reg [] [⟨some 14, none, .mv (.t 0), []⟩, ⟨some 15, none, .mv (.t 1), []⟩, ⟨some 16, none, .call 87 [(.t 14), (.t 15)], []⟩])
 (.seq (.reg [] [⟨some 17, none, .mv (.t 0), []⟩, ⟨some 18, none, .nilchk (.t 17), []⟩, ⟨some 19, none, .fa 2 (.t 18), []⟩, ⟨some 20, none, .ld 1 false (.t 19), []⟩, ⟨some 21, none, .bi .sub .i64 (.t 20) (.k (.int .i64 1)), []⟩, ⟨some 22, none, .nilchk (.t 17), []⟩, ⟨some 23, none, .fa 2 (.t 22), []⟩, ⟨none, none, .st 1 (.t 23) (.t 21), []⟩])
 (.reg [] [⟨some 24, none, .mv (.t 0), []⟩, ⟨some 25, none, .bls 1 1 [.str []] [(0, (.k (.str [125])))], []⟩, ⟨some 26, none, .call 140 [(.t 24), (.t 25)], []⟩]))))⟩
theorem ck144 : chkFn Tryz.prog 144 ir144 = true := by kernel_rfl
def ir155 : AFn := ⟨42, 2, [], .seq (.reg [] [⟨some 3, none, .boxv (.t 1), []⟩])
 (.seq (.reg [] [⟨some 4, none, .mv (.t 0), []⟩, ⟨some 5, none, .fa 1 (.t 3), []⟩, ⟨some 6, none, .ld 1 false (.t 5), []⟩, ⟨some 7, none, .bs .eql (.t 6) (.k (.str [])), []⟩, ⟨some 8, none, .mv (.t 7), []⟩, ⟨some 9, (some (8, true)), .fa 3 (.t 3), []⟩, ⟨some 10, (some (8, true)), .ld 1 false (.t 9), []⟩, ⟨some 11, (some (8, true)), .len (.t 10), []⟩, ⟨some 12, (some (8, true)), .bi .eql .i64 (.t 11) (.k (.int .i64 0)), []⟩, ⟨some 13, none, .pick (.t 8) (.t 12) (.k (.bool false)), []⟩, ⟨some 14, none, .mv (.t 13), []⟩, ⟨some 15, (some (14, true)), .fa 5 (.t 3), []⟩, ⟨some 16, (some (14, true)), .ld 1 false (.t 15), []⟩, ⟨some 17, (some (14, true)), .bs .eql (.t 16) (.k (.str [])), []⟩, ⟨some 18, none, .pick (.t 14) (.t 17) (.k (.bool false)), []⟩, ⟨some 19, none, .mv (.t 18), []⟩, ⟨some 20, (some (19, true)), .fa 6 (.t 3), []⟩, ⟨some 21, (some (19, true)), .ld 1 false (.t 20), []⟩, ⟨some 22, (some (19, true)), .len (.t 21), []⟩, ⟨some 23, (some (19, true)), .bi .eql .i64 (.t 22) (.k (.int .i64 0)), []⟩, ⟨some 24, none, .pick (.t 19) (.t 23) (.k (.bool false)), []⟩, ⟨some 25, none, .mv (.t 24), []⟩, ⟨some 26, (some (25, true)), .fa 2 (.t 3), []⟩, ⟨some 27, (some (25, true)), .ld 1 false (.t 26), []⟩, ⟨some 28, (some (25, true)), .bs .neq (.t 27) (.k (.str [111, 110])), []⟩, ⟨some 29, none, .pick (.t 25) (.t 28) (.k (.bool false)), []⟩, ⟨some 30, none, .call 70 [(.t 4), (.t 29)], []⟩])
 (.seq (.reg [] [⟨some 31, none, .mv (.t 0), []⟩, ⟨some 32, none, .bls 1 1 [.str []] [(0, (.k (.str [46, 46, 46])))], []⟩, ⟨some 33, none, .call 140 [(.t 31), (.t 32)], []⟩])
 (.seq (.reg [] [⟨some 34, none, .mv (.t 0), []⟩, ⟨some 35, none, .fa 2 (.t 3), []⟩, ⟨some 36, none, .ld 1 false (.t 35), []⟩, ⟨some 37, none, .call 139 [(.t 34), (.t 36)], []⟩])
 (.reg [] [⟨some 38, none, .mv (.t 0), []⟩, ⟨some 39, none, .fa 4 (.t 3), []⟩, ⟨some 40, none, .ld 1 false (.t 39), []⟩, ⟨some 41, none, .call 143 [(.t 38), (.k (.bool false)), (.t 40)], []⟩]))))⟩
theorem ck155 : chkFn Tryz.prog 155 ir155 = true := by kernel_rfl
def ir156 : AFn := ⟨40, 2, [], .seq (.reg [] [⟨some 3, none, .boxv (.t 1), []⟩])
 (.seq (.reg [] [⟨some 4, none, .mv (.t 0), []⟩, ⟨some 5, none, .fa 1 (.t 3), []⟩, ⟨some 6, none, .ld 1 false (.t 5), []⟩, ⟨some 7, none, .bs .eql (.t 6) (.k (.str [])), []⟩, ⟨some 8, none, .mv (.t 7), []⟩, ⟨some 9, (some (8, true)), .fa 2 (.t 3), []⟩, ⟨some 10, (some (8, true)), .ld 1 false (.t 9), []⟩, ⟨some 11, (some (8, true)), .bs .eql (.t 10) (.k (.str [])), []⟩, ⟨some 12, none, .pick (.t 8) (.t 11) (.k (.bool false)), []⟩, ⟨some 13, none, .mv (.t 12), []⟩, ⟨some 14, (some (13, true)), .fa 3 (.t 3), []⟩, ⟨some 15, (some (13, true)), .ld 1 false (.t 14), []⟩, ⟨some 16, (some (13, true)), .len (.t 15), []⟩, ⟨some 17, (some (13, true)), .bi .eql .i64 (.t 16) (.k (.int .i64 0)), []⟩, ⟨some 18, none, .pick (.t 13) (.t 17) (.k (.bool false)), []⟩, ⟨some 19, none, .call 70 [(.t 4), (.t 18)], []⟩])
 (.seq (.reg [] [⟨some 20, none, .mv (.t 0), []⟩, ⟨some 21, none, .bls 1 1 [.str []] [(0, (.k (.str [46, 46, 46])))], []⟩, ⟨some 22, none, .call 140 [(.t 20), (.t 21)], []⟩])
 (.seq (.seq (.reg [] [⟨some 23, none, .fa 5 (.t 3), []⟩, ⟨some 24, none, .ld 1 false (.t 23), []⟩, ⟨some 25, none, .bs .neq (.t 24) (.k (.str [])), []⟩])
 (.cond (.t 25) (.seq (.reg [] [⟨some 26, none, .mv (.t 0), []⟩, ⟨some 27, none, .call 139 [(.t 26), (.k (.str [111, 110]))], []⟩])
 (.reg [] [⟨some 28, none, .mv (.t 0), []⟩, ⟨some 29, none, .fa 5 (.t 3), []⟩, ⟨some 30, none, .ld 1 false (.t 29), []⟩, ⟨some 31, none, .call 139 [(.t 28), (.t 30)], []⟩])) (.skip)))
 (.seq (.reg [] [⟨some 32, none, .mv (.t 0), []⟩, ⟨some 33, none, .fa 4 (.t 3), []⟩, ⟨some 34, none, .ld 1 false (.t 33), []⟩, ⟨some 35, none, .call 143 [(.t 32), (.k (.bool false)), (.t 34)], []⟩])
 (.reg [] [⟨some 36, none, .mv (.t 0), []⟩, ⟨some 37, none, .fa 6 (.t 3), []⟩, ⟨some 38, none, .ld 1 false (.t 37), []⟩, ⟨some 39, none, .call 144 [(.t 36), (.t 38)], []⟩])))))⟩
theorem ck156 : chkFn Tryz.prog 156 ir156 = true := by kernel_rfl
def ir157 : AFn := ⟨36, 3, [], .seq (.seq (.reg [] [⟨some 8, none, .mv (.t 2), []⟩, ⟨some 9, none, .len (.t 8), []⟩, ⟨some 10, none, .bi .eql .i64 (.t 9) (.k (.int .i64 0)), []⟩])
 (.cond (.t 10) (.ret) (.skip)))
 (.seq (.reg [] [⟨some 11, none, .mv (.t 0), []⟩, ⟨some 12, none, .bls 1 1 [.str []] [(0, (.k (.str [40])))], []⟩, ⟨some 13, none, .call 140 [(.t 11), (.t 12)], []⟩])
 (.seq (.seq (.reg [] [⟨some 14, none, .mv (.t 2), []⟩, ⟨some 15, none, .len (.t 14), []⟩, ⟨some 16, none, .mv (.k (.int .i64 0)), []⟩])
 (.block 0 (.loop [0, 1, 14, 15, 16] (.seq (.reg [] [⟨some 17, none, .bi .lss .i64 (.t 16) (.t 15), []⟩])
 (.seq (.cond (.t 17) (.skip) (.exit 0))
 (.seq (.block 1 (.seq (.reg [] [⟨some 18, none, .ia 6 (.t 14) (.t 16), []⟩, ⟨some 19, none, .ld 6 true (.t 18), []⟩, ⟨some 7, none, .alloc [.str [], .int .i64 0, .int .i64 0, .str [], .sl .nil 5 [], .sl .nil 6 []], []⟩, ⟨none, none, .st 6 (.t 7) (.t 19), []⟩])
 (.seq (.reg [] [⟨some 20, none, .mv (.t 0), []⟩, ⟨some 21, none, .fa 0 (.t 7), []⟩, ⟨some 22, none, .ld 1 false (.t 21), []⟩, ⟨some 23, none, .call 139 [(.t 20), (.t 22)], []⟩])
 (.seq (.reg [] [⟨some 24, none, .mv (.t 0), []⟩, ⟨some 25, none, .bls 1 1 [.str []] [(0, (.k (.str [58])))], []⟩, ⟨some 26, none, .call 140 [(.t 24), (.t 25)], []⟩])
 (.reg [] [⟨some 27, none, .mv (.t 0), []⟩, ⟨some 28, none, .fa 1 (.t 7), []⟩, ⟨some 29, none, .ld 5 true (.t 28), []⟩, ⟨some 30, none, .mv (.t 1), []⟩, ⟨some 31, none, .call 237 [(.t 27), (.t 29), (.t 30)], []⟩])))))
 (.reg [] [⟨some 32, none, .bi .add .i64 (.t 16) (.k (.int .i64 1)), []⟩, ⟨some 16, none, .mv (.t 32), []⟩])))))))
 (.reg [] [⟨some 33, none, .mv (.t 0), []⟩, ⟨some 34, none, .bls 1 1 [.str []] [(0, (.k (.str [41])))], []⟩, ⟨some 35, none, .call 140 [(.t 33), (.t 34)], []⟩])))⟩
theorem ck157 : chkFn Tryz.prog 157 ir157 = true := by kernel_rfl
def ir176 : AFn := ⟨19, 1, [.t 2, .t 3], .seq (.reg [] [⟨some 2, none, .mv (.k (.int .i64 0)), []⟩, ⟨some 3, none, .mv (.k (.bool false)), []⟩])
 (.seq (.reg [] [⟨some 7, none, .mv (.t 0), []⟩, ⟨some 8, none, .call 260 [(.t 7), (.k (.int .i64 10)), (.k (.int .i64 64))], []⟩, ⟨some 6, none, .mv (.t 8), []⟩, ⟨some 9, none, .ext (.t 6) 0, []⟩, ⟨some 10, none, .ext (.t 6) 1, []⟩, ⟨some 4, none, .mv (.t 9), []⟩, ⟨some 5, none, .mv (.t 10), []⟩])
 (.seq (.reg [] [⟨some 11, none, .mv (.t 4), []⟩, ⟨some 12, none, .mv (.t 5), []⟩, ⟨some 13, none, .ifnil false (.t 12), []⟩, ⟨some 14, none, .mv (.t 13), []⟩, ⟨some 15, (some (14, true)), .mv (.t 0), []⟩, ⟨some 16, (some (14, true)), .call 207 [(.t 15)], []⟩, ⟨some 17, (some (14, true)), .bi .eql .i64 (.t 16) (.k (.int .i64 3)), []⟩, ⟨some 18, none, .pick (.t 14) (.t 17) (.k (.bool false)), []⟩, ⟨some 2, none, .mv (.t 11), []⟩, ⟨some 3, none, .mv (.t 18), []⟩])
 (.ret)))⟩
theorem ck176 : chkFn Tryz.prog 176 ir176 = true := by kernel_rfl
def ir201 : AFn := ⟨60, 2, [.t 4], .seq (.reg [] [⟨some 2, none, .boxv (.t 0), []⟩, ⟨some 4, none, .mv (.k (.bool false)), []⟩])
 (.scope (.seq (.reg [] [⟨some 11, none, .ld 5 true (.t 2), []⟩, ⟨some 5, none, .alloc [.int .i64 0, .int .i64 0, .str [], .sl .nil 5 [], .sl .nil 6 []], []⟩, ⟨none, none, .st 5 (.t 5) (.t 11), []⟩])
 (.seq (.reg [] [⟨some 6, none, .mv (.k (.bool true)), []⟩])
 (.seq (.skip)
 (.seq (.seq (.reg [] [⟨some 12, none, .fa 0 (.t 2), []⟩, ⟨some 13, none, .ld 1 false (.t 12), []⟩])
 (.block 0 (.seq (.reg [] [⟨some 17, none, .bi .eql .i64 (.t 13) (.k (.int .i64 6)), []⟩, ⟨some 16, none, .mv (.t 17), []⟩])
 (.cond (.t 16) (.seq (.reg [] [⟨some 18, none, .fa 3 (.t 5), []⟩, ⟨none, none, .st 1 (.t 18) (.k (.sl .nil 5 [])), []⟩])
 (.seq (.reg [] [⟨some 19, none, .fa 3 (.t 2), []⟩, ⟨some 20, none, .ld 1 false (.t 19), []⟩, ⟨some 21, none, .len (.t 20), []⟩, ⟨some 22, none, .mv (.k (.int .i64 0)), []⟩])
 (.block 1 (.loop [1, 5, 6, 20, 21, 22] (.seq (.reg [] [⟨some 23, none, .bi .lss .i64 (.t 22) (.t 21), []⟩])
 (.seq (.cond (.t 23) (.skip) (.exit 1))
 (.seq (.block 2 (.seq (.reg [] [⟨some 24, none, .ia 5 (.t 20) (.t 22), []⟩, ⟨some 25, none, .ld 5 true (.t 24), []⟩, ⟨some 8, none, .alloc [.int .i64 0, .int .i64 0, .str [], .sl .nil 5 [], .sl .nil 6 []], []⟩, ⟨none, none, .st 5 (.t 8) (.t 25), []⟩])
 (.seq (.reg [] [⟨some 26, none, .ld 5 true (.t 8), []⟩, ⟨some 27, none, .mv (.t 1), []⟩, ⟨some 28, none, .call 201 [(.t 26), (.t 27)], []⟩, ⟨some 6, none, .mv (.t 28), []⟩])
 (.seq (.reg [] [⟨some 29, none, .mv (.t 6), []⟩, ⟨some 30, none, .not (.t 29), []⟩])
 (.cond (.t 30) (.exit 0) (.skip))))))
 (.reg [] [⟨some 31, none, .bi .add .i64 (.t 22) (.k (.int .i64 1)), []⟩, ⟨some 22, none, .mv (.t 31), []⟩])))))))) (.seq (.reg [] [⟨some 33, none, .bi .eql .i64 (.t 13) (.k (.int .i64 7)), []⟩, ⟨some 32, none, .mv (.t 33), []⟩])
 (.cond (.t 32) (.seq (.reg [] [⟨some 34, none, .fa 4 (.t 5), []⟩, ⟨none, none, .st 1 (.t 34) (.k (.sl .nil 6 [])), []⟩])
 (.seq (.reg [] [⟨some 35, none, .fa 4 (.t 2), []⟩, ⟨some 36, none, .ld 1 false (.t 35), []⟩, ⟨some 37, none, .len (.t 36), []⟩, ⟨some 38, none, .mv (.k (.int .i64 0)), []⟩])
 (.block 3 (.loop [1, 5, 6, 36, 37, 38] (.seq (.reg [] [⟨some 39, none, .bi .lss .i64 (.t 38) (.t 37), []⟩])
 (.seq (.cond (.t 39) (.skip) (.exit 3))
 (.seq (.block 4 (.seq (.reg [] [⟨some 40, none, .ia 6 (.t 36) (.t 38), []⟩, ⟨some 41, none, .ld 6 true (.t 40), []⟩, ⟨some 10, none, .alloc [.str [], .int .i64 0, .int .i64 0, .str [], .sl .nil 5 [], .sl .nil 6 []], []⟩, ⟨none, none, .st 6 (.t 10) (.t 41), []⟩])
 (.seq (.reg [] [⟨some 42, none, .mv (.t 1), []⟩, ⟨some 43, none, .fa 0 (.t 10), []⟩, ⟨some 44, none, .ld 1 false (.t 43), []⟩, ⟨some 45, none, .callv (.t 42) [(.t 44)], []⟩, ⟨some 46, none, .mv (.t 45), []⟩, ⟨some 47, (some (46, true)), .fa 1 (.t 10), []⟩, ⟨some 48, (some (46, true)), .ld 5 true (.t 47), []⟩, ⟨some 49, (some (46, true)), .mv (.t 1), []⟩, ⟨some 50, (some (46, true)), .call 201 [(.t 48), (.t 49)], []⟩, ⟨some 51, none, .pick (.t 46) (.t 50) (.k (.bool false)), []⟩, ⟨some 6, none, .mv (.t 51), []⟩])
 (.seq (.reg [] [⟨some 52, none, .mv (.t 6), []⟩, ⟨some 53, none, .not (.t 52), []⟩])
 (.cond (.t 53) (.exit 0) (.skip))))))
 (.reg [] [⟨some 54, none, .bi .add .i64 (.t 38) (.k (.int .i64 1)), []⟩, ⟨some 38, none, .mv (.t 54), []⟩])))))))) (.seq (.reg [] [⟨some 14, none, .ld 5 true (.t 2), []⟩, ⟨some 15, none, .call 266 [(.t 14)], []⟩, ⟨some 4, none, .mv (.t 15), []⟩])
 (.ret))))))))
 (.seq (.reg [] [⟨some 55, none, .mv (.t 6), []⟩, ⟨some 56, none, .mv (.t 55), []⟩, ⟨some 57, (some (56, true)), .ld 5 true (.t 5), []⟩, ⟨some 58, (some (56, true)), .call 267 [(.t 57)], []⟩, ⟨some 59, none, .pick (.t 56) (.t 58) (.k (.bool false)), []⟩, ⟨some 4, none, .mv (.t 59), []⟩])
 (.ret)))))))⟩
theorem ck201 : chkFn Tryz.prog 201 ir201 = true := by kernel_rfl
def ir202 : AFn := ⟨5, 1, [.t 2], .seq (.reg [] [⟨some 2, none, .mv (.k (.bool false)), []⟩])
 (.seq (.reg [] [⟨some 3, none, .mv (.t 0), []⟩, ⟨some 4, none, .call 268 [(.t 3)], []⟩, ⟨some 2, none, .mv (.t 4), []⟩])
 (.ret))⟩
theorem ck202 : chkFn Tryz.prog 202 ir202 = true := by kernel_rfl
def ir203 : AFn := ⟨28, 1, [.t 2], .seq (.reg [] [⟨some 2, none, .mv (.k (.bool false)), []⟩])
 (.seq (.seq (.reg [] [⟨some 4, none, .mv (.t 0), []⟩, ⟨some 5, none, .lens (.t 4), []⟩, ⟨some 6, none, .mv (.k (.int .i64 0)), []⟩])
 (.block 0 (.loop [0, 5, 6] (.seq (.reg [] [⟨some 7, none, .bi .lss .i64 (.t 6) (.t 5), []⟩])
 (.seq (.cond (.t 7) (.skip) (.exit 0))
 (.seq (.block 1 (.seq (.reg [] [⟨some 8, none, .mv (.t 6), []⟩, ⟨some 3, none, .mv (.t 8), []⟩])
 (.seq (.reg [] [⟨some 9, none, .mv (.t 0), []⟩, ⟨some 10, none, .mv (.t 3), []⟩, ⟨some 11, none, .ixs (.t 9) (.t 10), []⟩, ⟨some 12, none, .call 223 [(.t 11)], []⟩, ⟨some 13, none, .not (.t 12), []⟩, ⟨some 14, none, .mv (.t 13), []⟩, ⟨some 15, (some (14, true)), .mv (.t 3), []⟩, ⟨some 16, (some (14, true)), .bi .eql .i64 (.t 15) (.k (.int .i64 0)), []⟩, ⟨some 17, (some (14, true)), .mv (.t 16), []⟩, ⟨some 18, (some (17, false)), .mv (.t 0), []⟩, ⟨some 19, (some (17, false)), .mv (.t 3), []⟩, ⟨some 20, (some (17, false)), .ixs (.t 18) (.t 19), []⟩, ⟨some 21, (some (17, false)), .call 226 [(.t 20)], []⟩, ⟨some 22, (some (17, false)), .not (.t 21), []⟩, ⟨some 23, (some (14, true)), .pick (.t 17) (.k (.bool true)) (.t 22), []⟩, ⟨some 24, none, .pick (.t 14) (.t 23) (.k (.bool false)), []⟩])
 (.cond (.t 24) (.seq (.reg [] [⟨some 2, none, .mv (.k (.bool false)), []⟩])
 (.ret)) (.skip)))))
 (.reg [] [⟨some 25, none, .bi .add .i64 (.t 6) (.k (.int .i64 1)), []⟩, ⟨some 6, none, .mv (.t 25), []⟩])))))))
 (.seq (.reg [] [⟨some 26, none, .mv (.t 0), []⟩, ⟨some 27, none, .bs .neq (.t 26) (.k (.str [])), []⟩, ⟨some 2, none, .mv (.t 27), []⟩])
 (.ret)))⟩
theorem ck203 : chkFn Tryz.prog 203 ir203 = true := by kernel_rfl
def ir204 : AFn := ⟨5, 1, [.c 2 2 true], .seq (.reg [] [⟨some 2, none, .alloc [.int .i64 0, .str []], []⟩])
 (.seq (.reg [] [⟨some 3, none, .mv (.t 0), []⟩, ⟨some 4, none, .bld [.int .i64 0, .str []] [(0, 1, (.k (.int .i64 2))), (1, 1, (.t 3))], []⟩, ⟨none, none, .st 2 (.t 2) (.t 4), []⟩])
 (.ret))⟩
theorem ck204 : chkFn Tryz.prog 204 ir204 = true := by kernel_rfl
def ir205 : AFn := ⟨5, 1, [.t 2], .seq (.reg [] [⟨some 2, none, .mv (.k (.str [])), []⟩])
 (.seq (.reg [] [⟨some 3, none, .mv (.t 0), []⟩, ⟨some 4, none, .call 269 [(.t 3)], []⟩, ⟨some 2, none, .mv (.t 4), []⟩])
 (.ret))⟩
theorem ck205 : chkFn Tryz.prog 205 ir205 = true := by kernel_rfl
def ir207 : AFn := ⟨15, 1, [.t 2], .seq (.reg [] [⟨some 2, none, .mv (.k (.int .i64 0)), []⟩])
 (.seq (.reg [] [⟨some 6, none, .mv (.t 0), []⟩, ⟨some 7, none, .call 225 [(.t 6)], []⟩, ⟨some 5, none, .mv (.t 7), []⟩, ⟨some 8, none, .ext (.t 5) 0, []⟩, ⟨some 9, none, .ext (.t 5) 1, []⟩, ⟨some 3, none, .mv (.t 8), []⟩, ⟨some 4, none, .mv (.t 9), []⟩])
 (.seq (.seq (.reg [] [⟨some 10, none, .mv (.t 3), []⟩, ⟨some 11, none, .mv (.t 0), []⟩, ⟨some 12, none, .lens (.t 11), []⟩, ⟨some 13, none, .bi .neq .i64 (.t 10) (.t 12), []⟩])
 (.cond (.t 13) (.seq (.reg [] [⟨some 2, none, .mv (.k (.int .i64 0)), []⟩])
 (.ret)) (.skip)))
 (.seq (.reg [] [⟨some 14, none, .mv (.t 4), []⟩, ⟨some 2, none, .mv (.t 14), []⟩])
 (.ret))))⟩
theorem ck207 : chkFn Tryz.prog 207 ir207 = true := by kernel_rfl
def ir208 : AFn := ⟨5, 1, [.c 2 2 true], .seq (.reg [] [⟨some 2, none, .alloc [.int .i64 0, .str []], []⟩])
 (.seq (.reg [] [⟨some 3, none, .mv (.t 0), []⟩, ⟨some 4, none, .bld [.int .i64 0, .str []] [(0, 1, (.k (.int .i64 1))), (1, 1, (.t 3))], []⟩, ⟨none, none, .st 2 (.t 2) (.t 4), []⟩])
 (.ret))⟩
theorem ck208 : chkFn Tryz.prog 208 ir208 = true := by kernel_rfl
def ir210 : AFn := ⟨32, 2, [.t 4, .t 5], .seq (.reg [] [⟨some 4, none, .mv (.k (.int .i64 0)), []⟩, ⟨some 5, none, .mv (.k (.int .i64 0)), []⟩])
 (.seq (.seq (.reg [] [⟨some 8, none, .mv (.t 1), []⟩, ⟨some 9, none, .bi .lss .i64 (.t 8) (.k (.int .i64 0)), []⟩, ⟨some 10, none, .mv (.t 9), []⟩, ⟨some 11, (some (10, false)), .mv (.t 1), []⟩, ⟨some 12, (some (10, false)), .mv (.t 0), []⟩, ⟨some 13, (some (10, false)), .lens (.t 12), []⟩, ⟨some 14, (some (10, false)), .bi .geq .i64 (.t 11) (.t 13), []⟩, ⟨some 15, none, .pick (.t 10) (.k (.bool true)) (.t 14), []⟩])
 (.cond (.t 15) (.seq (.reg [] [⟨some 4, none, .mv (.k (.int .i64 0)), []⟩, ⟨some 5, none, .mv (.k (.int .i64 0)), []⟩])
 (.ret)) (.skip)))
 (.seq (.reg [] [⟨some 17, none, .mv (.t 0), []⟩, ⟨some 18, none, .mv (.t 1), []⟩, ⟨some 19, none, .sls (.t 17) (some (.t 18)) none, []⟩, ⟨some 20, none, .call 272 [(.t 19)], []⟩, ⟨some 16, none, .mv (.t 20), []⟩, ⟨some 21, none, .ext (.t 16) 0, []⟩, ⟨some 22, none, .ext (.t 16) 1, []⟩, ⟨some 6, none, .mv (.t 21), []⟩, ⟨some 7, none, .mv (.t 22), []⟩])
 (.seq (.seq (.reg [] [⟨some 23, none, .mv (.t 6), []⟩, ⟨some 24, none, .bi .eql .i32 (.t 23) (.k (.int .i32 65533)), []⟩, ⟨some 25, none, .mv (.t 24), []⟩, ⟨some 26, (some (25, true)), .mv (.t 7), []⟩, ⟨some 27, (some (25, true)), .bi .lss .i64 (.t 26) (.k (.int .i64 2)), []⟩, ⟨some 28, none, .pick (.t 25) (.t 27) (.k (.bool false)), []⟩])
 (.cond (.t 28) (.seq (.reg [] [⟨some 4, none, .mv (.k (.int .i64 0)), []⟩, ⟨some 5, none, .mv (.k (.int .i64 0)), []⟩])
 (.ret)) (.skip)))
 (.seq (.reg [] [⟨some 29, none, .mv (.t 6), []⟩, ⟨some 30, none, .cvi .i64 (.t 29), []⟩, ⟨some 31, none, .mv (.t 7), []⟩, ⟨some 4, none, .mv (.t 30), []⟩, ⟨some 5, none, .mv (.t 31), []⟩])
 (.ret)))))⟩
theorem ck210 : chkFn Tryz.prog 210 ir210 = true := by kernel_rfl
def ir211 : AFn := ⟨43, 1, [.t 2, .t 3], .seq (.reg [] [⟨some 2, none, .mv (.k (.sl .nil 1 [])), []⟩, ⟨some 3, none, .mv (.k (.bool false)), []⟩])
 (.seq (.reg [] [⟨some 4, none, .mv (.k (.sl .nil 1 [])), []⟩])
 (.seq (.seq (.reg [] [⟨some 5, none, .mv (.k (.int .i64 0)), []⟩])
 (.block 0 (.loop [0, 4, 5] (.seq (.seq (.reg [] [⟨some 8, none, .mv (.t 5), []⟩, ⟨some 9, none, .mv (.t 0), []⟩, ⟨some 10, none, .lens (.t 9), []⟩, ⟨some 11, none, .bi .lss .i64 (.t 8) (.t 10), []⟩])
 (.cond (.t 11) (.skip) (.exit 0)))
 (.block 1 (.seq (.reg [] [⟨some 13, none, .mv (.t 0), []⟩, ⟨some 14, none, .mv (.t 5), []⟩, ⟨some 15, none, .call 210 [(.t 13), (.t 14)], []⟩, ⟨some 12, none, .mv (.t 15), []⟩, ⟨some 16, none, .ext (.t 12) 0, []⟩, ⟨some 17, none, .ext (.t 12) 1, []⟩, ⟨some 6, none, .mv (.t 16), []⟩, ⟨some 7, none, .mv (.t 17), []⟩])
 (.seq (.block 2 (.seq (.reg [] [⟨some 23, none, .mv (.t 7), []⟩, ⟨some 24, none, .bi .eql .i64 (.t 23) (.k (.int .i64 0)), []⟩, ⟨some 22, none, .mv (.t 24), []⟩])
 (.cond (.t 22) (.seq (.reg [] [⟨some 2, none, .mv (.k (.sl .nil 1 [])), []⟩, ⟨some 3, none, .mv (.k (.bool false)), []⟩])
 (.ret)) (.seq (.reg [] [⟨some 26, none, .mv (.t 6), []⟩, ⟨some 27, none, .bi .geq .i64 (.t 26) (.k (.int .i64 65536)), []⟩, ⟨some 25, none, .mv (.t 27), []⟩])
 (.cond (.t 25) (.reg [] [⟨some 28, none, .mv (.t 4), []⟩, ⟨some 29, none, .mv (.t 6), []⟩, ⟨some 30, none, .bi .sub .i64 (.t 29) (.k (.int .i64 65536)), []⟩, ⟨some 31, none, .bi .quo .i64 (.t 30) (.k (.int .i64 1024)), []⟩, ⟨some 32, none, .bi .add .i64 (.k (.int .i64 55296)) (.t 31), []⟩, ⟨some 33, none, .mv (.t 6), []⟩, ⟨some 34, none, .bi .sub .i64 (.t 33) (.k (.int .i64 65536)), []⟩, ⟨some 35, none, .bi .rem .i64 (.t 34) (.k (.int .i64 1024)), []⟩, ⟨some 36, none, .bi .add .i64 (.k (.int .i64 56320)) (.t 35), []⟩, ⟨some 37, none, .bls 1 2 [.int .i64 0] [(0, (.t 32)), (1, (.t 36))], []⟩, ⟨some 38, none, .app 1 8 (.t 28) (.t 37), []⟩, ⟨some 4, none, .mv (.t 38), []⟩]) (.reg [] [⟨some 18, none, .mv (.t 4), []⟩, ⟨some 19, none, .mv (.t 6), []⟩, ⟨some 20, none, .bls 1 1 [.int .i64 0] [(0, (.t 19))], []⟩, ⟨some 21, none, .app 1 8 (.t 18) (.t 20), []⟩, ⟨some 4, none, .mv (.t 21), []⟩]))))))
 (.reg [] [⟨some 39, none, .mv (.t 5), []⟩, ⟨some 40, none, .mv (.t 7), []⟩, ⟨some 41, none, .bi .add .i64 (.t 39) (.t 40), []⟩, ⟨some 5, none, .mv (.t 41), []⟩]))))))))
 (.seq (.reg [] [⟨some 42, none, .mv (.t 4), []⟩, ⟨some 2, none, .mv (.t 42), []⟩, ⟨some 3, none, .mv (.k (.bool true)), []⟩])
 (.ret))))⟩
theorem ck211 : chkFn Tryz.prog 211 ir211 = true := by kernel_rfl
def ir212 : AFn := ⟨23, 2, [.t 4], .seq (.reg [] [⟨some 4, none, .mv (.k (.sl .nil 1 [])), []⟩])
 (.seq (.reg [] [⟨some 6, none, .mv (.t 0), []⟩, ⟨some 7, none, .bls 1 2 [.int .u8 0] [(0, (.k (.int .u8 92))), (1, (.k (.int .u8 117)))], []⟩, ⟨some 8, none, .app 1 1 (.t 6) (.t 7), []⟩, ⟨some 0, none, .mv (.t 8), []⟩])
 (.seq (.seq (.reg [] [⟨some 5, none, .mv (.k (.int .i64 3)), []⟩])
 (.block 0 (.loop [0, 1, 5] (.seq (.seq (.reg [] [⟨some 9, none, .mv (.t 5), []⟩, ⟨some 10, none, .bi .geq .i64 (.t 9) (.k (.int .i64 0)), []⟩])
 (.cond (.t 10) (.skip) (.exit 0)))
 (.seq (.block 1 (.reg [] [⟨some 13, none, .mv (.t 0), []⟩, ⟨some 14, none, .mv (.t 1), []⟩, ⟨some 15, none, .mv (.t 5), []⟩, ⟨some 16, none, .bi .mul .i64 (.k (.int .i64 4)) (.t 15), []⟩, ⟨some 17, none, .shf .shr (.t 14) (.t 16), []⟩, ⟨some 18, none, .bi .rem .i64 (.t 17) (.k (.int .i64 16)), []⟩, ⟨some 19, none, .ixs (.k (.str [48, 49, 50, 51, 52, 53, 54, 55, 56, 57, 97, 98, 99, 100, 101, 102])) (.t 18), []⟩, ⟨some 20, none, .bls 1 1 [.int .u8 0] [(0, (.t 19))], []⟩, ⟨some 21, none, .app 1 1 (.t 13) (.t 20), []⟩, ⟨some 0, none, .mv (.t 21), []⟩]))
 (.reg [] [⟨some 11, none, .mv (.t 5), []⟩, ⟨some 12, none, .bi .sub .i64 (.t 11) (.k (.int .i64 1)), []⟩, ⟨some 5, none, .mv (.t 12), []⟩]))))))
 (.seq (.reg [] [⟨some 22, none, .mv (.t 0), []⟩, ⟨some 4, none, .mv (.t 22), []⟩])
 (.ret))))⟩
theorem ck212 : chkFn Tryz.prog 212 ir212 = true := by kernel_rfl
def ir223 : AFn := ⟨21, 1, [.t 2], .seq (.reg [] [⟨some 2, none, .mv (.k (.bool false)), []⟩])
 (.seq (.reg [] [⟨some 3, none, .mv (.t 0), []⟩, ⟨some 4, none, .bi .geq .u8 (.t 3) (.k (.int .u8 97)), []⟩, ⟨some 5, none, .mv (.t 4), []⟩, ⟨some 6, (some (5, true)), .mv (.t 0), []⟩, ⟨some 7, (some (5, true)), .bi .leq .u8 (.t 6) (.k (.int .u8 122)), []⟩, ⟨some 8, none, .pick (.t 5) (.t 7) (.k (.bool false)), []⟩, ⟨some 9, none, .mv (.t 8), []⟩, ⟨some 10, (some (9, false)), .mv (.t 0), []⟩, ⟨some 11, (some (9, false)), .bi .geq .u8 (.t 10) (.k (.int .u8 65)), []⟩, ⟨some 12, (some (9, false)), .mv (.t 11), []⟩, ⟨some 13, (some (12, true)), .mv (.t 0), []⟩, ⟨some 14, (some (12, true)), .bi .leq .u8 (.t 13) (.k (.int .u8 90)), []⟩, ⟨some 15, (some (9, false)), .pick (.t 12) (.t 14) (.k (.bool false)), []⟩, ⟨some 16, none, .pick (.t 9) (.k (.bool true)) (.t 15), []⟩, ⟨some 17, none, .mv (.t 16), []⟩, ⟨some 18, (some (17, false)), .mv (.t 0), []⟩, ⟨some 19, (some (17, false)), .bi .eql .u8 (.t 18) (.k (.int .u8 95)), []⟩, ⟨some 20, none, .pick (.t 17) (.k (.bool true)) (.t 19), []⟩, ⟨some 2, none, .mv (.t 20), []⟩])
 (.ret))⟩
theorem ck223 : chkFn Tryz.prog 223 ir223 = true := by kernel_rfl
def ir225 : AFn := ⟨38, 1, [.t 2, .t 3], .seq (.reg [] [⟨some 2, none, .mv (.k (.int .i64 0)), []⟩, ⟨some 3, none, .mv (.k (.int .i64 0)), []⟩])
 (.seq (.reg [] [⟨some 8, none, .mv (.t 0), []⟩, ⟨some 9, none, .call 284 [(.t 8)], []⟩, ⟨some 4, none, .mv (.t 9), []⟩])
 (.seq (.seq (.reg [] [⟨some 10, none, .mv (.t 4), []⟩, ⟨some 11, none, .bi .eql .i64 (.t 10) (.k (.int .i64 0)), []⟩])
 (.cond (.t 11) (.seq (.reg [] [⟨some 2, none, .mv (.k (.int .i64 0)), []⟩, ⟨some 3, none, .mv (.k (.int .i64 0)), []⟩])
 (.ret)) (.skip)))
 (.seq (.reg [] [⟨some 5, none, .mv (.k (.int .i64 3)), []⟩])
 (.seq (.seq (.reg [] [⟨some 12, none, .mv (.t 0), []⟩, ⟨some 13, none, .mv (.t 4), []⟩, ⟨some 14, none, .sls (.t 12) (some (.t 13)) none, []⟩, ⟨some 15, none, .call 217 [(.t 14), (.k (.str [46]))], []⟩])
 (.cond (.t 15) (.seq (.reg [] [⟨some 16, none, .mv (.t 0), []⟩, ⟨some 17, none, .mv (.t 4), []⟩, ⟨some 18, none, .bi .add .i64 (.t 17) (.k (.int .i64 1)), []⟩, ⟨some 19, none, .sls (.t 16) (some (.t 18)) none, []⟩, ⟨some 20, none, .call 285 [(.t 19)], []⟩, ⟨some 6, none, .mv (.t 20), []⟩])
 (.seq (.reg [] [⟨some 21, none, .mv (.t 6), []⟩, ⟨some 22, none, .bi .gtr .i64 (.t 21) (.k (.int .i64 0)), []⟩])
 (.cond (.t 22) (.reg [] [⟨some 23, none, .mv (.t 4), []⟩, ⟨some 24, none, .bi .add .i64 (.t 23) (.k (.int .i64 1)), []⟩, ⟨some 25, none, .mv (.t 6), []⟩, ⟨some 26, none, .bi .add .i64 (.t 24) (.t 25), []⟩, ⟨some 4, none, .mv (.t 26), []⟩, ⟨some 5, none, .mv (.k (.int .i64 4)), []⟩]) (.skip)))) (.skip)))
 (.seq (.seq (.reg [] [⟨some 27, none, .mv (.t 0), []⟩, ⟨some 28, none, .mv (.t 4), []⟩, ⟨some 29, none, .sls (.t 27) (some (.t 28)) none, []⟩, ⟨some 30, none, .call 286 [(.t 29)], []⟩, ⟨some 7, none, .mv (.t 30), []⟩])
 (.seq (.reg [] [⟨some 31, none, .mv (.t 7), []⟩, ⟨some 32, none, .bi .gtr .i64 (.t 31) (.k (.int .i64 0)), []⟩])
 (.cond (.t 32) (.reg [] [⟨some 33, none, .mv (.t 4), []⟩, ⟨some 34, none, .mv (.t 7), []⟩, ⟨some 35, none, .bi .add .i64 (.t 33) (.t 34), []⟩, ⟨some 4, none, .mv (.t 35), []⟩, ⟨some 5, none, .mv (.k (.int .i64 4)), []⟩]) (.skip))))
 (.seq (.reg [] [⟨some 36, none, .mv (.t 4), []⟩, ⟨some 37, none, .mv (.t 5), []⟩, ⟨some 2, none, .mv (.t 36), []⟩, ⟨some 3, none, .mv (.t 37), []⟩])
 (.ret)))))))⟩
theorem ck225 : chkFn Tryz.prog 225 ir225 = true := by kernel_rfl
def ir226 : AFn := ⟨9, 1, [.t 2], .seq (.reg [] [⟨some 2, none, .mv (.k (.bool false)), []⟩])
 (.seq (.reg [] [⟨some 3, none, .mv (.t 0), []⟩, ⟨some 4, none, .bi .geq .u8 (.t 3) (.k (.int .u8 48)), []⟩, ⟨some 5, none, .mv (.t 4), []⟩, ⟨some 6, (some (5, true)), .mv (.t 0), []⟩, ⟨some 7, (some (5, true)), .bi .leq .u8 (.t 6) (.k (.int .u8 57)), []⟩, ⟨some 8, none, .pick (.t 5) (.t 7) (.k (.bool false)), []⟩, ⟨some 2, none, .mv (.t 8), []⟩])
 (.ret))⟩
theorem ck226 : chkFn Tryz.prog 226 ir226 = true := by kernel_rfl
def ir229 : AFn := ⟨9, 2, [.t 4], .seq (.reg [] [⟨some 4, none, .mv (.k (.bool false)), []⟩])
 (.seq (.reg [] [⟨some 5, none, .mv (.t 0), []⟩, ⟨some 6, none, .mv (.t 1), []⟩, ⟨some 7, none, .call 289 [(.t 5), (.t 6)], []⟩, ⟨some 8, none, .bi .geq .i64 (.t 7) (.k (.int .i64 0)), []⟩, ⟨some 4, none, .mv (.t 8), []⟩])
 (.ret))⟩
theorem ck229 : chkFn Tryz.prog 229 ir229 = true := by kernel_rfl
def ir237 : AFn := ⟨45, 3, [], .seq (.reg [] [⟨some 4, none, .boxv (.t 1), []⟩])
 (.seq (.reg [] [⟨some 9, none, .ld 5 true (.t 4), []⟩, ⟨some 10, none, .call 55 [(.t 9)], []⟩, ⟨some 8, none, .mv (.t 10), []⟩, ⟨some 11, none, .ext (.t 8) 0, []⟩, ⟨some 12, none, .ext (.t 8) 1, []⟩, ⟨some 6, none, .mv (.t 11), []⟩, ⟨some 7, none, .mv (.t 12), []⟩])
 (.seq (.reg [0, 1, 2, 3, 4, 5, 6, 7, 8, 9, 10, 11, 12, 13, 14, 15, 16, 17, 18, 19, 20, 21, 22] [⟨some 13, none, .mv (.t 0), []⟩, ⟨some 14, none, .mv (.t 7), []⟩, ⟨some 15, none, .mv (.t 14), []⟩, ⟨some 16, (some (15, true)), .mv (.t 0), []⟩, ⟨some 17, (some (15, true)), .nilchk (.t 16), []⟩, ⟨some 18, (some (15, true)), .fa 2 (.t 17), []⟩, ⟨some 19, (some (15, true)), .ld 1 false (.t 18), []⟩, ⟨some 20, (some (15, true)), .ld 5 true (.t 4), []⟩, ⟨some 21, (some (15, true)), .call 116 [(.t 20)], [6]⟩, ⟨some 22, (some (15, true)), .bi .add .i64 (.t 19) (.t 21), []⟩, ⟨some 23, (some (15, true)), .bi .leq .i64 (.t 22) (.k (.int .i64 16)), []⟩, ⟨some 24, none, .pick (.t 15) (.t 23) (.k (.bool false)), []⟩, ⟨some 25, none, .mv (.t 24), []⟩, ⟨some 26, (some (25, true)), .mv (.t 2), []⟩, ⟨some 27, (some (25, true)), .mv (.t 26), []⟩, ⟨some 28, (some (27, true)), .ld 5 true (.t 4), []⟩, ⟨some 29, (some (27, true)), .call 60 [(.t 28)], []⟩, ⟨some 30, (some (27, true)), .len (.t 29), []⟩, ⟨some 31, (some (27, true)), .bi .gtr .i64 (.t 30) (.k (.int .i64 0)), []⟩, ⟨some 32, (some (25, true)), .pick (.t 27) (.t 31) (.k (.bool false)), []⟩, ⟨some 33, (some (25, true)), .not (.t 32), []⟩, ⟨some 34, none, .pick (.t 25) (.t 33) (.k (.bool false)), []⟩, ⟨some 35, none, .call 70 [(.t 13), (.t 34)], []⟩])
 (.reg [] [⟨some 36, none, .mv (.t 0), []⟩, ⟨some 37, none, .mv (.t 0), []⟩, ⟨some 38, none, .nilchk (.t 37), []⟩, ⟨some 39, none, .fa 0 (.t 38), []⟩, ⟨some 40, none, .ld 1 false (.t 39), []⟩, ⟨some 41, none, .mv (.t 6), []⟩, ⟨some 42, none, .app 2 24 (.t 40) (.t 41), []⟩, ⟨some 43, none, .nilchk (.t 36), []⟩, ⟨some 44, none, .fa 0 (.t 43), []⟩, ⟨none, none, .st 1 (.t 44) (.t 42), []⟩])))⟩
theorem ck237 : chkFn Tryz.prog 237 ir237 = true := by kernel_rfl
def ir266 : AFn := ⟨88, 1, [.t 2], .seq (.reg [] [⟨some 1, none, .boxv (.t 0), []⟩, ⟨some 2, none, .mv (.k (.bool false)), []⟩])
 (.seq (.reg [] [⟨some 4, none, .ld 5 true (.t 1), []⟩, ⟨some 3, none, .alloc [.int .i64 0, .int .i64 0, .str [], .sl .nil 5 [], .sl .nil 6 []], []⟩, ⟨none, none, .st 5 (.t 3) (.t 4), []⟩])
 (.seq (.reg [] [⟨some 5, none, .fa 1 (.t 3), []⟩, ⟨none, none, .st 1 (.t 5) (.k (.int .i64 0)), []⟩, ⟨some 6, none, .fa 2 (.t 3), []⟩, ⟨none, none, .st 1 (.t 6) (.k (.str [])), []⟩])
 (.seq (.seq (.reg [] [⟨some 7, none, .ld 5 true (.t 3), []⟩, ⟨some 8, none, .call 267 [(.t 7)], []⟩, ⟨some 9, none, .not (.t 8), []⟩])
 (.cond (.t 9) (.seq (.reg [] [⟨some 2, none, .mv (.k (.bool false)), []⟩])
 (.ret)) (.skip)))
 (.seq (.seq (.reg [] [⟨some 10, none, .fa 0 (.t 1), []⟩, ⟨some 11, none, .ld 1 false (.t 10), []⟩])
 (.block 0 (.seq (.reg [] [⟨some 13, none, .bi .eql .i64 (.t 11) (.k (.int .i64 0)), []⟩, ⟨some 12, none, .mv (.t 13), []⟩])
 (.cond (.t 12) (.seq (.reg [] [⟨some 14, none, .fa 1 (.t 1), []⟩, ⟨some 15, none, .ld 1 false (.t 14), []⟩, ⟨some 16, none, .bi .eql .i64 (.t 15) (.k (.int .i64 0)), []⟩, ⟨some 17, none, .mv (.t 16), []⟩, ⟨some 18, (some (17, true)), .fa 2 (.t 1), []⟩, ⟨some 19, (some (17, true)), .ld 1 false (.t 18), []⟩, ⟨some 20, (some (17, true)), .bs .eql (.t 19) (.k (.str [])), []⟩, ⟨some 21, none, .pick (.t 17) (.t 20) (.k (.bool false)), []⟩, ⟨some 2, none, .mv (.t 21), []⟩])
 (.ret)) (.seq (.reg [] [⟨some 23, none, .bi .eql .i64 (.t 11) (.k (.int .i64 1)), []⟩, ⟨some 22, none, .mv (.t 23), []⟩])
 (.cond (.t 22) (.seq (.reg [] [⟨some 24, none, .fa 1 (.t 1), []⟩, ⟨some 25, none, .ld 1 false (.t 24), []⟩, ⟨some 26, none, .bi .eql .i64 (.t 25) (.k (.int .i64 0)), []⟩, ⟨some 27, none, .mv (.t 26), []⟩, ⟨some 28, (some (27, false)), .fa 1 (.t 1), []⟩, ⟨some 29, (some (27, false)), .ld 1 false (.t 28), []⟩, ⟨some 30, (some (27, false)), .bi .eql .i64 (.t 29) (.k (.int .i64 1)), []⟩, ⟨some 31, none, .pick (.t 27) (.k (.bool true)) (.t 30), []⟩, ⟨some 32, none, .mv (.t 31), []⟩, ⟨some 33, (some (32, true)), .fa 2 (.t 1), []⟩, ⟨some 34, (some (32, true)), .ld 1 false (.t 33), []⟩, ⟨some 35, (some (32, true)), .bs .eql (.t 34) (.k (.str [])), []⟩, ⟨some 36, none, .pick (.t 32) (.t 35) (.k (.bool false)), []⟩, ⟨some 2, none, .mv (.t 36), []⟩])
 (.ret)) (.seq (.reg [] [⟨some 38, none, .bi .eql .i64 (.t 11) (.k (.int .i64 2)), []⟩, ⟨some 37, none, .mv (.t 38), []⟩])
 (.cond (.t 37) (.seq (.reg [] [⟨some 39, none, .fa 2 (.t 1), []⟩, ⟨some 40, none, .ld 1 false (.t 39), []⟩, ⟨some 41, none, .bs .eql (.t 40) (.k (.str [])), []⟩, ⟨some 2, none, .mv (.t 41), []⟩])
 (.ret)) (.seq (.reg [] [⟨some 43, none, .bi .eql .i64 (.t 11) (.k (.int .i64 3)), []⟩, ⟨some 42, none, .mv (.t 43), []⟩])
 (.cond (.t 42) (.seq (.reg [] [⟨some 44, none, .fa 1 (.t 1), []⟩, ⟨some 45, none, .ld 1 false (.t 44), []⟩, ⟨some 46, none, .bi .eql .i64 (.t 45) (.k (.int .i64 0)), []⟩, ⟨some 47, none, .mv (.t 46), []⟩, ⟨some 48, (some (47, true)), .fa 2 (.t 1), []⟩, ⟨some 49, (some (47, true)), .ld 1 false (.t 48), []⟩, ⟨some 50, (some (47, true)), .call 309 [(.t 49)], []⟩, ⟨some 51, none, .pick (.t 47) (.t 50) (.k (.bool false)), []⟩, ⟨some 2, none, .mv (.t 51), []⟩])
 (.ret)) (.seq (.reg [] [⟨some 53, none, .bi .eql .i64 (.t 11) (.k (.int .i64 4)), []⟩, ⟨some 52, none, .mv (.t 53), []⟩])
 (.cond (.t 52) (.seq (.reg [] [⟨some 54, none, .fa 1 (.t 1), []⟩, ⟨some 55, none, .ld 1 false (.t 54), []⟩, ⟨some 56, none, .bi .eql .i64 (.t 55) (.k (.int .i64 0)), []⟩, ⟨some 57, none, .mv (.t 56), []⟩, ⟨some 58, (some (57, true)), .fa 2 (.t 1), []⟩, ⟨some 59, (some (57, true)), .ld 1 false (.t 58), []⟩, ⟨some 60, (some (57, true)), .call 202 [(.t 59)], []⟩, ⟨some 61, none, .pick (.t 57) (.t 60) (.k (.bool false)), []⟩, ⟨some 2, none, .mv (.t 61), []⟩])
 (.ret)) (.seq (.reg [] [⟨some 63, none, .bi .eql .i64 (.t 11) (.k (.int .i64 5)), []⟩, ⟨some 62, none, .mv (.t 63), []⟩])
 (.cond (.t 62) (.seq (.reg [] [⟨some 64, none, .fa 1 (.t 1), []⟩, ⟨some 65, none, .ld 1 false (.t 64), []⟩, ⟨some 66, none, .bi .eql .i64 (.t 65) (.k (.int .i64 0)), []⟩, ⟨some 67, none, .mv (.t 66), []⟩, ⟨some 68, (some (67, true)), .fa 2 (.t 1), []⟩, ⟨some 69, (some (67, true)), .ld 1 false (.t 68), []⟩, ⟨some 70, (some (67, true)), .call 203 [(.t 69)], []⟩, ⟨some 71, none, .pick (.t 67) (.t 70) (.k (.bool false)), []⟩, ⟨some 72, none, .mv (.t 71), []⟩, ⟨some 73, (some (72, true)), .fa 2 (.t 1), []⟩, ⟨some 74, (some (72, true)), .ld 1 false (.t 73), []⟩, ⟨some 75, (some (72, true)), .call 310 [(.t 74)], []⟩, ⟨some 76, (some (72, true)), .not (.t 75), []⟩, ⟨some 77, none, .pick (.t 72) (.t 76) (.k (.bool false)), []⟩, ⟨some 2, none, .mv (.t 77), []⟩])
 (.ret)) (.seq (.reg [] [⟨some 79, none, .bi .eql .i64 (.t 11) (.k (.int .i64 8)), []⟩, ⟨some 78, none, .mv (.t 79), []⟩])
 (.cond (.t 78) (.seq (.reg [] [⟨some 80, none, .fa 1 (.t 1), []⟩, ⟨some 81, none, .ld 1 false (.t 80), []⟩, ⟨some 82, none, .bi .eql .i64 (.t 81) (.k (.int .i64 0)), []⟩, ⟨some 83, none, .mv (.t 82), []⟩, ⟨some 84, (some (83, true)), .fa 2 (.t 1), []⟩, ⟨some 85, (some (83, true)), .ld 1 false (.t 84), []⟩, ⟨some 86, (some (83, true)), .call 203 [(.t 85)], []⟩, ⟨some 87, none, .pick (.t 83) (.t 86) (.k (.bool false)), []⟩, ⟨some 2, none, .mv (.t 87), []⟩])
 (.ret)) (.skip)))))))))))))))))
 (.seq (.reg [] [⟨some 2, none, .mv (.k (.bool false)), []⟩])
 (.ret))))))⟩
theorem ck266 : chkFn Tryz.prog 266 ir266 = true := by kernel_rfl
def ir267 : AFn := ⟨23, 1, [.t 2], .seq (.reg [] [⟨some 1, none, .boxv (.t 0), []⟩, ⟨some 2, none, .mv (.k (.bool false)), []⟩])
 (.seq (.reg [] [⟨some 3, none, .fa 1 (.t 1), []⟩, ⟨some 4, none, .ld 1 false (.t 3), []⟩, ⟨some 5, none, .bi .eql .i64 (.t 4) (.k (.int .i64 0)), []⟩, ⟨some 6, none, .mv (.t 5), []⟩, ⟨some 7, (some (6, true)), .fa 2 (.t 1), []⟩, ⟨some 8, (some (6, true)), .ld 1 false (.t 7), []⟩, ⟨some 9, (some (6, true)), .bs .eql (.t 8) (.k (.str [])), []⟩, ⟨some 10, none, .pick (.t 6) (.t 9) (.k (.bool false)), []⟩, ⟨some 11, none, .mv (.t 10), []⟩, ⟨some 12, (some (11, true)), .fa 3 (.t 1), []⟩, ⟨some 13, (some (11, true)), .ld 1 false (.t 12), []⟩, ⟨some 14, (some (11, true)), .len (.t 13), []⟩, ⟨some 15, (some (11, true)), .bi .eql .i64 (.t 14) (.k (.int .i64 0)), []⟩, ⟨some 16, none, .pick (.t 11) (.t 15) (.k (.bool false)), []⟩, ⟨some 17, none, .mv (.t 16), []⟩, ⟨some 18, (some (17, true)), .fa 4 (.t 1), []⟩, ⟨some 19, (some (17, true)), .ld 1 false (.t 18), []⟩, ⟨some 20, (some (17, true)), .len (.t 19), []⟩, ⟨some 21, (some (17, true)), .bi .eql .i64 (.t 20) (.k (.int .i64 0)), []⟩, ⟨some 22, none, .pick (.t 17) (.t 21) (.k (.bool false)), []⟩, ⟨some 2, none, .mv (.t 22), []⟩])
 (.ret))⟩
theorem ck267 : chkFn Tryz.prog 267 ir267 = true := by kernel_rfl
def ir269 : AFn := ⟨4, 1, [.t 2], .seq (.reg [] [⟨some 2, none, .mv (.k (.str [])), []⟩])
 (.seq (.seq (.reg [] [⟨some 3, none, .mv (.t 0), []⟩])
 (.cond (.t 3) (.seq (.reg [] [⟨some 2, none, .mv (.k (.str [116, 114, 117, 101])), []⟩])
 (.ret)) (.skip)))
 (.seq (.reg [] [⟨some 2, none, .mv (.k (.str [102, 97, 108, 115, 101])), []⟩])
 (.ret)))⟩
theorem ck269 : chkFn Tryz.prog 269 ir269 = true := by kernel_rfl
def ir284 : AFn := ⟨24, 1, [.t 2], .seq (.reg [] [⟨some 2, none, .mv (.k (.int .i64 0)), []⟩])
 (.seq (.reg [] [⟨some 3, none, .mv (.k (.int .i64 0)), []⟩])
 (.seq (.seq (.reg [] [⟨some 5, none, .mv (.t 0), []⟩, ⟨some 6, none, .call 217 [(.t 5), (.k (.str [45]))], []⟩])
 (.cond (.t 6) (.reg [] [⟨some 3, none, .mv (.k (.int .i64 1)), []⟩]) (.skip)))
 (.seq (.reg [] [⟨some 7, none, .mv (.t 0), []⟩, ⟨some 8, none, .mv (.t 3), []⟩, ⟨some 9, none, .sls (.t 7) (some (.t 8)) none, []⟩, ⟨some 10, none, .call 285 [(.t 9)], []⟩, ⟨some 4, none, .mv (.t 10), []⟩])
 (.seq (.block 0 (.seq (.reg [] [⟨some 12, none, .mv (.t 4), []⟩, ⟨some 13, none, .bi .eql .i64 (.t 12) (.k (.int .i64 0)), []⟩, ⟨some 11, none, .mv (.t 13), []⟩])
 (.cond (.t 11) (.seq (.reg [] [⟨some 2, none, .mv (.k (.int .i64 0)), []⟩])
 (.ret)) (.seq (.reg [] [⟨some 15, none, .mv (.t 0), []⟩, ⟨some 16, none, .mv (.t 3), []⟩, ⟨some 17, none, .ixs (.t 15) (.t 16), []⟩, ⟨some 18, none, .bi .eql .u8 (.t 17) (.k (.int .u8 48)), []⟩, ⟨some 14, none, .mv (.t 18), []⟩])
 (.cond (.t 14) (.seq (.reg [] [⟨some 19, none, .mv (.t 3), []⟩, ⟨some 20, none, .bi .add .i64 (.t 19) (.k (.int .i64 1)), []⟩, ⟨some 2, none, .mv (.t 20), []⟩])
 (.ret)) (.skip))))))
 (.seq (.reg [] [⟨some 21, none, .mv (.t 3), []⟩, ⟨some 22, none, .mv (.t 4), []⟩, ⟨some 23, none, .bi .add .i64 (.t 21) (.t 22), []⟩, ⟨some 2, none, .mv (.t 23), []⟩])
 (.ret))))))⟩
theorem ck284 : chkFn Tryz.prog 284 ir284 = true := by kernel_rfl
def ir285 : AFn := ⟨17, 1, [.t 2], .seq (.reg [] [⟨some 2, none, .mv (.k (.int .i64 0)), []⟩])
 (.seq (.reg [] [⟨some 3, none, .mv (.k (.int .i64 0)), []⟩])
 (.seq (.block 0 (.loop [0, 3] (.seq (.seq (.reg [] [⟨some 4, none, .mv (.t 3), []⟩, ⟨some 5, none, .mv (.t 0), []⟩, ⟨some 6, none, .lens (.t 5), []⟩, ⟨some 7, none, .bi .lss .i64 (.t 4) (.t 6), []⟩, ⟨some 8, none, .mv (.t 7), []⟩, ⟨some 9, (some (8, true)), .mv (.t 0), []⟩, ⟨some 10, (some (8, true)), .mv (.t 3), []⟩, ⟨some 11, (some (8, true)), .ixs (.t 9) (.t 10), []⟩, ⟨some 12, (some (8, true)), .call 226 [(.t 11)], []⟩, ⟨some 13, none, .pick (.t 8) (.t 12) (.k (.bool false)), []⟩])
 (.cond (.t 13) (.skip) (.exit 0)))
 (.block 1 (.reg [] [⟨some 14, none, .mv (.t 3), []⟩, ⟨some 15, none, .bi .add .i64 (.t 14) (.k (.int .i64 1)), []⟩, ⟨some 3, none, .mv (.t 15), []⟩])))))
 (.seq (.reg [] [⟨some 16, none, .mv (.t 3), []⟩, ⟨some 2, none, .mv (.t 16), []⟩])
 (.ret))))⟩
theorem ck285 : chkFn Tryz.prog 285 ir285 = true := by kernel_rfl
def ir286 : AFn := ⟨39, 1, [.t 2], .seq (.reg [] [⟨some 2, none, .mv (.k (.int .i64 0)), []⟩])
 (.seq (.seq (.reg [] [⟨some 5, none, .mv (.t 0), []⟩, ⟨some 6, none, .bs .eql (.t 5) (.k (.str [])), []⟩, ⟨some 7, none, .mv (.t 6), []⟩, ⟨some 8, (some (7, false)), .mv (.t 0), []⟩, ⟨some 9, (some (7, false)), .ixs (.t 8) (.k (.int .i64 0)), []⟩, ⟨some 10, (some (7, false)), .bi .neq .u8 (.t 9) (.k (.int .u8 101)), []⟩, ⟨some 11, (some (7, false)), .mv (.t 10), []⟩, ⟨some 12, (some (11, true)), .mv (.t 0), []⟩, ⟨some 13, (some (11, true)), .ixs (.t 12) (.k (.int .i64 0)), []⟩, ⟨some 14, (some (11, true)), .bi .neq .u8 (.t 13) (.k (.int .u8 69)), []⟩, ⟨some 15, (some (7, false)), .pick (.t 11) (.t 14) (.k (.bool false)), []⟩, ⟨some 16, none, .pick (.t 7) (.k (.bool true)) (.t 15), []⟩])
 (.cond (.t 16) (.seq (.reg [] [⟨some 2, none, .mv (.k (.int .i64 0)), []⟩])
 (.ret)) (.skip)))
 (.seq (.reg [] [⟨some 3, none, .mv (.k (.int .i64 1)), []⟩])
 (.seq (.seq (.reg [] [⟨some 17, none, .mv (.t 0), []⟩, ⟨some 18, none, .lens (.t 17), []⟩, ⟨some 19, none, .bi .gtr .i64 (.t 18) (.k (.int .i64 1)), []⟩, ⟨some 20, none, .mv (.t 19), []⟩, ⟨some 21, (some (20, true)), .mv (.t 0), []⟩, ⟨some 22, (some (20, true)), .ixs (.t 21) (.k (.int .i64 1)), []⟩, ⟨some 23, (some (20, true)), .bi .eql .u8 (.t 22) (.k (.int .u8 43)), []⟩, ⟨some 24, (some (20, true)), .mv (.t 23), []⟩, ⟨some 25, (some (24, false)), .mv (.t 0), []⟩, ⟨some 26, (some (24, false)), .ixs (.t 25) (.k (.int .i64 1)), []⟩, ⟨some 27, (some (24, false)), .bi .eql .u8 (.t 26) (.k (.int .u8 45)), []⟩, ⟨some 28, (some (20, true)), .pick (.t 24) (.k (.bool true)) (.t 27), []⟩, ⟨some 29, none, .pick (.t 20) (.t 28) (.k (.bool false)), []⟩])
 (.cond (.t 29) (.reg [] [⟨some 3, none, .mv (.k (.int .i64 2)), []⟩]) (.skip)))
 (.seq (.reg [] [⟨some 30, none, .mv (.t 0), []⟩, ⟨some 31, none, .mv (.t 3), []⟩, ⟨some 32, none, .sls (.t 30) (some (.t 31)) none, []⟩, ⟨some 33, none, .call 285 [(.t 32)], []⟩, ⟨some 4, none, .mv (.t 33), []⟩])
 (.seq (.seq (.reg [] [⟨some 34, none, .mv (.t 4), []⟩, ⟨some 35, none, .bi .eql .i64 (.t 34) (.k (.int .i64 0)), []⟩])
 (.cond (.t 35) (.seq (.reg [] [⟨some 2, none, .mv (.k (.int .i64 0)), []⟩])
 (.ret)) (.skip)))
 (.seq (.reg [] [⟨some 36, none, .mv (.t 3), []⟩, ⟨some 37, none, .mv (.t 4), []⟩, ⟨some 38, none, .bi .add .i64 (.t 36) (.t 37), []⟩, ⟨some 2, none, .mv (.t 38), []⟩])
 (.ret)))))))⟩
theorem ck286 : chkFn Tryz.prog 286 ir286 = true := by kernel_rfl
def ir289 : AFn := ⟨19, 2, [.t 4], .seq (.reg [] [⟨some 4, none, .mv (.k (.int .i64 0)), []⟩])
 (.seq (.seq (.reg [] [⟨some 6, none, .mv (.t 0), []⟩, ⟨some 7, none, .len (.t 6), []⟩, ⟨some 8, none, .mv (.k (.int .i64 0)), []⟩])
 (.block 0 (.loop [0, 1, 7, 8] (.seq (.reg [] [⟨some 9, none, .bi .lss .i64 (.t 8) (.t 7), []⟩])
 (.seq (.cond (.t 9) (.skip) (.exit 0))
 (.seq (.block 1 (.seq (.reg [] [⟨some 10, none, .mv (.t 8), []⟩, ⟨some 5, none, .mv (.t 10), []⟩])
 (.seq (.reg [] [⟨some 11, none, .mv (.t 1), []⟩, ⟨some 12, none, .mv (.t 0), []⟩, ⟨some 13, none, .mv (.t 5), []⟩, ⟨some 14, none, .ia 1 (.t 12) (.t 13), []⟩, ⟨some 15, none, .ld 1 false (.t 14), []⟩, ⟨some 16, none, .bs .eql (.t 11) (.t 15), []⟩])
 (.cond (.t 16) (.seq (.reg [] [⟨some 17, none, .mv (.t 5), []⟩, ⟨some 4, none, .mv (.t 17), []⟩])
 (.ret)) (.skip)))))
 (.reg [] [⟨some 18, none, .bi .add .i64 (.t 8) (.k (.int .i64 1)), []⟩, ⟨some 8, none, .mv (.t 18), []⟩])))))))
 (.seq (.reg [] [⟨some 4, none, .mv (.k (.int .i64 (-1))), []⟩])
 (.ret)))⟩
theorem ck289 : chkFn Tryz.prog 289 ir289 = true := by kernel_rfl
def ir309 : AFn := ⟨23, 1, [.t 2], .seq (.reg [] [⟨some 2, none, .mv (.k (.bool false)), []⟩])
 (.seq (.reg [] [⟨some 6, none, .mv (.t 0), []⟩, ⟨some 7, none, .call 207 [(.t 6)], []⟩, ⟨some 3, none, .mv (.t 7), []⟩])
 (.seq (.reg [] [⟨some 9, none, .mv (.t 0), []⟩, ⟨some 10, none, .call 176 [(.t 9)], []⟩, ⟨some 8, none, .mv (.t 10), []⟩, ⟨some 11, none, .ext (.t 8) 0, []⟩, ⟨some 12, none, .ext (.t 8) 1, []⟩, ⟨some 4, none, .mv (.t 11), []⟩, ⟨some 5, none, .mv (.t 12), []⟩])
 (.seq (.reg [] [⟨some 13, none, .mv (.t 3), []⟩, ⟨some 14, none, .bi .eql .i64 (.t 13) (.k (.int .i64 4)), []⟩, ⟨some 15, none, .mv (.t 14), []⟩, ⟨some 16, (some (15, false)), .mv (.t 3), []⟩, ⟨some 17, (some (15, false)), .bi .eql .i64 (.t 16) (.k (.int .i64 3)), []⟩, ⟨some 18, (some (15, false)), .mv (.t 17), []⟩, ⟨some 19, (some (18, true)), .mv (.t 5), []⟩, ⟨some 20, (some (18, true)), .not (.t 19), []⟩, ⟨some 21, (some (15, false)), .pick (.t 18) (.t 20) (.k (.bool false)), []⟩, ⟨some 22, none, .pick (.t 15) (.k (.bool true)) (.t 21), []⟩, ⟨some 2, none, .mv (.t 22), []⟩])
 (.ret))))⟩
theorem ck309 : chkFn Tryz.prog 309 ir309 = true := by kernel_rfl
def ir310 : AFn := ⟨13, 1, [.t 2], .seq (.reg [] [⟨some 2, none, .mv (.k (.bool false)), []⟩])
 (.seq (.reg [] [⟨some 3, none, .mv (.t 0), []⟩, ⟨some 4, none, .bs .eql (.t 3) (.k (.str [116, 114, 117, 101])), []⟩, ⟨some 5, none, .mv (.t 4), []⟩, ⟨some 6, (some (5, false)), .mv (.t 0), []⟩, ⟨some 7, (some (5, false)), .bs .eql (.t 6) (.k (.str [102, 97, 108, 115, 101])), []⟩, ⟨some 8, none, .pick (.t 5) (.k (.bool true)) (.t 7), []⟩, ⟨some 9, none, .mv (.t 8), []⟩, ⟨some 10, (some (9, false)), .mv (.t 0), []⟩, ⟨some 11, (some (9, false)), .bs .eql (.t 10) (.k (.str [110, 117, 108, 108])), []⟩, ⟨some 12, none, .pick (.t 9) (.k (.bool true)) (.t 11), []⟩, ⟨some 2, none, .mv (.t 12), []⟩])
 (.ret))⟩
theorem ck310 : chkFn Tryz.prog 310 ir310 = true := by kernel_rfl
end Go.Proofs.YticbbfbpeimkbaaGreatDoor
namespace Go.Proofs.YticbbfbpeimkbaaGreatDoor
open Go.Ab
mutual
inductive Val where
  | mk (k n : Int) (s : List UInt8) (l : List Val) (m : List Mem)
inductive Mem where
  | mk (name : List UInt8) (v : Val)
end
mutual
def cV : Val → List AV
  | .mk k n s l m => [.int .i64 k, .int .i64 n, .str s, .sl .no 5 (cVs l), .sl .no 6 (cMs m)]
def cVs : List Val → List (List AV)
  | [] => []
  | v :: r => cV v :: cVs r
def cM : Mem → List AV
  | .mk s v => .str s :: cV v
def cMs : List Mem → List (List AV)
  | [] => []
  | x :: r => cM x :: cMs r
end
theorem cVs_map : ∀ l, cVs l = l.map cV
  | [] => rfl
  | v :: r => by rw [cVs, cVs_map r]; rfl
theorem cMs_map : ∀ l, cMs l = l.map cM
  | [] => rfl
  | v :: r => by rw [cMs, cMs_map r]; rfl
theorem cVs_len (l : List Val) : (cVs l).length = l.length := by rw [cVs_map]; simp
theorem cMs_len (l : List Mem) : (cMs l).length = l.length := by rw [cMs_map]; simp
theorem cVs_get {l a : List Val} {x : Val} {b : List Val} (h : l = a ++ x :: b) : (cVs l).getD a.length [] = cV x := by rw [cVs_map, getD_mid' h]
theorem cMs_get {l a : List Mem} {x : Mem} {b : List Mem} (h : l = a ++ x :: b) : (cMs l).getD a.length [] = cM x := by rw [cMs_map, getD_mid' h]
theorem cV_mk (k n : Int) (s : List UInt8) (l : List Val) (m : List Mem) : cV (.mk k n s l m) = [.int .i64 k, .int .i64 n, .str s, .sl .no 5 (cVs l), .sl .no 6 (cMs m)] := rfl
theorem cM_mk (s : List UInt8) (v : Val) : cM (.mk s v) = .str s :: cV v := rfl
theorem cV_strip (v : Val) : (cV v).map AV.strip1 = cV v := by cases v; rfl
mutual
theorem Val.ind {P : Val → Prop} (h : ∀ k n s l m, (∀ v ∈ l, P v) → (∀ s v, Mem.mk s v ∈ m → P v) → P (.mk k n s l m)) : ∀ v, P v
  | .mk k n s l m => h k n s l m (Val.indL h l) (fun s v hm => Val.indM h m s v hm)
theorem Val.indL {P : Val → Prop} (h : ∀ k n s l m, (∀ v ∈ l, P v) → (∀ s v, Mem.mk s v ∈ m → P v) → P (.mk k n s l m)) : ∀ l : List Val, ∀ v ∈ l, P v
  | [], _, hv => by cases hv
  | x :: r, v, hv => (List.mem_cons.1 hv).elim (fun e => e ▸ Val.ind h x) (Val.indL h r v)
theorem Val.ind1 {P : Val → Prop} (h : ∀ k n s l m, (∀ v ∈ l, P v) → (∀ s v, Mem.mk s v ∈ m → P v) → P (.mk k n s l m)) : ∀ m : Mem, ∀ s v, m = .mk s v → P v
  | .mk s v, s', v', e => by cases e; exact Val.ind h v
theorem Val.indM {P : Val → Prop} (h : ∀ k n s l m, (∀ v ∈ l, P v) → (∀ s v, Mem.mk s v ∈ m → P v) → P (.mk k n s l m)) : ∀ l : List Mem, ∀ s v, Mem.mk s v ∈ l → P v
  | [], _, _, hv => by cases hv
  | x :: r, s, v, hv => (List.mem_cons.1 hv).elim (fun e => Val.ind1 h x s v e.symm) (Val.indM h r s v)
end
theorem cV_len (v : Val) : (cV v).length = 5 := by cases v; rfl
theorem cM_len (x : Mem) : (cM x).length = 6 := by cases x with | mk s v => cases v; rfl
theorem cV_take (v : Val) : (cV v).take 5 = cV v := by cases v; rfl
theorem cM_take (x : Mem) : (cM x).take 6 = cM x := by cases x with | mk s v => cases v; rfl
theorem cV_splice (a b c d e : AV) (v : Val) : splice [a, b, c, d, e] 0 (cV v) = cV v := by cases v; rfl
theorem cM_splice (a b c d e f : AV) (x : Mem) : splice [a, b, c, d, e, f] 0 (cM x) = cM x := by cases x with | mk s v => cases v; rfl
mutual
def bV : Val → Nat
  | .mk _ _ s l m => 1 + s.length + bVs l + bMs m
def bVs : List Val → Nat
  | [] => 0
  | v :: r => bV v + bVs r
def bM : Mem → Nat
  | .mk s v => s.length + bV v
def bMs : List Mem → Nat
  | [] => 0
  | x :: r => bM x + bMs r
end
theorem bV_pos (v : Val) : 1 ≤ bV v := by cases v; simp only [bV]; omega
theorem bM_pos (v : Mem) : 1 ≤ bM v := by cases v with | mk s v => have := bV_pos v; simp only [bM]; omega
theorem bVs_len : ∀ l, l.length ≤ bVs l
  | [] => by simp
  | v :: r => by have := bVs_len r; have := bV_pos v; simp only [bVs, List.length_cons]; omega
theorem bMs_len : ∀ l, l.length ≤ bMs l
  | [] => by simp
  | v :: r => by have := bMs_len r; have := bM_pos v; simp only [bMs, List.length_cons]; omega
theorem bVs_mid (a : List Val) (x : Val) (b : List Val) : bVs (a ++ x :: b) = bVs a + bV x + bVs b := by
  induction a with
  | nil => simp [bVs]
  | cons y a ih => simp only [List.cons_append, bVs, ih]; omega
theorem bMs_mid (a : List Mem) (x : Mem) (b : List Mem) : bMs (a ++ x :: b) = bMs a + bM x + bMs b := by
  induction a with
  | nil => simp [bMs]
  | cons y a ih => simp only [List.cons_append, bMs, ih]; omega
abbrev Lim : Nat := 1099511627776
theorem sizeC : ∀ v, bV v ≤ Lim → Pure Tryz.prog 53 [.agg (cV v)] (.int .i64 (bV v)) := by
  refine Val.ind fun k n s l m ihl ihm hb => ?_
  refine Pure.go ir53 ck53 (Nat.le_refl _) fun KP Q hQ => ?_
  have hl := cVs_len l
  have hm := cMs_len m
  have hll := bVs_len l
  have hml := bMs_len m
  have hb' : 1 + s.length + bVs l + bMs m ≤ Lim := hb
  simp only [Lim] at hb'
  simp (disch := first | omega | assumption) only [ir53, cV_mk, wrap64, go_sem, ↓reduceIte]
  refine goL_range l 4 (fun n : Int => [(3, .int .i64 n)]) (fun done rest n H => n + bVs rest = 1 + s.length + bVs l ∧ H = Heap.emp) (1 + s.length) (by simp (disch := first | omega | assumption) only [go_sem, ↓reduceIte]) ⟨by omega, rfl⟩ ?_ ?_
  · rintro n H J ⟨hn, rfl⟩ hlt
    simp only [bVs] at hn
    simp (disch := first | omega | assumption) only [hl, hlt, go_sem, ↓reduceIte]
    refine goL_range m 5 (fun n : Int => [(3, .int .i64 n)]) (fun done rest n H => n + bMs rest = 1 + s.length + bVs l + bMs m ∧ H = Heap.emp) n (by simp (disch := first | omega | assumption) only [go_sem, ↓reduceIte]) ⟨by omega, rfl⟩ ?_ ?_
    · rintro n H J ⟨hn, rfl⟩ hlt
      simp only [bMs] at hn
      simp (disch := first | omega | assumption) only [hm, hlt, go_sem, ↓reduceIte]
      have : n = ((bV (.mk k n s l m) : Nat) : Int) := by simp only [bV]; omega
      exact hQ _ _ _ _ nofun rfl (by simp [tupOf, envOf, AV.strip, AV.strip1, bV, this])
    · rintro done x rest n H J hd hlt _ ⟨hn, rfl⟩ hJ
      have hg := cMs_get hd
      have hbm := bMs_mid done x rest
      rw [← hd] at hbm
      cases x with
      | mk t v =>
      simp only [bMs, bM] at hn hbm
      simp (disch := first | omega | assumption) only [cV_len, cV_take, cV_splice, cM_len, cM_take, cM_splice, cM_mk, hm, hlt, hg, wrap64, go_sem, ↓reduceIte]
      refine goK_pure (ihm t v (by rw [hd]; simp) (by simp only [Lim]; omega)) ?_
      simp (disch := first | omega | assumption) only [hl, hm, hlt, hg, cM_mk, wrap64, go_sem, ↓reduceIte]
      refine goJ (hJ (n + t.length + bV v) Heap.emp ⟨by omega, rfl⟩) (by simp (disch := first | omega | assumption) only [go_sem, ↓reduceIte])
  · rintro done x rest n H J hd hlt _ ⟨hn, rfl⟩ hJ
    have hg := cVs_get hd
    have hbm := bVs_mid done x rest
    rw [← hd] at hbm
    simp only [bVs] at hn
    simp (disch := first | omega | assumption) only [cV_len, cV_take, cV_splice, cM_len, cM_take, cM_splice, cM_mk, hl, hlt, hg, go_sem, ↓reduceIte]
    refine goK_pure (ihl x (by rw [hd]; simp) (by simp only [Lim]; omega)) ?_
    simp (disch := first | omega | assumption) only [wrap64, go_sem, ↓reduceIte]
    refine goJ (hJ (n + bV x) Heap.emp ⟨by omega, rfl⟩) (by simp (disch := first | omega | assumption) only [go_sem, ↓reduceIte])
noncomputable def eqd {α : Type} (a b : α) : Bool := @decide (a = b) (Classical.propDecidable _)
theorem eqd_true {α : Type} {a b : α} (h : a = b) : eqd a b = true := by simp [eqd, h]
theorem eqd_false {α : Type} {a b : α} (h : a ≠ b) : eqd a b = false := by simp [eqd, h]
def cT (l : List (List UInt8)) : List (List AV) := l.map fun k => [.str k]
theorem cT_len (l : List (List UInt8)) : (cT l).length = l.length := by simp [cT]
theorem cT_get {l a : List (List UInt8)} {x : List UInt8} {b : List (List UInt8)} (h : l = a ++ x :: b) : (cT l).getD a.length [] = [.str x] := getD_mid' h
theorem two_mid {α : Type} {a b done rest : List α} {x : α} (h : a = done ++ x :: rest) (hl : a.length = b.length) (hp : b.take done.length = done) : ∃ y r, b = done ++ y :: r := by
  have h1 : done.length < b.length := by rw [← hl, h]; simp
  refine ⟨b[done.length], b.drop (done.length + 1), ?_⟩
  conv => lhs; rw [← List.take_append_drop done.length b, hp, List.drop_eq_getElem_cons h1]
theorem two_step {α : Type} {b done r : List α} {y : α} (h : b = done ++ y :: r) : b.take (done ++ [y]).length = done ++ [y] := by
  subst h
  have e : done ++ y :: r = (done ++ [y]) ++ r := by simp
  rw [e, List.take_left']; rfl
theorem two_end {α : Type} {a b : List α} (hl : a.length = b.length) (hp : b.take a.length = a) : a = b := by
  rw [hl, List.take_length] at hp; exact hp.symm
theorem two_ne {α : Type} {a b done rest r : List α} {x y : α} (h : a = done ++ x :: rest) (h' : b = done ++ y :: r) (hxy : x ≠ y) : a ≠ b := fun e => by
  rw [h, h'] at e
  exact hxy (List.cons.inj (List.append_cancel_left e)).1
end Go.Proofs.YticbbfbpeimkbaaGreatDoor
namespace Go.Proofs.YticbbfbpeimkbaaGreatDoor
open Go.Ab
mutual
def depthV : Val → Int
  | .mk k _ _ l m => if k = 6 then depthVs l 0 + 1 else if k = 7 then depthMs m 0 + 1 else 0
def depthVs : List Val → Int → Int
  | [], n => n
  | v :: r, n => depthVs r (mm2 true n (depthV v))
def depthM : Mem → Int
  | .mk _ v => depthV v
def depthMs : List Mem → Int → Int
  | [], n => n
  | x :: r, n => depthMs r (mm2 true n (depthM x))
end
theorem mm2_ge (a b : Int) : a ≤ mm2 true a b := by simp only [mm2, if_true]; split <;> omega
mutual
theorem depthV_le : ∀ v, 0 ≤ depthV v ∧ depthV v ≤ bV v
  | .mk k n s l m => by
    have h1 := depthVs_le l 0
    have h2 := depthMs_le m 0
    simp only [depthV, bV]
    split
    · omega
    · split <;> omega
theorem depthVs_le : ∀ l (n : Int), n ≤ depthVs l n ∧ (depthVs l n ≤ n ∨ depthVs l n ≤ bVs l)
  | [], n => by simp [depthVs, bVs]
  | v :: r, n => by
    have h1 := depthV_le v
    have h2 := depthVs_le r (mm2 true n (depthV v))
    have h3 := mm2_ge n (depthV v)
    have h4 : mm2 true n (depthV v) = n ∨ mm2 true n (depthV v) = depthV v := by simp only [mm2, if_true]; split <;> simp
    simp only [depthVs, bVs]
    omega
theorem depthM_le : ∀ x, 0 ≤ depthM x ∧ depthM x ≤ bM x
  | .mk s v => by have := depthV_le v; simp only [depthM, bM]; omega
theorem depthMs_le : ∀ l (n : Int), n ≤ depthMs l n ∧ (depthMs l n ≤ n ∨ depthMs l n ≤ bMs l)
  | [], n => by simp [depthMs, bMs]
  | v :: r, n => by
    have h1 := depthM_le v
    have h2 := depthMs_le r (mm2 true n (depthM v))
    have h3 := mm2_ge n (depthM v)
    have h4 : mm2 true n (depthM v) = n ∨ mm2 true n (depthM v) = depthM v := by simp only [mm2, if_true]; split <;> simp
    simp only [depthMs, bMs]
    omega
end
theorem depthC : ∀ v, bV v ≤ Lim → Pure Tryz.prog 116 [.agg (cV v)] (.int .i64 (depthV v)) := by
  refine Val.ind fun k n s l m ihl ihm hb => ?_
  refine Pure.go ir116 ck116 (Nat.le_refl _) fun KP Q hQ => ?_
  have hl := cVs_len l
  have hm := cMs_len m
  have hll := bVs_len l
  have hml := bMs_len m
  have hb' : 1 + s.length + bVs l + bMs m ≤ Lim := hb
  simp only [Lim] at hb'
  have d1 := depthVs_le l 0
  have d2 := depthMs_le m 0
  by_cases k6 : k = 6
  · subst k6
    simp (disch := first | omega | assumption) only [ir116, cV_mk, hl, go_sem, ↓reduceIte]
    refine goL_range l 15 (fun n : Int => [(3, .int .i64 n)]) (fun done rest n H => depthVs rest n = depthVs l 0) 0 (by simp (disch := first | omega | assumption) only [go_sem, ↓reduceIte]) rfl ?_ ?_
    · rintro n H J hn hlt
      simp only [depthVs] at hn
      simp (disch := first | omega | assumption) only [hl, hlt, wrap64, hn, go_sem, ↓reduceIte]
      exact hQ _ _ _ _ nofun rfl (by simp [tupOf, envOf, AV.strip, AV.strip1, depthV])
    · rintro done x rest n H J hd hlt _ hn hJ
      have hg := cVs_get hd
      have hbm := bVs_mid done x rest
      rw [← hd] at hbm
      simp only [depthVs] at hn
      simp (disch := first | omega | assumption) only [cV_len, cV_take, cV_splice, cM_len, cM_take, cM_splice, cM_mk, hl, hlt, hg, go_sem, ↓reduceIte]
      refine goA_intro fun b hb => ?_
      simp (disch := first | omega | assumption) only [cV_len, cV_take, cV_splice, cM_len, cM_take, cM_splice, cM_mk, go_sem, ↓reduceIte]
      refine goK_pure (ihl x (by rw [hd]; simp) (by simp only [Lim]; omega)) ?_
      simp (disch := first | omega | assumption) only [wrap64, go_sem, ↓reduceIte]
      exact goJ (hJ _ _ hn) (by simp (disch := first | omega | assumption) only [go_sem, ↓reduceIte])
  by_cases k7 : k = 7
  · subst k7
    simp (disch := first | omega | assumption) only [ir116, cV_mk, hm, go_sem, ↓reduceIte]
    refine goL_range m 29 (fun n : Int => [(3, .int .i64 n)]) (fun done rest n H => depthMs rest n = depthMs m 0) 0 (by simp (disch := first | omega | assumption) only [go_sem, ↓reduceIte]) rfl ?_ ?_
    · rintro n H J hn hlt
      simp only [depthMs] at hn
      simp (disch := first | omega | assumption) only [hm, hlt, wrap64, hn, go_sem, ↓reduceIte]
      exact hQ _ _ _ _ nofun rfl (by simp [tupOf, envOf, AV.strip, AV.strip1, depthV])
    · rintro done x rest n H J hd hlt _ hn hJ
      have hg := cMs_get hd
      have hbm := bMs_mid done x rest
      rw [← hd] at hbm
      cases x with
      | mk t v =>
      simp only [depthMs, depthM, bM] at hn hbm
      simp (disch := first | omega | assumption) only [cV_len, cV_take, cV_splice, cM_len, cM_take, cM_splice, cM_mk, hm, hlt, hg, go_sem, ↓reduceIte]
      refine goA_intro fun b hb => ?_
      simp (disch := first | omega | assumption) only [cV_len, cV_take, cV_splice, cM_len, cM_take, cM_splice, cM_mk, go_sem, ↓reduceIte]
      refine goK_pure (ihm t v (by rw [hd]; simp) (by simp only [Lim]; omega)) ?_
      simp (disch := first | omega | assumption) only [wrap64, go_sem, ↓reduceIte]
      exact goJ (hJ _ _ hn) (by simp (disch := first | omega | assumption) only [go_sem, ↓reduceIte])
  · simp (disch := first | omega | assumption) only [ir116, cV_mk, k6, k7, go_sem, ↓reduceIte]
    exact hQ _ _ _ _ nofun rfl (by simp [tupOf, envOf, AV.strip, AV.strip1, depthV, k6, k7])
def zV : Val := .mk 0 0 [] [] []
theorem cV_zero : cV zV = [.int .i64 0, .int .i64 0, .str [], .sl .no 5 [], .sl .no 6 []] := rfl
end Go.Proofs.YticbbfbpeimkbaaGreatDoor
namespace Go.Proofs.YticbbfbpeimkbaaGreatDoor
open Go.Ab
structure Tok where
  k : Int
  s : List UInt8
def cK (t : Tok) : List AV := [.int .i64 t.k, .str t.s]
def cKs (l : List Tok) : List (List AV) := l.map cK
theorem cKs_append (a b : List Tok) : cKs (a ++ b) = cKs a ++ cKs b := by simp [cKs]
theorem cKs_len (l : List Tok) : (cKs l).length = l.length := by simp [cKs]
theorem cKs_strip (l : List Tok) : (cKs l).map (·.map AV.strip1) = cKs l := by simp [cKs, cK, AV.strip1]
theorem cKs_get {l a : List Tok} {x : Tok} {b : List Tok} (h : l = a ++ x :: b) : (cKs l).getD a.length [] = [.int .i64 x.k, .str x.s] := getD_mid' h
theorem tok_eq (x y : Tok) : (decide (x.k = y.k) && decide (x.s = y.s)) = eqd x y := by
  by_cases h : x = y
  · subst h; simp [eqd_true rfl]
  · rw [eqd_false h]
    obtain ⟨k1, s1⟩ := x
    obtain ⟨k2, s2⟩ := y
    simp only [Tok.mk.injEq, not_and] at h
    simp only [Bool.and_eq_false_iff, decide_eq_false_iff_not]
    by_cases hk : k1 = k2
    · exact .inr (h hk)
    · exact .inl hk
theorem sameTokensR (a b : List Tok) (ha : a.length ≤ Lim) : Pure Tryz.prog 29 [.sl .no 2 (cKs a), .sl .no 2 (cKs b)] (.bool (eqd a b)) := by
  refine Pure.go ir29 ck29 (Nat.le_refl _) fun KP Q hQ => ?_
  have h1 := cKs_len a
  have h2 := cKs_len b
  simp only [Lim] at ha
  by_cases hl : a.length = b.length
  case neg =>
    have hl' : ¬ ((a.length : Int) = b.length) := by omega
    have hne : a ≠ b := fun e => hl (by rw [e])
    simp (disch := first | omega | assumption) only [ir29, h1, h2, hl', go_sem, ↓reduceIte]
    exact hQ _ _ _ _ nofun rfl (by simp [tupOf, envOf, AV.strip, AV.strip1, eqd_false hne])
  have hl' : ((a.length : Int) = b.length) = True := eq_true (by omega)
  simp (disch := first | omega | assumption) only [ir29, h1, h2, hl', go_sem, ↓reduceIte]
  refine goL_range a 5 (fun _ : Unit => []) (fun done rest n H => b.take done.length = done) () (by simp (disch := first | omega | assumption) only [go_sem, ↓reduceIte]) rfl ?_ ?_
  · rintro n H J hp hlt
    simp (disch := first | omega | assumption) only [h1, hlt, go_sem, ↓reduceIte]
    exact hQ _ _ _ _ nofun rfl (by simp [tupOf, envOf, AV.strip, AV.strip1, eqd_true (two_end hl hp)])
  · rintro done x rest n H J hd hlt _ hp hJ
    obtain ⟨y, r, hb⟩ := two_mid hd hl hp
    have g1 := cKs_get hd
    have g2 := cKs_get hb
    have hlt2 : (done.length : Int) < b.length := by omega
    have hk := tok_eq x y
    by_cases hxy : x = y
    · rw [eqd_true hxy] at hk
      simp (disch := first | omega | assumption) only [h1, h2, hlt, hlt2, g1, g2, fitsAll, K1.fits, keqs, AV.keq1, Bool.and_true, Bool.true_and, hk, go_sem, ↓reduceIte]
      exact goJ (hJ () _ (by rw [hxy]; exact two_step hb)) (by simp (disch := first | omega | assumption) only [wrap64, go_sem, ↓reduceIte])
    · rw [eqd_false hxy] at hk
      simp (disch := first | omega | assumption) only [h1, h2, hlt, hlt2, g1, g2, fitsAll, K1.fits, keqs, AV.keq1, Bool.and_true, Bool.true_and, hk, go_sem, ↓reduceIte]
      exact hQ _ _ _ _ nofun rfl (by simp [tupOf, envOf, AV.strip, AV.strip1, eqd_false (two_ne hd hb hxy)])
theorem eqFuncV (f : FuncId) (hf : Program.callable Tryz.prog f = true) (a b : List Val) (ha : a.length ≤ Lim) (hc : ∀ x ∈ a, ∀ y, Pure Tryz.prog f [.agg (cV x), .agg (cV y)] (.bool (eqd x y))) :
    Pure Tryz.prog 128 [.sl .no 5 (cVs a), .sl .no 5 (cVs b), .clo f [] []] (.bool (eqd a b)) := by
  refine Pure.go ir128 ck128 (Nat.le_refl _) fun KP Q hQ => ?_
  have h1 := cVs_len a
  have h2 := cVs_len b
  simp only [Lim] at ha
  by_cases hl : a.length = b.length
  case neg =>
    have hl' : ¬ ((a.length : Int) = b.length) := by omega
    have hne : a ≠ b := fun e => hl (by rw [e])
    simp (disch := first | omega | assumption) only [ir128, h1, h2, hl', go_sem, ↓reduceIte]
    exact hQ _ _ _ _ nofun rfl (by simp [tupOf, envOf, AV.strip, AV.strip1, eqd_false hne])
  have hl' : ((a.length : Int) = b.length) = True := eq_true (by omega)
  simp (disch := first | omega | assumption) only [ir128, h1, h2, hl', go_sem, ↓reduceIte]
  refine goL_range a 17 (fun _ : Unit => []) (fun done rest n H => b.take done.length = done) () (by simp (disch := first | omega | assumption) only [go_sem, ↓reduceIte]) rfl ?_ ?_
  · rintro n H J hp hlt
    simp (disch := first | omega | assumption) only [h1, hlt, go_sem, ↓reduceIte]
    exact hQ _ _ _ _ nofun rfl (by simp [tupOf, envOf, AV.strip, AV.strip1, eqd_true (two_end hl hp)])
  · rintro done x rest n H J hd hlt _ hp hJ
    obtain ⟨y, r, hb⟩ := two_mid hd hl hp
    have g1 := cVs_get hd
    have g2 := cVs_get hb
    have hlt2 : (done.length : Int) < b.length := by omega
    simp (disch := first | omega | assumption) only [cV_len, cV_take, cV_splice, cM_len, cM_take, cM_splice, cM_mk, h1, h2, hlt, hlt2, g1, g2, go_sem, ↓reduceIte]
    refine goA_intro fun b1 hb1 => ?_
    simp (disch := first | omega | assumption) only [cV_len, cV_take, cV_splice, cM_len, cM_take, cM_splice, cM_mk, h1, h2, hlt, hlt2, g1, g2, go_sem, ↓reduceIte]
    refine goA_intro fun b2 hb2 => ?_
    have hne := ne_fresh hb2
    simp (disch := first | omega | assumption) only [cV_len, cV_take, cV_splice, cM_len, cM_take, cM_splice, cM_mk, Ne.symm hne, hne, go_sem, ↓reduceIte]
    refine ⟨hf, goK_pure (hc x (by rw [hd]; simp) y) ?_⟩
    by_cases hxy : x = y
    · simp (disch := first | omega | assumption) only [eqd_true hxy, go_sem, ↓reduceIte]
      exact goJ (hJ () _ (by rw [hxy]; exact two_step hb)) (by simp (disch := first | omega | assumption) only [wrap64, go_sem, ↓reduceIte])
    · simp (disch := first | omega | assumption) only [eqd_false hxy, go_sem, ↓reduceIte]
      exact hQ _ _ _ _ nofun rfl (by simp [tupOf, envOf, AV.strip, AV.strip1, eqd_false (two_ne hd hb hxy)])
theorem eqFuncM (f : FuncId) (hf : Program.callable Tryz.prog f = true) (a b : List Mem) (ha : a.length ≤ Lim) (hc : ∀ x ∈ a, ∀ y, Pure Tryz.prog f [.agg (cM x), .agg (cM y)] (.bool (eqd x y))) :
    Pure Tryz.prog 129 [.sl .no 6 (cMs a), .sl .no 6 (cMs b), .clo f [] []] (.bool (eqd a b)) := by
  refine Pure.go ir129 ck129 (Nat.le_refl _) fun KP Q hQ => ?_
  have h1 := cMs_len a
  have h2 := cMs_len b
  simp only [Lim] at ha
  by_cases hl : a.length = b.length
  case neg =>
    have hl' : ¬ ((a.length : Int) = b.length) := by omega
    have hne : a ≠ b := fun e => hl (by rw [e])
    simp (disch := first | omega | assumption) only [ir129, h1, h2, hl', go_sem, ↓reduceIte]
    exact hQ _ _ _ _ nofun rfl (by simp [tupOf, envOf, AV.strip, AV.strip1, eqd_false hne])
  have hl' : ((a.length : Int) = b.length) = True := eq_true (by omega)
  simp (disch := first | omega | assumption) only [ir129, h1, h2, hl', go_sem, ↓reduceIte]
  refine goL_range a 17 (fun _ : Unit => []) (fun done rest n H => b.take done.length = done) () (by simp (disch := first | omega | assumption) only [go_sem, ↓reduceIte]) rfl ?_ ?_
  · rintro n H J hp hlt
    simp (disch := first | omega | assumption) only [h1, hlt, go_sem, ↓reduceIte]
    exact hQ _ _ _ _ nofun rfl (by simp [tupOf, envOf, AV.strip, AV.strip1, eqd_true (two_end hl hp)])
  · rintro done x rest n H J hd hlt _ hp hJ
    obtain ⟨y, r, hb⟩ := two_mid hd hl hp
    have g1 := cMs_get hd
    have g2 := cMs_get hb
    have hlt2 : (done.length : Int) < b.length := by omega
    simp (disch := first | omega | assumption) only [cV_len, cV_take, cV_splice, cM_len, cM_take, cM_splice, cM_mk, h1, h2, hlt, hlt2, g1, g2, go_sem, ↓reduceIte]
    refine goA_intro fun b1 hb1 => ?_
    simp (disch := first | omega | assumption) only [cV_len, cV_take, cV_splice, cM_len, cM_take, cM_splice, cM_mk, h1, h2, hlt, hlt2, g1, g2, go_sem, ↓reduceIte]
    refine goA_intro fun b2 hb2 => ?_
    have hne := ne_fresh hb2
    simp (disch := first | omega | assumption) only [cV_len, cV_take, cV_splice, cM_len, cM_take, cM_splice, cM_mk, Ne.symm hne, hne, go_sem, ↓reduceIte]
    refine ⟨hf, goK_pure (hc x (by rw [hd]; simp) y) ?_⟩
    by_cases hxy : x = y
    · simp (disch := first | omega | assumption) only [eqd_true hxy, go_sem, ↓reduceIte]
      exact goJ (hJ () _ (by rw [hxy]; exact two_step hb)) (by simp (disch := first | omega | assumption) only [wrap64, go_sem, ↓reduceIte])
    · simp (disch := first | omega | assumption) only [eqd_false hxy, go_sem, ↓reduceIte]
      exact hQ _ _ _ _ nofun rfl (by simp [tupOf, envOf, AV.strip, AV.strip1, eqd_false (two_ne hd hb hxy)])
theorem mem_same (s t : List UInt8) (v u : Val) (hc : Pure Tryz.prog 59 [.agg (cV v), .agg (cV u)] (.bool (eqd v u))) : Pure Tryz.prog 130 [.agg (cM (.mk s v)), .agg (cM (.mk t u))] (.bool (eqd (Mem.mk s v) (Mem.mk t u))) := by
  refine Pure.go ir130 ck130 (Nat.le_refl _) fun KP Q hQ => ?_
  by_cases h1 : s = t
  · simp (disch := first | omega | assumption) only [cV_len, cV_take, cV_splice, cM_len, cM_take, cM_splice, cM_mk, ir130, h1, go_sem, ↓reduceIte]
    refine goK_pure hc ?_
    simp (disch := first | omega | assumption) only [go_sem, ↓reduceIte]
    have : eqd (Mem.mk t v) (Mem.mk t u) = eqd v u := by
      by_cases h : v = u
      · rw [eqd_true h, eqd_true (by rw [h])]
      · rw [eqd_false h, eqd_false (by simp [h])]
    exact hQ _ _ _ _ nofun rfl (by simp [tupOf, envOf, AV.strip, AV.strip1, this, h1])
  · simp (disch := first | omega | assumption) only [cV_len, cV_take, cV_splice, cM_len, cM_take, cM_splice, cM_mk, ir130, h1, go_sem, ↓reduceIte]
    have : eqd (Mem.mk s v) (Mem.mk t u) = false := eqd_false (by simp [h1])
    exact hQ _ _ _ _ nofun rfl (by simp [tupOf, envOf, AV.strip, AV.strip1, this])
theorem sameP : ∀ v, bV v ≤ Lim → ∀ u, Pure Tryz.prog 59 [.agg (cV v), .agg (cV u)] (.bool (eqd v u)) := by
  refine Val.ind fun k n s l m ihl ihm hb u => ?_
  obtain ⟨k', n', s', l', m'⟩ := u
  have hb' : 1 + s.length + bVs l + bMs m ≤ Lim := hb
  have hll := bVs_len l
  have hml := bMs_len m
  have il : ∀ x ∈ l, ∀ y, Pure Tryz.prog 59 [.agg (cV x), .agg (cV y)] (.bool (eqd x y)) := fun x hx y => by
    obtain ⟨a, b, hd⟩ := List.append_of_mem hx
    have := bVs_mid a x b
    rw [← hd] at this
    exact ihl x hx (by omega) y
  have im : ∀ x ∈ m, ∀ y, Pure Tryz.prog 130 [.agg (cM x), .agg (cM y)] (.bool (eqd x y)) := fun x hx y => by
    obtain ⟨a, b, hd⟩ := List.append_of_mem hx
    have := bMs_mid a x b
    rw [← hd] at this
    obtain ⟨t, v⟩ := x
    obtain ⟨t', v'⟩ := y
    simp only [bM] at this
    exact mem_same t t' v v' (ihm t v hx (by omega) v')
  refine Pure.go ir59 ck59 (Nat.le_refl _) fun KP Q hQ => ?_
  by_cases h1 : k = k'
  case neg =>
    have hne : ¬ (Val.mk k n s l m = Val.mk k' n' s' l' m') := by simp [h1]
    simp (disch := first | omega | assumption) only [ir59, cV_mk, h1, go_sem, ↓reduceIte]
    exact hQ _ _ _ _ nofun rfl (by simp [tupOf, envOf, AV.strip, AV.strip1, eqd_false hne])
  by_cases h2 : n = n'
  case neg =>
    have hne : ¬ (Val.mk k n s l m = Val.mk k' n' s' l' m') := by simp [h2]
    simp (disch := first | omega | assumption) only [ir59, cV_mk, h1, h2, go_sem, ↓reduceIte]
    exact hQ _ _ _ _ nofun rfl (by simp [tupOf, envOf, AV.strip, AV.strip1, eqd_false hne])
  by_cases h3 : s = s'
  case neg =>
    have hne : ¬ (Val.mk k n s l m = Val.mk k' n' s' l' m') := by simp [h3]
    simp (disch := first | omega | assumption) only [ir59, cV_mk, h1, h2, h3, go_sem, ↓reduceIte]
    exact hQ _ _ _ _ nofun rfl (by simp [tupOf, envOf, AV.strip, AV.strip1, eqd_false hne])
  simp (disch := first | omega | assumption) only [ir59, cV_mk, h1, h2, h3, go_sem, ↓reduceIte]
  refine goK_pure (eqFuncV _ (by kernel_rfl) l l' (by omega) il) ?_
  by_cases h4 : l = l'
  case neg =>
    have hne : ¬ (Val.mk k n s l m = Val.mk k' n' s' l' m') := by simp [h4]
    simp (disch := first | omega | assumption) only [eqd_false h4, go_sem, ↓reduceIte]
    exact hQ _ _ _ _ nofun rfl (by simp [tupOf, envOf, AV.strip, AV.strip1, eqd_false hne])
  simp (disch := first | omega | assumption) only [eqd_true h4, go_sem, ↓reduceIte]
  refine goK_pure (eqFuncM _ (by kernel_rfl) m m' (by omega) im) ?_
  simp (disch := first | omega | assumption) only [go_sem, ↓reduceIte]
  have : eqd (Val.mk k n s l m) (Val.mk k' n' s' l' m') = eqd m m' := by
    by_cases h : m = m'
    · rw [eqd_true h, eqd_true (by rw [h1, h2, h3, h4, h])]
    · rw [eqd_false h, eqd_false (by simp [h])]
  exact hQ _ _ _ _ nofun rfl (by simp [tupOf, envOf, AV.strip, AV.strip1, this])
end Go.Proofs.YticbbfbpeimkbaaGreatDoor
namespace Go.Proofs.YticbbfbpeimkbaaGreatDoor
open Go.Ab
end Go.Proofs.YticbbfbpeimkbaaGreatDoor
namespace Go.Proofs.YticbbfbpeimkbaaGreatDoor
open Go.Ab
end Go.Proofs.YticbbfbpeimkbaaGreatDoor
namespace Go.Proofs.YticbbfbpeimkbaaGreatDoor
open Go.Ab
abbrev OwnR (H : Heap) (o : Own) (sz : Nat) (xs : List (List AV)) : AV → Heap → Prop := fun v H' => ∃ o', v = .sl o' sz xs ∧ OwnS H o H' o' xs.length sz
abbrev Gives (P : Program) (f : FuncId) (args : List AV) (H : Heap) (o : Own) (sz : Nat) (xs : List (List AV)) : Prop :=
  ACalls P f args H (fun e H' => match e with | .ret v => OwnR H o sz xs v H' | .pan _ => False)
theorem goK_gives {P : Program} {KP : AV → Heap → Prop} {Q : AExit → Env → Heap → Prop} {st : List Fr} {ρ : Env} {H : Heap} {all l : List AItem} {d : Option Nat} {R : List Chk} {f : FuncId} {args : List AV} {o : Own} {sz : Nat} {xs : List (List AV)}
    (h : Gives P f args H o sz xs) (hk : ∀ o' H', OwnS H o H' o' xs.length sz → goR P KP Q all l st R (ρ.set d (.sl o' sz xs)) H') : goK P KP Q all l st d R ρ f args H :=
  goK_both (XP := fun _ _ => False) h (fun v H' ⟨o', e, hs⟩ => by subst e; exact hk o' H' hs) (fun _ _ h => h.elim)
def hasT (s : List UInt8) : List (List UInt8) → Bool
  | [] => false
  | x :: r => if x = s then true else hasT s r
def idxT (s : List UInt8) : List (List UInt8) → Int → Int
  | [], _ => -1
  | x :: r, i => if s = x then i else idxT s r (i + 1)
theorem idxT_has (s : List UInt8) : ∀ l (i : Int), 0 ≤ i → decide (0 ≤ idxT s l i) = hasT s l
  | [], i, _ => by simp [idxT, hasT]
  | x :: r, i, hi => by
    simp only [idxT, hasT]
    by_cases h : s = x
    · simp [h]; omega
    · simp only [h, Ne.symm h, if_false]; exact idxT_has s r (i + 1) (by omega)
theorem indexC (l : List (List UInt8)) (s : List UInt8) (hl : l.length ≤ Lim) : Pure Tryz.prog 289 [.sl .no 1 (cT l), .str s] (.int .i64 (idxT s l 0)) := by
  refine Pure.go ir289 ck289 (Nat.le_refl _) fun KP Q hQ => ?_
  have h1 := cT_len l
  simp only [Lim] at hl
  simp (disch := first | omega | assumption) only [ir289, h1, go_sem, ↓reduceIte]
  refine goL_range l 8 (fun _ : Unit => []) (fun done rest n H => idxT s rest done.length = idxT s l 0) () (by simp (disch := first | omega | assumption) only [go_sem, ↓reduceIte]) rfl ?_ ?_
  · rintro n H J hn hlt
    simp (disch := first | omega | assumption) only [h1, hlt, go_sem, ↓reduceIte]
    simp only [idxT] at hn
    exact hQ _ _ _ _ nofun rfl (by simp [tupOf, envOf, AV.strip, AV.strip1, ← hn])
  · rintro done x rest n H J hd hlt _ hn hJ
    have hg := cT_get hd
    simp only [idxT] at hn
    by_cases hx : s = x
    · subst hx
      simp only [if_true] at hn
      simp (disch := first | omega | assumption) only [h1, hlt, hg, go_sem, ↓reduceIte]
      exact hQ _ _ _ _ nofun rfl (by simp [tupOf, envOf, AV.strip, AV.strip1, ← hn])
    · simp only [hx, if_false] at hn
      simp (disch := first | omega | assumption) only [h1, hlt, hg, hx, go_sem, ↓reduceIte]
      exact goJ (hJ () _ (by simpa using hn)) (by simp (disch := first | omega | assumption) only [wrap64, go_sem, ↓reduceIte])
theorem containsC (l : List (List UInt8)) (s : List UInt8) (hl : l.length ≤ Lim) : Pure Tryz.prog 229 [.sl .no 1 (cT l), .str s] (.bool (hasT s l)) := by
  refine Pure.go ir229 ck229 (Nat.le_refl _) fun KP Q hQ => ?_
  simp (disch := first | omega | assumption) only [ir229, go_sem, ↓reduceIte]
  refine goK_pure (indexC l s hl) ?_
  simp (disch := first | omega | assumption) only [go_sem, ↓reduceIte]
  have := idxT_has s l 0 (by omega)
  exact hQ _ _ _ _ nofun rfl (by simp [tupOf, envOf, AV.strip, AV.strip1, this])
mutual
def varsV : Val → List (List UInt8) → List (List UInt8)
  | .mk k _ s l m, acc => if k = 8 then (if hasT s acc then acc else acc ++ [s]) else if k = 6 then varsVs l acc else if k = 7 then varsMs m acc else acc
def varsVs : List Val → List (List UInt8) → List (List UInt8)
  | [], acc => acc
  | v :: r, acc => varsVs r (varsV v acc)
def varsM : Mem → List (List UInt8) → List (List UInt8)
  | .mk _ v, acc => varsV v acc
def varsMs : List Mem → List (List UInt8) → List (List UInt8)
  | [], acc => acc
  | x :: r, acc => varsMs r (varsM x acc)
end
mutual
theorem varsV_le : ∀ v acc, (varsV v acc).length ≤ acc.length + bV v
  | .mk k n s l m, acc => by
    have h1 := varsVs_le l acc
    have h2 := varsMs_le m acc
    simp only [varsV, bV]
    split
    · split
      · omega
      · simp; omega
    · split
      · omega
      · split <;> omega
theorem varsVs_le : ∀ l acc, (varsVs l acc).length ≤ acc.length + bVs l
  | [], acc => by simp [varsVs]
  | v :: r, acc => by
    have h1 := varsV_le v acc
    have h2 := varsVs_le r (varsV v acc)
    simp only [varsVs, bVs]; omega
theorem varsM_le : ∀ x acc, (varsM x acc).length ≤ acc.length + bM x
  | .mk s v, acc => by have := varsV_le v acc; simp only [varsM, bM]; omega
theorem varsMs_le : ∀ l acc, (varsMs l acc).length ≤ acc.length + bMs l
  | [], acc => by simp [varsMs]
  | x :: r, acc => by
    have h1 := varsM_le x acc
    have h2 := varsMs_le r (varsM x acc)
    simp only [varsMs, bMs]; omega
end
theorem varsP : ∀ v, ∀ acc H o, acc.length + bV v ≤ Lim → Owned H o acc.length 1 → Gives Tryz.prog 131 [.sl o 1 (cT acc), .agg (cV v)] H o 1 (cT (varsV v acc)) := by
  refine Val.ind fun k n s l m ihl ihm acc H o hb ho => ?_
  have hb' : acc.length + (1 + s.length + bVs l + bMs m) ≤ Lim := hb
  have hll := bVs_len l
  have hml := bMs_len m
  have h1 := cVs_len l
  have h2 := cMs_len m
  have h3 := cT_len acc
  simp only [Lim] at hb'
  refine ACalls.goO ir131 ck131 (Nat.le_refl _) fun KP Q hQ hP => ?_
  by_cases k8 : k = 8
  · subst k8
    simp (disch := first | omega | assumption) only [ir131, cV_mk, go_sem, ↓reduceIte]
    refine goK_pure (Pure.low (containsC acc s (by simp only [Lim]; omega))) ?_
    cases hh : hasT s acc with
    | true =>
      simp (disch := first | omega | assumption) only [hh, go_sem, ↓reduceIte]
      refine hQ _ _ H H _ nofun rfl (Low.refl _) ⟨o, ?_, ?_⟩
      · simp [tupOf, envOf, varsV, hh]
      · simpa [varsV, hh, h3] using OwnS.refl ho
    | false =>
      simp (disch := first | omega | assumption) only [hh, go_sem, ↓reduceIte]
      refine goP_ownS (by rw [h3]; exact ho) ?_ ?_ fun o' H' hs => ?_
      · simp only [h3, List.length_cons, List.length_nil]; omega
      · simp only [h3, List.length_cons, List.length_nil, maxLen]; omega
      simp (disch := first | omega | assumption) only [go_sem, ↓reduceIte]
      refine hQ _ _ H' H' _ nofun rfl (Low.refl _) ⟨o', ?_, ?_⟩
      · simp [tupOf, envOf, varsV, hh, cT, AV.strip1]
      · simpa [varsV, hh, h3, cT_len] using hs
  by_cases k6 : k = 6
  · subst k6
    simp (disch := first | omega | assumption) only [ir131, cV_mk, h1, go_sem, ↓reduceIte]
    refine goL_range l 28 (fun x : Own × List (List UInt8) => [(0, .sl x.1 1 (cT x.2))]) (fun done rest x H' => varsVs rest x.2 = varsVs l acc ∧ x.2.length + bVs rest ≤ acc.length + bVs l ∧ OwnS H o H' x.1 x.2.length 1) (o, acc) (by simp (disch := first | omega | assumption) only [go_sem, ↓reduceIte]) ⟨rfl, by simp, OwnS.refl ho⟩ ?_ ?_
    · rintro ⟨o1, a⟩ H' J ⟨hn, _, hs⟩ hlt
      simp only [varsVs] at hn
      subst hn
      simp (disch := first | omega | assumption) only [h1, hlt, go_sem, ↓reduceIte]
      refine hQ _ _ H' H' _ nofun rfl (Low.refl _) ⟨o1, ?_, ?_⟩
      · simp [tupOf, envOf, varsV]
      · simpa [varsV, cT_len] using hs
    · rintro done x rest ⟨o1, a⟩ H' J hd hlt _ ⟨hn, hle, hs⟩ hJ
      have hg := cVs_get hd
      have hx := varsV_le x a
      simp only [varsVs, bVs] at hn hle
      simp (disch := first | omega | assumption) only [cV_len, cV_take, cV_splice, cM_len, cM_take, cM_splice, cM_mk, h1, hlt, hg, go_sem, ↓reduceIte]
      refine goA_intro fun b hb => ?_
      simp (disch := first | omega | assumption) only [cV_len, cV_take, cV_splice, cM_len, cM_take, cM_splice, cM_mk, go_sem, ↓reduceIte]
      refine goK_gives (ihl x (by rw [hd]; simp) a _ o1 (by simp only [Lim]; omega) (hs.own.upd hb)) fun o2 H2 hs2 => ?_
      rw [cT_len] at hs2
      simp (disch := first | omega | assumption) only [wrap64, go_sem, ↓reduceIte]
      exact goJ (hJ (o2, varsV x a) H2 ⟨hn, by simp only; omega, (hs.upd hb).trans hs2⟩) (by simp (disch := first | omega | assumption) only [go_sem, ↓reduceIte])
  by_cases k7 : k = 7
  · subst k7
    simp (disch := first | omega | assumption) only [ir131, cV_mk, h2, go_sem, ↓reduceIte]
    refine goL_range m 41 (fun x : Own × List (List UInt8) => [(0, .sl x.1 1 (cT x.2))]) (fun done rest x H' => varsMs rest x.2 = varsMs m acc ∧ x.2.length + bMs rest ≤ acc.length + bMs m ∧ OwnS H o H' x.1 x.2.length 1) (o, acc) (by simp (disch := first | omega | assumption) only [go_sem, ↓reduceIte]) ⟨rfl, by simp, OwnS.refl ho⟩ ?_ ?_
    · rintro ⟨o1, a⟩ H' J ⟨hn, _, hs⟩ hlt
      simp only [varsMs] at hn
      subst hn
      simp (disch := first | omega | assumption) only [h2, hlt, go_sem, ↓reduceIte]
      refine hQ _ _ H' H' _ nofun rfl (Low.refl _) ⟨o1, ?_, ?_⟩
      · simp [tupOf, envOf, varsV]
      · simpa [varsV, cT_len] using hs
    · rintro done x rest ⟨o1, a⟩ H' J hd hlt _ ⟨hn, hle, hs⟩ hJ
      have hg := cMs_get hd
      have hx := varsM_le x a
      simp only [varsMs, bMs] at hn hle
      have hmem : x ∈ m := by rw [hd]; simp
      obtain ⟨t, v⟩ := x
      simp only [varsM, bM] at hx hn hle
      simp (disch := first | omega | assumption) only [cV_len, cV_take, cV_splice, cM_len, cM_take, cM_splice, cM_mk, h2, hlt, hg, go_sem, ↓reduceIte]
      refine goA_intro fun b hb => ?_
      simp (disch := first | omega | assumption) only [cV_len, cV_take, cV_splice, cM_len, cM_take, cM_splice, cM_mk, go_sem, ↓reduceIte]
      refine goK_gives (ihm t v hmem a _ o1 (by simp only [Lim]; omega) (hs.own.upd hb)) fun o2 H2 hs2 => ?_
      rw [cT_len] at hs2
      simp (disch := first | omega | assumption) only [wrap64, go_sem, ↓reduceIte]
      exact goJ (hJ (o2, varsV v a) H2 ⟨hn, by simp only; omega, (hs.upd hb).trans hs2⟩) (by simp (disch := first | omega | assumption) only [go_sem, ↓reduceIte])
  · simp (disch := first | omega | assumption) only [ir131, cV_mk, k8, k6, k7, go_sem, ↓reduceIte]
    refine hQ _ _ H H _ nofun rfl (Low.refl _) ⟨o, ?_, ?_⟩
    · simp [tupOf, envOf, varsV, k8, k6, k7]
    · simpa [varsV, k8, k6, k7, cT_len] using OwnS.refl ho
theorem varsPT (v : Val) (h : bV v ≤ Lim) : Pure Tryz.prog 60 [.agg (cV v)] (.sl .no 1 (cT (varsV v []))) := by
  refine Pure.go ir60 ck60 (Nat.le_refl _) fun KP Q hQ => ?_
  simp (disch := first | omega | assumption) only [cV_len, cV_take, cV_splice, cM_len, cM_take, cM_splice, cM_mk, ir60, go_sem, ↓reduceIte]
  refine goK_gives (varsP v [] _ .nil (by simpa using h) rfl) fun o' H' hs => ?_
  simp (disch := first | omega | assumption) only [go_sem, ↓reduceIte]
  exact hQ _ _ _ _ nofun rfl (by simp [tupOf, envOf, AV.strip, AV.strip1])
end Go.Proofs.YticbbfbpeimkbaaGreatDoor
namespace Go.Proofs.YticbbfbpeimkbaaGreatDoor
open Go.Ab
def isD (c : UInt8) : Bool := decide (48 ≤ c.toNat) && decide (c.toNat ≤ 57)
def isL (c : UInt8) : Bool := (decide (97 ≤ c.toNat) && decide (c.toNat ≤ 122)) || ((decide (65 ≤ c.toNat) && decide (c.toNat ≤ 90)) || decide (c.toNat = 95))
theorem digitC (c : UInt8) : Pure Tryz.prog 226 [.int .u8 (c.toNat : Int)] (.bool (isD c)) := by
  refine Pure.go ir226 ck226 (Nat.le_refl _) fun KP Q hQ => ?_
  by_cases h : (48 : Int) ≤ c.toNat
  · simp (disch := first | omega | assumption) only [ir226, h, go_sem, ↓reduceIte]
    have h' : 48 ≤ c.toNat := by omega
    have e : decide ((c.toNat : Int) ≤ 57) = decide (c.toNat ≤ 57) := by rw [decide_eq_decide]; omega
    exact hQ _ _ _ _ nofun rfl (by simp [tupOf, envOf, AV.strip, AV.strip1, isD, h', e])
  · simp (disch := first | omega | assumption) only [ir226, h, go_sem, ↓reduceIte]
    have h' : ¬ 48 ≤ c.toNat := by omega
    exact hQ _ _ _ _ nofun rfl (by simp [tupOf, envOf, AV.strip, AV.strip1, isD, h'])
theorem letterC (c : UInt8) : Pure Tryz.prog 223 [.int .u8 (c.toNat : Int)] (.bool (isL c)) := by
  refine Pure.go ir223 ck223 (Nat.le_refl _) fun KP Q hQ => ?_
  have e : decide ((c.toNat : Int) = 95) = decide (c.toNat = 95) := by rw [decide_eq_decide]; omega
  by_cases h : (97 : Int) ≤ c.toNat
  · have h' : 97 ≤ c.toNat := by omega
    by_cases h2 : (c.toNat : Int) ≤ 122
    · have h2' : c.toNat ≤ 122 := by omega
      simp (disch := first | omega | assumption) only [ir223, h, h2, go_sem, ↓reduceIte]
      exact hQ _ _ _ _ nofun rfl (by simp [tupOf, envOf, AV.strip, AV.strip1, isL, h', h2'])
    · have h2' : ¬ c.toNat ≤ 122 := by omega
      have h3 : (65 : Int) ≤ c.toNat := by omega
      have h4 : ¬ (c.toNat : Int) ≤ 90 := by omega
      have h4' : ¬ c.toNat ≤ 90 := by omega
      simp (disch := first | omega | assumption) only [ir223, h, h2, h3, h4, go_sem, ↓reduceIte]
      exact hQ _ _ _ _ nofun rfl (by simp [tupOf, envOf, AV.strip, AV.strip1, isL, h', h2', h4', e])
  · have h' : ¬ 97 ≤ c.toNat := by omega
    by_cases h3 : (65 : Int) ≤ c.toNat
    · have h3' : 65 ≤ c.toNat := by omega
      by_cases h4 : (c.toNat : Int) ≤ 90
      · have h4' : c.toNat ≤ 90 := by omega
        simp (disch := first | omega | assumption) only [ir223, h, h3, h4, go_sem, ↓reduceIte]
        exact hQ _ _ _ _ nofun rfl (by simp [tupOf, envOf, AV.strip, AV.strip1, isL, h', h3', h4'])
      · have h4' : ¬ c.toNat ≤ 90 := by omega
        simp (disch := first | omega | assumption) only [ir223, h, h3, h4, go_sem, ↓reduceIte]
        exact hQ _ _ _ _ nofun rfl (by simp [tupOf, envOf, AV.strip, AV.strip1, isL, h', h3', h4', e])
    · have h3' : ¬ 65 ≤ c.toNat := by omega
      simp (disch := first | omega | assumption) only [ir223, h, h3, go_sem, ↓reduceIte]
      exact hQ _ _ _ _ nofun rfl (by simp [tupOf, envOf, AV.strip, AV.strip1, isL, h', h3', e])
def nameG : List UInt8 → Nat → Bool
  | [], _ => true
  | c :: r, i => if isL c || (decide (i ≠ 0) && isD c) then nameG r (i + 1) else false
def nameM (s : List UInt8) : Bool := nameG s 0 && decide (s ≠ [])
theorem str_get {s a : List UInt8} {x : UInt8} {b : List UInt8} (h : s = a ++ x :: b) : s.getD a.length 0 = x := by subst h; simp
theorem nameC (s : List UInt8) (hs : s.length ≤ Lim) : Pure Tryz.prog 203 [.str s] (.bool (nameM s)) := by
  refine Pure.go ir203 ck203 (Nat.le_refl _) fun KP Q hQ => ?_
  simp only [Lim] at hs
  simp (disch := first | omega | assumption) only [ir203, go_sem, ↓reduceIte]
  refine goL_range s 6 (fun _ : Unit => []) (fun done rest n H => nameG rest done.length = nameG s 0) () (by simp (disch := first | omega | assumption) only [go_sem, ↓reduceIte]) rfl ?_ ?_
  · rintro n H J hn hlt
    simp only [nameG] at hn
    simp (disch := first | omega | assumption) only [hlt, go_sem, ↓reduceIte]
    have e : (!decide (s = [])) = decide (s ≠ []) := by simp
    exact hQ _ _ _ _ nofun rfl (by simp [tupOf, envOf, AV.strip, AV.strip1, nameM, ← hn])
  · rintro done x rest n H J hd hlt _ hn hJ
    have hg := str_get hd
    simp only [nameG] at hn
    simp (disch := first | omega | assumption) only [hlt, hg, go_sem, ↓reduceIte]
    refine goK_pure (letterC x) ?_
    cases hl : isL x with
    | true =>
      simp only [hl, Bool.true_or, if_true] at hn
      simp (disch := first | omega | assumption) only [hl, go_sem, ↓reduceIte]
      exact goJ (hJ () _ (by simpa using hn)) (by simp (disch := first | omega | assumption) only [wrap64, go_sem, ↓reduceIte])
    | false =>
      by_cases h0 : done.length = 0
      · have h0' : (done.length : Int) = 0 := by omega
        simp only [hl, h0, ne_eq, not_true_eq_false, decide_false, Bool.false_and, Bool.or_false, Bool.false_eq_true, if_false] at hn
        simp (disch := first | omega | assumption) only [hl, h0', go_sem, ↓reduceIte]
        exact hQ _ _ _ _ nofun rfl (by simp [tupOf, envOf, AV.strip, AV.strip1, nameM, ← hn])
      · have h0' : ¬ (done.length : Int) = 0 := by omega
        simp (disch := first | omega | assumption) only [hl, h0', hlt, hg, go_sem, ↓reduceIte]
        refine goK_pure (digitC x) ?_
        cases hdg : isD x with
        | true =>
          simp only [hl, hdg, h0, ne_eq, not_false_eq_true, decide_true, Bool.and_self, Bool.or_true, if_true] at hn
          simp (disch := first | omega | assumption) only [hdg, go_sem, ↓reduceIte]
          exact goJ (hJ () _ (by simpa using hn)) (by simp (disch := first | omega | assumption) only [wrap64, go_sem, ↓reduceIte])
        | false =>
          simp only [hl, hdg, Bool.and_false, Bool.or_false, Bool.false_eq_true, if_false] at hn
          simp (disch := first | omega | assumption) only [hdg, go_sem, ↓reduceIte]
          exact hQ _ _ _ _ nofun rfl (by simp [tupOf, envOf, AV.strip, AV.strip1, nameM, ← hn])
def run1 : List UInt8 → Nat
  | [] => 0
  | c :: r => if isD c then run1 r + 1 else 0
theorem run1_le : ∀ l, run1 l ≤ l.length
  | [] => Nat.le_refl _
  | c :: r => by have := run1_le r; simp only [run1, List.length_cons]; split <;> omega
theorem drop_cases (s : List UInt8) (k : Nat) : (s.drop k = [] ∧ s.length ≤ k) ∨ (k < s.length ∧ s.drop k = s.getD k 0 :: s.drop (k + 1)) := by
  rcases Nat.lt_or_ge k s.length with h | h
  · right
    refine ⟨h, ?_⟩
    rw [List.drop_eq_getElem_cons h]
    simp [h]
  · left; exact ⟨List.drop_of_length_le h, h⟩
theorem digitsC (s : List UInt8) (hs : s.length ≤ Lim) : Pure Tryz.prog 285 [.str s] (.int .i64 (run1 s)) := by
  refine Pure.go ir285 ck285 (Nat.le_refl _) fun KP Q hQ => ?_
  simp only [Lim] at hs
  have hr1 := run1_le s
  simp (disch := first | omega | assumption) only [ir285, go_sem, ↓reduceIte]
  refine goL_st (fun n : Nat => [(3, .int .i64 n)]) (fun n H => run1 s = n + run1 (s.drop n) ∧ n ≤ s.length) (fun n => s.length - n) 0 (by simp (disch := first | omega | assumption) only [go_sem, ↓reduceIte]) ⟨by simp, by omega⟩ ?_
  rintro n H J ⟨hn, hle⟩ hJ
  rcases drop_cases s n with ⟨h1, h2⟩ | ⟨h1, h2⟩
  · have hlt : ¬ ((n : Int) < s.length) := by omega
    rw [h1] at hn
    simp only [run1, Nat.add_zero] at hn
    simp (disch := first | omega | assumption) only [hlt, go_sem, ↓reduceIte]
    exact hQ _ _ _ _ nofun rfl (by simp [tupOf, envOf, AV.strip, AV.strip1, hn])
  · have hlt : ((n : Int) < s.length) := by omega
    rw [h2] at hn
    simp only [run1] at hn
    simp (disch := first | omega | assumption) only [hlt, go_sem, ↓reduceIte]
    refine goK_pure (digitC (s.getD n 0)) ?_
    cases hd : isD (s.getD n 0) with
    | true =>
      simp only [hd, if_true] at hn
      simp (disch := first | omega | assumption) only [hd, go_sem, ↓reduceIte]
      exact goJ (hJ (n + 1) _ (by omega) ⟨by omega, by omega⟩) (by simp (disch := first | omega | assumption) only [wrap64, Int.natCast_add, Int.natCast_one, go_sem, ↓reduceIte])
    | false =>
      simp only [hd, Bool.false_eq_true, if_false, Nat.add_zero] at hn
      simp (disch := first | omega | assumption) only [hd, go_sem, ↓reduceIte]
      exact hQ _ _ _ _ nofun rfl (by simp [tupOf, envOf, AV.strip, AV.strip1, hn])
end Go.Proofs.YticbbfbpeimkbaaGreatDoor
