/- Texts joined: Shelf Lib Row Ir Dat Val ValB Sam ValC ValD Num NumB NumC. -/
import Derived.Shelf.Strings.Builder1
import Derived.Shelf.Strings.Builder2
import Derived.Shelf.Strings.OnBuilder
import Derived.Shelf.Small.Utf8
import Derived.Shelf.Small.Strs
import Derived.Shelf.Small.Wraps
import Derived.Shelf.Strings.BuilderF
import Derived.Shelf.Strings.BuilderK
import Derived.Shelf.Utf8.AppendRune
import Derived.Shelf.Strconv.Itoa0
import Derived.Shelf.Strconv.Itoa1
import Derived.Shelf.LaysM
import Derived.Shelf.Strconv.Itoa2
import Derived.Shelf.Strconv.Itoa3
import Derived.Shelf.Strconv.Itoa4
import Derived.Shelf.Strconv.ParseIntEmpty
import Derived.Shelf.Strconv.Clone
import Derived.Shelf.Strconv.SyntaxError
import Derived.Shelf.LaysC
import Derived.Shelf.Strconv.ToError
import Derived.Shelf.Strconv.Lower
import Derived.Shelf.Strconv.ParseUint10
import Derived.Shelf.Strconv.ParseUint10Empty
import Derived.Shelf.Strconv.ParseUint10Any
import Derived.Shelf.Strconv.ParseInt10
import Derived.Shelf.Strconv.RangeError
import Derived.Shelf.Strconv.ToErrorRange
import Derived.Shelf.Strconv.ParseUintEmpty
import Derived.Shelf.Strconv.ParseUint10b64
import Derived.Shelf.Strconv.ParseUint10b32
import Derived.Shelf.Strconv.ParseUint10b16
import Derived.Shelf.Strconv.ParseUint10b8
import Derived.Shelf.Strconv.ParseUint10At
import Derived.Shelf.Strconv.ParseInt10At64
import Derived.Shelf.Strconv.ParseInt10At32
import Derived.Shelf.Strconv.ParseInt10At16
import Derived.Shelf.Strconv.ParseInt10At8
import Derived.Shelf.Strconv.ParseInt10All
import Derived.Shelf.Strconv.ParseIntPublic10
import Derived.Shelf.Strconv.ErrVarParseInt
import Derived.Shelf.Strings.Search1
import Derived.Shelf.Strings.Search2
import Derived.Shelf.Strings.Search3
import Derived.Shelf.Strings.Shaped
import Derived.Shelf.Strings.Prefix
import Derived.Shelf.Unicode.Decode
import Derived.Shelf.Strings.Runes
import Derived.Shelf.Strings.IndexAny
import Derived.Shelf.Strings.AsciiSet
import Derived.Shelf.Strings.IndexAnyAll
import Derived.Shelf.Bits.Mul64
import Derived.Shelf.Unicode.DecodeSlow
import Derived.Shelf.Unicode.DecodeAny
import Derived.Test.YticbbfbpeimkbaaGreatDoorProg
import Derived.Shelf.Unicode.ValidAny
import Derived.Test.YticbbfbpeimkbaaGreatDoorCards
import Derived.Test.YticbbfbpeimkbaaGreatDoorTie
import Derived.Lib.LaidIn
import Derived.Lib.LaidU8T
import Derived.Lib.LaidTab
import Derived.Deep.DeepHandedRow
import Derived.Deep.DeepWitnessRowRef
import Derived.ProofKit
import Derived.SizedLaws
import Derived.OpenShut
import Derived.Test.YticbbfbpeimkbaaGreatDoorRows
import Derived.Test.YticbbfbpeimkbaaGreatDoorM1
import Derived.Test.YticbbfbpeimkbaaGreatDoorM2
set_option maxRecDepth 100000
set_option linter.unusedSimpArgs false
set_option linter.unusedVariables false
namespace Go.Proofs
open Go.Shelf
def Tryz.lays156_ren : Go.Shelf.Ren := ⟨fun | 156 => 121 | 165 => 213 | 166 => 214 | 169 => 215 | 240 => 273 | 241 => 274 | 276 => 318 | 277 => 319 | n => n, fun | 31 => 73 | 9 => 9 | 3 => 3 | 4 => 4 | 0 => 0 | 20 => 20 | 72 => 222 | 76 => 226 | 70 => 220 | 37 => 213 | 75 => 225 | 127 => 259 | 164 => 290 | 5 => 5 | 80 => 137 | n => n, fun | n => n⟩
theorem Tryz.lays156 : Go.Proofs.Lays.n156 Tryz.prog Tryz.lays156_ren := {
  mixed := by kernel_rfl
  f156 := Tryz.func121.trans (congrArg some (by kernel_rfl))
  f165 := Tryz.func213.trans (congrArg some (by kernel_rfl))
  f166 := Tryz.func214.trans (congrArg some (by kernel_rfl))
  f169 := Tryz.func215.trans (congrArg some (by kernel_rfl))
  f240 := Tryz.func273.trans (congrArg some (by kernel_rfl))
  f241 := Tryz.func274.trans (congrArg some (by kernel_rfl))
  f276 := Tryz.func318.trans (congrArg some (by kernel_rfl))
  f277 := Tryz.func319.trans (congrArg some (by kernel_rfl))
  t0 := Tryz.underlying0
  a0 := Tryz.isAgg0
  z0 := Tryz.sizeOf0
  v0 := Tryz.zeroValue0
  t3 := Tryz.underlying3
  a3 := Tryz.isAgg3
  z3 := Tryz.sizeOf3
  v3 := Tryz.zeroValue3
  t4 := Tryz.underlying4
  a4 := Tryz.isAgg4
  z4 := Tryz.sizeOf4
  v4 := Tryz.zeroValue4
  t9 := Tryz.underlying9
  a9 := Tryz.isAgg9
  z9 := Tryz.sizeOf9
  v9 := Tryz.zeroValue9
  t20 := Tryz.underlying20
  a20 := Tryz.isAgg20
  z20 := Tryz.sizeOf20
  v20 := Tryz.zeroValue20
  t31 := Tryz.underlying73
  a31 := Tryz.isAgg73
  z31 := Tryz.sizeOf73
  v31 := Tryz.zeroValue73
  t37 := Tryz.underlying213
  a37 := Tryz.isAgg213
  z37 := Tryz.sizeOf213
  v37 := Tryz.zeroValue213
  t70 := Tryz.underlying220
  a70 := Tryz.isAgg220
  z70 := Tryz.sizeOf220
  v70 := Tryz.zeroValue220
  t72 := Tryz.underlying222
  a72 := Tryz.isAgg222
  z72 := Tryz.sizeOf222
  v72 := Tryz.zeroValue222
  t75 := Tryz.underlying225
  a75 := Tryz.isAgg225
  z75 := Tryz.sizeOf225
  v75 := Tryz.zeroValue225
  t76 := Tryz.underlying226
  a76 := Tryz.isAgg226
  z76 := Tryz.sizeOf226
  v76 := Tryz.zeroValue226
  t127 := Tryz.underlying259
  a127 := Tryz.isAgg259
  z127 := Tryz.sizeOf259
  v127 := Tryz.zeroValue259
  t164 := Tryz.underlying290
  a164 := Tryz.isAgg290
  z164 := Tryz.sizeOf290
  v164 := Tryz.zeroValue290 }
def Tryz.lays137_ren : Go.Shelf.Ren := ⟨fun | 137 => 222 | 217 => 283 | 266 => 328 | n => n, fun | 9 => 9 | 5 => 5 | 3 => 3 | n => n, fun | n => n⟩
theorem Tryz.lays137 : Go.Proofs.Lays.n137 Tryz.prog Tryz.lays137_ren := {
  mixed := by kernel_rfl
  f137 := Tryz.func222.trans (congrArg some (by kernel_rfl))
  f217 := Tryz.func283.trans (congrArg some (by kernel_rfl))
  f266 := Tryz.func328.trans (congrArg some (by kernel_rfl))
  t3 := Tryz.underlying3
  a3 := Tryz.isAgg3
  z3 := Tryz.sizeOf3
  v3 := Tryz.zeroValue3
  t5 := Tryz.underlying5
  a5 := Tryz.isAgg5
  z5 := Tryz.sizeOf5
  v5 := Tryz.zeroValue5
  t9 := Tryz.underlying9
  a9 := Tryz.isAgg9
  z9 := Tryz.sizeOf9
  v9 := Tryz.zeroValue9 }
def Tryz.laysM173_ren : Go.Shelf.Ren := ⟨fun | 173 => 206 | 246 => 270 | 283 => 312 | 284 => 313 | 285 => 314 | 286 => 315 | 129 => 340 | 317 => 339 | 318 => 341 | 319 => 342 | 320 => 343 | 337 => 353 | 338 => 354 | n => n, fun | 2 => 2 | 3 => 3 | 9 => 9 | 4 => 4 | 171 => 285 | 0 => 0 | 53 => 271 | 37 => 213 | 5 => 5 | 173 => 288 | 212 => 309 | 51 => 268 | 20 => 20 | 213 => 310 | 46 => 173 | 232 => 322 | 233 => 323 | n => n, fun | 17 => 2 | 18 => 6 | 19 => 7 | n => n⟩
theorem Tryz.laysM173 : Go.Proofs.LaysM.n173 Tryz.prog Tryz.laysM173_ren := {
  mixed := by kernel_rfl
  f129 := Tryz.func340.trans (congrArg some (by kernel_rfl))
  f173 := Tryz.func206.trans (congrArg some (by kernel_rfl))
  f246 := Tryz.func270.trans (congrArg some (by kernel_rfl))
  f283 := Tryz.func312.trans (congrArg some (by kernel_rfl))
  f284 := Tryz.func313.trans (congrArg some (by kernel_rfl))
  f285 := Tryz.func314.trans (congrArg some (by kernel_rfl))
  f286 := Tryz.func315.trans (congrArg some (by kernel_rfl))
  f317 := Tryz.func339.trans (congrArg some (by kernel_rfl))
  f318 := Tryz.func341.trans (congrArg some (by kernel_rfl))
  f319 := Tryz.func342.trans (congrArg some (by kernel_rfl))
  f320 := Tryz.func343.trans (congrArg some (by kernel_rfl))
  f337 := Tryz.func353.trans (congrArg some (by kernel_rfl))
  f338 := Tryz.func354.trans (congrArg some (by kernel_rfl))
  t0 := Tryz.underlying0
  a0 := Tryz.isAgg0
  z0 := Tryz.sizeOf0
  v0 := Tryz.zeroValue0
  t2 := Tryz.underlying2
  a2 := Tryz.isAgg2
  z2 := Tryz.sizeOf2
  v2 := Tryz.zeroValue2
  t3 := Tryz.underlying3
  a3 := Tryz.isAgg3
  z3 := Tryz.sizeOf3
  v3 := Tryz.zeroValue3
  t4 := Tryz.underlying4
  a4 := Tryz.isAgg4
  z4 := Tryz.sizeOf4
  v4 := Tryz.zeroValue4
  t5 := Tryz.underlying5
  a5 := Tryz.isAgg5
  z5 := Tryz.sizeOf5
  v5 := Tryz.zeroValue5
  t9 := Tryz.underlying9
  a9 := Tryz.isAgg9
  z9 := Tryz.sizeOf9
  v9 := Tryz.zeroValue9
  t20 := Tryz.underlying20
  a20 := Tryz.isAgg20
  z20 := Tryz.sizeOf20
  v20 := Tryz.zeroValue20
  t37 := Tryz.underlying213
  a37 := Tryz.isAgg213
  z37 := Tryz.sizeOf213
  v37 := Tryz.zeroValue213
  t46 := Tryz.underlying173
  a46 := Tryz.isAgg173
  z46 := Tryz.sizeOf173
  v46 := Tryz.zeroValue173
  t51 := Tryz.underlying268
  a51 := Tryz.isAgg268
  z51 := Tryz.sizeOf268
  v51 := Tryz.zeroValue268
  t53 := Tryz.underlying271
  a53 := Tryz.isAgg271
  z53 := Tryz.sizeOf271
  v53 := Tryz.zeroValue271
  t171 := Tryz.underlying285
  a171 := Tryz.isAgg285
  z171 := Tryz.sizeOf285
  v171 := Tryz.zeroValue285
  t173 := Tryz.underlying288
  a173 := Tryz.isAgg288
  z173 := Tryz.sizeOf288
  v173 := Tryz.zeroValue288
  t212 := Tryz.underlying309
  a212 := Tryz.isAgg309
  z212 := Tryz.sizeOf309
  v212 := Tryz.zeroValue309
  t213 := Tryz.underlying310
  a213 := Tryz.isAgg310
  z213 := Tryz.sizeOf310
  t232 := Tryz.underlying322
  a232 := Tryz.isAgg322
  z232 := Tryz.sizeOf322
  v232 := Tryz.zeroValue322
  t233 := Tryz.underlying323
  a233 := Tryz.isAgg323
  z233 := Tryz.sizeOf323
  v233 := Tryz.zeroValue323
  g17 := by kernel_rfl
  g18 := by kernel_rfl
  g19 := by kernel_rfl
  i0 := by kernel_rfl
  i2 := by kernel_rfl
  i3 := by kernel_rfl
  i4 := by kernel_rfl
  i5 := by kernel_rfl
  i9 := by kernel_rfl
  i20 := by kernel_rfl
  i37 := by kernel_rfl
  i46 := by kernel_rfl
  i51 := by kernel_rfl
  i53 := by kernel_rfl
  i171 := by kernel_rfl
  i173 := by kernel_rfl
  i212 := by kernel_rfl
  i232 := by kernel_rfl
  i233 := by kernel_rfl
  m17 := by kernel_rfl
  m18 := by kernel_rfl
  m19 := by kernel_rfl }
def Tryz.laysC174_ren : Go.Shelf.Ren := ⟨fun | 174 => 260 | 247 => 306 | 245 => 307 | 287 => 334 | 279 => 335 | 280 => 336 | 281 => 337 | 282 => 338 | 321 => 348 | 322 => 349 | 316 => 350 | 171 => 352 | 205 => 351 | 243 => 357 | 246 => 270 | 283 => 312 | 284 => 313 | 285 => 314 | 286 => 315 | 129 => 340 | 317 => 339 | 318 => 341 | 319 => 342 | 320 => 343 | 337 => 353 | 338 => 354 | n => n, fun | 9 => 9 | 3 => 3 | 2 => 2 | 75 => 225 | 85 => 254 | 4 => 4 | 167 => 302 | 5 => 5 | 53 => 271 | 175 => 303 | 46 => 173 | 168 => 305 | 37 => 213 | 0 => 0 | 210 => 315 | 21 => 21 | 127 => 259 | 145 => 321 | 143 => 319 | 171 => 285 | 173 => 288 | 212 => 309 | 51 => 268 | 20 => 20 | 213 => 310 | 232 => 322 | 233 => 323 | 80 => 137 | n => n, fun | 15 => 4 | 16 => 5 | 17 => 2 | 18 => 6 | 19 => 7 | n => n⟩
theorem Tryz.laysC174 : Go.Proofs.LaysC.n174 Tryz.prog Tryz.laysC174_ren := {
  mixed := by kernel_rfl
  f129 := Tryz.func340.trans (congrArg some (by kernel_rfl))
  f171 := Tryz.func352.trans (congrArg some (by kernel_rfl))
  f174 := Tryz.func260.trans (congrArg some (by kernel_rfl))
  f205 := Tryz.func351.trans (congrArg some (by kernel_rfl))
  f243 := Tryz.func357.trans (congrArg some (by kernel_rfl))
  f245 := Tryz.func307.trans (congrArg some (by kernel_rfl))
  f246 := Tryz.func270.trans (congrArg some (by kernel_rfl))
  f247 := Tryz.func306.trans (congrArg some (by kernel_rfl))
  f279 := Tryz.func335.trans (congrArg some (by kernel_rfl))
  f280 := Tryz.func336.trans (congrArg some (by kernel_rfl))
  f281 := Tryz.func337.trans (congrArg some (by kernel_rfl))
  f282 := Tryz.func338.trans (congrArg some (by kernel_rfl))
  f283 := Tryz.func312.trans (congrArg some (by kernel_rfl))
  f284 := Tryz.func313.trans (congrArg some (by kernel_rfl))
  f285 := Tryz.func314.trans (congrArg some (by kernel_rfl))
  f286 := Tryz.func315.trans (congrArg some (by kernel_rfl))
  f287 := Tryz.func334.trans (congrArg some (by kernel_rfl))
  f316 := Tryz.func350.trans (congrArg some (by kernel_rfl))
  f317 := Tryz.func339.trans (congrArg some (by kernel_rfl))
  f318 := Tryz.func341.trans (congrArg some (by kernel_rfl))
  f319 := Tryz.func342.trans (congrArg some (by kernel_rfl))
  f320 := Tryz.func343.trans (congrArg some (by kernel_rfl))
  f321 := Tryz.func348.trans (congrArg some (by kernel_rfl))
  f322 := Tryz.func349.trans (congrArg some (by kernel_rfl))
  f337 := Tryz.func353.trans (congrArg some (by kernel_rfl))
  f338 := Tryz.func354.trans (congrArg some (by kernel_rfl))
  t0 := Tryz.underlying0
  a0 := Tryz.isAgg0
  z0 := Tryz.sizeOf0
  v0 := Tryz.zeroValue0
  t2 := Tryz.underlying2
  a2 := Tryz.isAgg2
  z2 := Tryz.sizeOf2
  v2 := Tryz.zeroValue2
  t3 := Tryz.underlying3
  a3 := Tryz.isAgg3
  z3 := Tryz.sizeOf3
  v3 := Tryz.zeroValue3
  t4 := Tryz.underlying4
  a4 := Tryz.isAgg4
  z4 := Tryz.sizeOf4
  v4 := Tryz.zeroValue4
  t5 := Tryz.underlying5
  a5 := Tryz.isAgg5
  z5 := Tryz.sizeOf5
  v5 := Tryz.zeroValue5
  t9 := Tryz.underlying9
  a9 := Tryz.isAgg9
  z9 := Tryz.sizeOf9
  v9 := Tryz.zeroValue9
  t20 := Tryz.underlying20
  a20 := Tryz.isAgg20
  z20 := Tryz.sizeOf20
  v20 := Tryz.zeroValue20
  t21 := Tryz.underlying21
  a21 := Tryz.isAgg21
  z21 := Tryz.sizeOf21
  v21 := Tryz.zeroValue21
  t37 := Tryz.underlying213
  a37 := Tryz.isAgg213
  z37 := Tryz.sizeOf213
  v37 := Tryz.zeroValue213
  t46 := Tryz.underlying173
  a46 := Tryz.isAgg173
  z46 := Tryz.sizeOf173
  v46 := Tryz.zeroValue173
  t51 := Tryz.underlying268
  a51 := Tryz.isAgg268
  z51 := Tryz.sizeOf268
  v51 := Tryz.zeroValue268
  t53 := Tryz.underlying271
  a53 := Tryz.isAgg271
  z53 := Tryz.sizeOf271
  v53 := Tryz.zeroValue271
  t75 := Tryz.underlying225
  a75 := Tryz.isAgg225
  z75 := Tryz.sizeOf225
  v75 := Tryz.zeroValue225
  t85 := Tryz.underlying254
  a85 := Tryz.isAgg254
  z85 := Tryz.sizeOf254
  v85 := Tryz.zeroValue254
  t127 := Tryz.underlying259
  a127 := Tryz.isAgg259
  z127 := Tryz.sizeOf259
  v127 := Tryz.zeroValue259
  t143 := Tryz.underlying319
  a143 := Tryz.isAgg319
  z143 := Tryz.sizeOf319
  v143 := Tryz.zeroValue319
  t145 := Tryz.underlying321
  a145 := Tryz.isAgg321
  z145 := Tryz.sizeOf321
  v145 := Tryz.zeroValue321
  t167 := Tryz.underlying302
  a167 := Tryz.isAgg302
  z167 := Tryz.sizeOf302
  v167 := Tryz.zeroValue302
  t168 := Tryz.underlying305
  a168 := Tryz.isAgg305
  z168 := Tryz.sizeOf305
  v168 := Tryz.zeroValue305
  t171 := Tryz.underlying285
  a171 := Tryz.isAgg285
  z171 := Tryz.sizeOf285
  v171 := Tryz.zeroValue285
  t173 := Tryz.underlying288
  a173 := Tryz.isAgg288
  z173 := Tryz.sizeOf288
  v173 := Tryz.zeroValue288
  t175 := Tryz.underlying303
  a175 := Tryz.isAgg303
  z175 := Tryz.sizeOf303
  v175 := Tryz.zeroValue303
  t210 := Tryz.underlying315
  a210 := Tryz.isAgg315
  z210 := Tryz.sizeOf315
  v210 := Tryz.zeroValue315
  t212 := Tryz.underlying309
  a212 := Tryz.isAgg309
  z212 := Tryz.sizeOf309
  v212 := Tryz.zeroValue309
  t213 := Tryz.underlying310
  a213 := Tryz.isAgg310
  z213 := Tryz.sizeOf310
  t232 := Tryz.underlying322
  a232 := Tryz.isAgg322
  z232 := Tryz.sizeOf322
  v232 := Tryz.zeroValue322
  t233 := Tryz.underlying323
  a233 := Tryz.isAgg323
  z233 := Tryz.sizeOf323
  v233 := Tryz.zeroValue323
  g15 := by kernel_rfl
  g16 := by kernel_rfl
  g17 := by kernel_rfl
  g18 := by kernel_rfl
  g19 := by kernel_rfl
  t80 := Tryz.underlying137
  a80 := Tryz.isAgg137
  z80 := Tryz.sizeOf137
  v80 := Tryz.zeroValue137
  i0 := by kernel_rfl
  i2 := by kernel_rfl
  i3 := by kernel_rfl
  i4 := by kernel_rfl
  i5 := by kernel_rfl
  i9 := by kernel_rfl
  i20 := by kernel_rfl
  i21 := by kernel_rfl
  i37 := by kernel_rfl
  i46 := by kernel_rfl
  i51 := by kernel_rfl
  i53 := by kernel_rfl
  i75 := by kernel_rfl
  i80 := by kernel_rfl
  i85 := by kernel_rfl
  i127 := by kernel_rfl
  i143 := by kernel_rfl
  i145 := by kernel_rfl
  i167 := by kernel_rfl
  i168 := by kernel_rfl
  i171 := by kernel_rfl
  i173 := by kernel_rfl
  i175 := by kernel_rfl
  i210 := by kernel_rfl
  i212 := by kernel_rfl
  i232 := by kernel_rfl
  i233 := by kernel_rfl
  m15 := by kernel_rfl
  m16 := by kernel_rfl
  m17 := by kernel_rfl
  m18 := by kernel_rfl
  m19 := by kernel_rfl
  c0 := by kernel_rfl
  c2 := by kernel_rfl
  c3 := by kernel_rfl
  c4 := by kernel_rfl
  c5 := by kernel_rfl
  c9 := by kernel_rfl
  c20 := by kernel_rfl
  c21 := by kernel_rfl
  c37 := by kernel_rfl
  c46 := by kernel_rfl
  c51 := by kernel_rfl
  c53 := by kernel_rfl
  c75 := by kernel_rfl
  c80 := by kernel_rfl
  c85 := by kernel_rfl
  c127 := by kernel_rfl
  c143 := by kernel_rfl
  c145 := by kernel_rfl
  c167 := by kernel_rfl
  c168 := by kernel_rfl
  c171 := by kernel_rfl
  c173 := by kernel_rfl
  c175 := by kernel_rfl
  c210 := by kernel_rfl
  c212 := by kernel_rfl
  c213 := by kernel_rfl
  c232 := by kernel_rfl
  c233 := by kernel_rfl }
def Tryz.lays144_ren : Go.Shelf.Ren := ⟨fun | 144 => 209 | 143 => 271 | 219 => 316 | 217 => 283 | 225 => 322 | 224 => 321 | 267 => 344 | 266 => 328 | 314 => 355 | n => n, fun | 9 => 9 | 4 => 4 | 3 => 3 | 5 => 5 | 46 => 173 | 146 => 269 | 51 => 268 | n => n, fun | 1 => 3 | n => n⟩
theorem Tryz.lays144 : Go.Proofs.Lays.n144 Tryz.prog Tryz.lays144_ren := {
  mixed := by kernel_rfl
  f143 := Tryz.func271.trans (congrArg some (by kernel_rfl))
  f144 := Tryz.func209.trans (congrArg some (by kernel_rfl))
  f217 := Tryz.func283.trans (congrArg some (by kernel_rfl))
  f219 := Tryz.func316.trans (congrArg some (by kernel_rfl))
  f224 := Tryz.func321.trans (congrArg some (by kernel_rfl))
  f225 := Tryz.func322.trans (congrArg some (by kernel_rfl))
  f266 := Tryz.func328.trans (congrArg some (by kernel_rfl))
  f267 := Tryz.func344.trans (congrArg some (by kernel_rfl))
  f314 := Tryz.func355.trans (congrArg some (by kernel_rfl))
  t3 := Tryz.underlying3
  a3 := Tryz.isAgg3
  z3 := Tryz.sizeOf3
  v3 := Tryz.zeroValue3
  t4 := Tryz.underlying4
  a4 := Tryz.isAgg4
  z4 := Tryz.sizeOf4
  v4 := Tryz.zeroValue4
  t5 := Tryz.underlying5
  a5 := Tryz.isAgg5
  z5 := Tryz.sizeOf5
  v5 := Tryz.zeroValue5
  t9 := Tryz.underlying9
  a9 := Tryz.isAgg9
  z9 := Tryz.sizeOf9
  v9 := Tryz.zeroValue9
  t46 := Tryz.underlying173
  a46 := Tryz.isAgg173
  z46 := Tryz.sizeOf173
  v46 := Tryz.zeroValue173
  t51 := Tryz.underlying268
  a51 := Tryz.isAgg268
  z51 := Tryz.sizeOf268
  v51 := Tryz.zeroValue268
  t146 := Tryz.underlying269
  a146 := Tryz.isAgg269
  z146 := Tryz.sizeOf269
  v146 := Tryz.zeroValue269
  g1 := by kernel_rfl }
def Tryz.lays99_ren : Go.Shelf.Ren := ⟨fun | 99 => 217 | 206 => 275 | n => n, fun | 9 => 9 | 4 => 4 | 3 => 3 | n => n, fun | n => n⟩
theorem Tryz.lays99 : Go.Proofs.Lays.n99 Tryz.prog Tryz.lays99_ren := {
  mixed := by kernel_rfl
  f99 := Tryz.func217.trans (congrArg some (by kernel_rfl))
  f206 := Tryz.func275.trans (congrArg some (by kernel_rfl))
  t3 := Tryz.underlying3
  a3 := Tryz.isAgg3
  z3 := Tryz.sizeOf3
  v3 := Tryz.zeroValue3
  t4 := Tryz.underlying4
  a4 := Tryz.isAgg4
  z4 := Tryz.sizeOf4
  v4 := Tryz.zeroValue4
  t9 := Tryz.underlying9
  a9 := Tryz.isAgg9
  z9 := Tryz.sizeOf9
  v9 := Tryz.zeroValue9 }
def Tryz.lays153_ren : Go.Shelf.Ren := ⟨fun | 153 => 218 | 152 => 276 | 226 => 277 | 227 => 278 | 228 => 279 | 137 => 222 | 119 => 320 | 224 => 321 | 225 => 322 | 217 => 283 | 266 => 328 | n => n, fun | 9 => 9 | 3 => 3 | 4 => 4 | 5 => 5 | 21 => 21 | 117 => 263 | 116 => 262 | 0 => 0 | 46 => 173 | 124 => 295 | n => n, fun | n => n⟩
theorem Tryz.lays153 : Go.Proofs.Lays.n153 Tryz.prog Tryz.lays153_ren := {
  mixed := by kernel_rfl
  f119 := Tryz.func320.trans (congrArg some (by kernel_rfl))
  f137 := Tryz.func222.trans (congrArg some (by kernel_rfl))
  f152 := Tryz.func276.trans (congrArg some (by kernel_rfl))
  f153 := Tryz.func218.trans (congrArg some (by kernel_rfl))
  f217 := Tryz.func283.trans (congrArg some (by kernel_rfl))
  f224 := Tryz.func321.trans (congrArg some (by kernel_rfl))
  f225 := Tryz.func322.trans (congrArg some (by kernel_rfl))
  f226 := Tryz.func277.trans (congrArg some (by kernel_rfl))
  f227 := Tryz.func278.trans (congrArg some (by kernel_rfl))
  f228 := Tryz.func279.trans (congrArg some (by kernel_rfl))
  f266 := Tryz.func328.trans (congrArg some (by kernel_rfl))
  t0 := Tryz.underlying0
  a0 := Tryz.isAgg0
  z0 := Tryz.sizeOf0
  v0 := Tryz.zeroValue0
  t3 := Tryz.underlying3
  a3 := Tryz.isAgg3
  z3 := Tryz.sizeOf3
  v3 := Tryz.zeroValue3
  t4 := Tryz.underlying4
  a4 := Tryz.isAgg4
  z4 := Tryz.sizeOf4
  v4 := Tryz.zeroValue4
  t5 := Tryz.underlying5
  a5 := Tryz.isAgg5
  z5 := Tryz.sizeOf5
  v5 := Tryz.zeroValue5
  t9 := Tryz.underlying9
  a9 := Tryz.isAgg9
  z9 := Tryz.sizeOf9
  v9 := Tryz.zeroValue9
  t21 := Tryz.underlying21
  a21 := Tryz.isAgg21
  z21 := Tryz.sizeOf21
  v21 := Tryz.zeroValue21
  t46 := Tryz.underlying173
  a46 := Tryz.isAgg173
  z46 := Tryz.sizeOf173
  v46 := Tryz.zeroValue173
  t116 := Tryz.underlying262
  a116 := Tryz.isAgg262
  z116 := Tryz.sizeOf262
  t117 := Tryz.underlying263
  a117 := Tryz.isAgg263
  z117 := Tryz.sizeOf263
  v117 := Tryz.zeroValue263
  t124 := Tryz.underlying295
  a124 := Tryz.isAgg295
  z124 := Tryz.sizeOf295
  v124 := Tryz.zeroValue295 }
def Tryz.lays197_ren : Go.Shelf.Ren := ⟨fun | 197 => 272 | 260 => 317 | n => n, fun | 9 => 9 | 21 => 21 | 3 => 3 | 4 => 4 | 5 => 5 | 105 => 257 | 119 => 281 | 0 => 0 | 46 => 173 | 139 => 284 | 138 => 283 | n => n, fun | 3 => 0 | 4 => 1 | n => n⟩
theorem Tryz.lays197 : Go.Proofs.Lays.n197 Tryz.prog Tryz.lays197_ren := {
  mixed := by kernel_rfl
  f197 := Tryz.func272.trans (congrArg some (by kernel_rfl))
  f260 := Tryz.func317.trans (congrArg some (by kernel_rfl))
  t0 := Tryz.underlying0
  a0 := Tryz.isAgg0
  z0 := Tryz.sizeOf0
  v0 := Tryz.zeroValue0
  t3 := Tryz.underlying3
  a3 := Tryz.isAgg3
  z3 := Tryz.sizeOf3
  v3 := Tryz.zeroValue3
  t4 := Tryz.underlying4
  a4 := Tryz.isAgg4
  z4 := Tryz.sizeOf4
  v4 := Tryz.zeroValue4
  t5 := Tryz.underlying5
  a5 := Tryz.isAgg5
  z5 := Tryz.sizeOf5
  v5 := Tryz.zeroValue5
  t9 := Tryz.underlying9
  a9 := Tryz.isAgg9
  z9 := Tryz.sizeOf9
  v9 := Tryz.zeroValue9
  t21 := Tryz.underlying21
  a21 := Tryz.isAgg21
  z21 := Tryz.sizeOf21
  v21 := Tryz.zeroValue21
  t46 := Tryz.underlying173
  a46 := Tryz.isAgg173
  z46 := Tryz.sizeOf173
  v46 := Tryz.zeroValue173
  t105 := Tryz.underlying257
  a105 := Tryz.isAgg257
  z105 := Tryz.sizeOf257
  v105 := Tryz.zeroValue257
  t119 := Tryz.underlying281
  a119 := Tryz.isAgg281
  z119 := Tryz.sizeOf281
  t138 := Tryz.underlying283
  a138 := Tryz.isAgg283
  z138 := Tryz.sizeOf283
  v138 := Tryz.zeroValue283
  t139 := Tryz.underlying284
  a139 := Tryz.isAgg284
  z139 := Tryz.sizeOf284
  v139 := Tryz.zeroValue284
  g3 := by kernel_rfl
  g4 := by kernel_rfl }
open Go.RowKit in
theorem Tryz.strings_IndexByte (s : ByteArray) (c : Int) (w : World) :
    Calls Tryz.prog 222 #[.string s, .int .u8 c] w fun e w' => e = .returned (.int .i64 (Lib.indexByte s.data.toList c.toNat.toUInt8)) ∧ w' = w := Any.strings_IndexByte Tryz.lays137 s c w
open Go.RowKit Go.Sort Go.Lib in
theorem Tryz.strconv_FormatInt_10 (n : Int) (h0 : -9223372036854775808 ≤ n) (h1 : n ≤ 9223372036854775807) (w : World) (htab : Lib.TabIs Tryz.prog w "internal/strconv.uint64pow10" .u64 Lib.pow10Tab) :
    Calls Tryz.prog 206 #[.int .i64 n, .int .i64 10] w fun e w' => e = .returned (.string ⟨(Lib.itoa n).toArray⟩) ∧ ∃ k os, w' = grow (w.drewN k) os := Any.strconv_FormatInt_10 Tryz.laysM173 n h0 h1 w htab
open Go.RowKit in
theorem Tryz.strconv_ParseInt_10_at64_ok (s : ByteArray) (hmax : s.size ≤ 9223372036854775806) (v : Int) (h : Lib.parseIntB 64 s.data.toList = .ok v) (w : World) :
    Calls Tryz.prog 260 #[.string s, .int .i64 10, .int .i64 64] w fun e w' => e = .returned (.tuple #[.int .i64 v, .nilIface]) ∧ (w' = w ∨ ∃ t, w' = Lib.bytesWorld w 5 t) := Any.strconv_ParseInt_10_at64_ok Tryz.laysC174 s hmax v h w
open Go.RowKit in
theorem Tryz.strconv_ParseInt_10_at64_syntax (s : ByteArray) (hlim : s.size ≤ 281474976710656) (h : Lib.parseIntB 64 s.data.toList = Lib.NumEnd.syntax) (ev : Value) (w : World) (hv : w.cell? ⟨4, 0, none⟩ = some ev) (hev : ev = .nilIface ∨ ∃ te pe, ev = .iface te pe) :
    Calls Tryz.prog 260 #[.string s, .int .i64 10, .int .i64 64] w fun e w' => ∃ N, e = .returned (.tuple #[.int .i64 (0), .iface 305 (.pointer (some ⟨N, 0, none⟩))]) ∧ w.heap.size ≤ N ∧ w'.heap[N]? = some (.cells #[.string ⟨#[80, 97, 114, 115, 101, 73, 110, 116]⟩, .string s, ev] 315 (0, 0)) ∧ Below w.heap.size w w' := Any.strconv_ParseInt_10_at64_syntax Tryz.laysC174 s hlim h ev w hv hev
open Go.RowKit in
theorem Tryz.strconv_ParseInt_10_at64_range (s : ByteArray) (hlim : s.size ≤ 281474976710656) (h : Lib.parseIntB 64 s.data.toList = .range) (ev : Value) (w : World) (hv : w.cell? ⟨5, 0, none⟩ = some ev) (hev : ev = .nilIface ∨ ∃ te pe, ev = .iface te pe) :
    Calls Tryz.prog 260 #[.string s, .int .i64 10, .int .i64 64] w fun e w' => ∃ N, e = .returned (.tuple #[.int .i64 (Lib.intSat 64 s.data.toList), .iface 305 (.pointer (some ⟨N, 0, none⟩))]) ∧ w.heap.size ≤ N ∧ w'.heap[N]? = some (.cells #[.string ⟨#[80, 97, 114, 115, 101, 73, 110, 116]⟩, .string s, ev] 315 (0, 0)) ∧ Below w.heap.size w w' := Any.strconv_ParseInt_10_at64_range Tryz.laysC174 s hlim h ev w hv hev
open Go.RowKit Go.Lib in
theorem Tryz.strings_Contains_one (s : ByteArray) (c : UInt8) (w : World) :
    Calls Tryz.prog 209 #[.string s, .string ⟨#[c]⟩] w fun e w' => e = .returned (.bool (decide (0 ≤ Lib.indexByte s.data.toList c))) ∧ w' = w := Any.strings_Contains_one Tryz.lays144 s c w
open Go.RowKit Go.Lib in
theorem Tryz.strings_HasPrefix (s p : ByteArray) (w : World) :
    Calls Tryz.prog 217 #[.string s, .string p] w fun e w' => e = .returned (.bool (Lib.hasPrefix s.data.toList p.data.toList)) ∧ w' = w := Any.strings_HasPrefix Tryz.lays99 s p w
open Go.RowKit Go.Lib in
theorem Tryz.strings_IndexAny_long (hv116 : ∀ w, (zeroValue 262).run Tryz.prog w = .ok (.agg (Array.replicate 256 (.bool false))) w) (s chars : ByteArray) (w : World) (h2 : 2 ≤ chars.size) (h8 : 8 < s.size) (hs : s.size < 4294967281) (hcs : chars.size < 4294967281) (hascii : ∀ (j : Nat) b, chars.data.toList[j]? = some b → b.toNat < 128) :
    Calls Tryz.prog 218 #[.string s, .string chars] w fun e w' => e = .returned (.int .i64 (Lib.indexAny s.data.toList chars.data.toList)) ∧ w' = ((w.alloc (.cells (Lib.setCells chars.data.toList) 262)).alloc (.cells (Lib.setCells chars.data.toList) 262)) := Any.strings_IndexAny_long Tryz.lays153 hv116 (by kernel_rfl) s chars w h2 h8 hs hcs hascii
open Go.RowKit Go.Lib in
theorem Tryz.utf8_DecodeRuneInString (s : ByteArray) (w : World) (hT : Lib.Utf8Tabs 0 1 w) :
    Calls Tryz.prog 272 #[.string s] w fun e w' => e = .returned (.tuple #[.int .i32 (Lib.decodeGo s).1, .int .i64 (Lib.decodeGo s).2]) ∧ Below w.heap.size w w' := Any.utf8_DecodeRuneInString Tryz.lays197 s w hT
def Tryz.lays196_ren : Go.Shelf.Ren := ⟨fun | 196 => 268 | 259 => 311 | n => n, fun | 9 => 9 | 4 => 4 | 3 => 3 | 5 => 5 | 12 => 12 | 119 => 281 | 0 => 0 | 46 => 173 | 139 => 284 | 138 => 283 | 53 => 271 | n => n, fun | 3 => 0 | 4 => 1 | n => n⟩
theorem Tryz.lays196 : Go.Proofs.Lays.n196 Tryz.prog Tryz.lays196_ren := {
  mixed := by kernel_rfl
  f196 := Tryz.func268.trans (congrArg some (by kernel_rfl))
  f259 := Tryz.func311.trans (congrArg some (by kernel_rfl))
  t0 := Tryz.underlying0
  a0 := Tryz.isAgg0
  z0 := Tryz.sizeOf0
  v0 := Tryz.zeroValue0
  t3 := Tryz.underlying3
  a3 := Tryz.isAgg3
  z3 := Tryz.sizeOf3
  v3 := Tryz.zeroValue3
  t4 := Tryz.underlying4
  a4 := Tryz.isAgg4
  z4 := Tryz.sizeOf4
  v4 := Tryz.zeroValue4
  t5 := Tryz.underlying5
  a5 := Tryz.isAgg5
  z5 := Tryz.sizeOf5
  v5 := Tryz.zeroValue5
  t9 := Tryz.underlying9
  a9 := Tryz.isAgg9
  z9 := Tryz.sizeOf9
  v9 := Tryz.zeroValue9
  t12 := Tryz.underlying12
  a12 := Tryz.isAgg12
  z12 := Tryz.sizeOf12
  v12 := Tryz.zeroValue12
  t46 := Tryz.underlying173
  a46 := Tryz.isAgg173
  z46 := Tryz.sizeOf173
  v46 := Tryz.zeroValue173
  t53 := Tryz.underlying271
  a53 := Tryz.isAgg271
  z53 := Tryz.sizeOf271
  v53 := Tryz.zeroValue271
  t119 := Tryz.underlying281
  a119 := Tryz.isAgg281
  z119 := Tryz.sizeOf281
  t138 := Tryz.underlying283
  a138 := Tryz.isAgg283
  z138 := Tryz.sizeOf283
  v138 := Tryz.zeroValue283
  t139 := Tryz.underlying284
  a139 := Tryz.isAgg284
  z139 := Tryz.sizeOf284
  v139 := Tryz.zeroValue284
  g3 := by kernel_rfl
  g4 := by kernel_rfl }
end Go.Proofs
namespace Go.Proofs.YticbbfbpeimkbaaGreatDoor
open Go.Ab Go.RowKit Go.Sort Go.Lib
theorem ext_below {γ : Gh} {w w' : World} (h : Below w.heap.size w w') : Ext (fun _ => False) γ w γ w' := by
  refine ⟨⟨h.size, fun b o v hc hp => ⟨hp, ?_⟩, fun b arr E fr hb => ⟨arr, ?_, rfl⟩⟩, h.os, h.output, fun a ha => ?_, fun b hb _ => ⟨rfl, h.block b hb⟩⟩
  · have hlt := World.block_lt_of_cell? w _ hc
    unfold World.cell? at hc ⊢
    rw [h.block _ hlt]; exact hc
  · have hlt := (Array.getElem?_eq_some_iff.1 hb).1
    rw [h.block b hlt]; exact hb
  · exact World.frozen?_of_block (h.block _ ha)
theorem Pure.of_below {P : Program} {f : FuncId} {args : List AV} {r : AV} (h : ∀ (γ : Gh) (w : World) (vs : List Value), TabOk γ w → RepAll γ w args vs → Calls P f vs.toArray w fun e w' => Below w.heap.size w w' ∧ ∃ v, e = .returned v ∧ Rep γ w' r v) : Pure P f args r := by
  intro γ w vs ht _ hv
  refine (h γ w vs ht hv).mono fun e w' ⟨hw, v, he, hr⟩ => ?_
  subst he
  exact ⟨γ, Heap.emp, .ret r, (ext_below hw).weaken fun _ f => f.elim, fun b o hb => by simp [Heap.emp] at hb, fun b hb => by simp [Heap.emp] at hb, hr, rfl, rfl⟩
theorem below_grow (w : World) (k : Nat) (os : Array Obj) : Below w.heap.size w (grow (w.drewN k) os) := by
  refine ⟨rfl, rfl, rfl, ?_, fun i hi => ?_⟩
  · show w.heap.size ≤ (w.heap ++ os).size; simp
  · show (w.heap ++ os)[i]? = w.heap[i]?
    rw [Array.getElem?_append_left hi]
theorem below_bytes (w : World) (e : TypeId) (t : ByteArray) : Below w.heap.size w (Lib.bytesWorld w e t) := by
  have h1 : Below w.heap.size w (w.drew.alloc (.cells (bytesCells w e t) e)) := (Below.refl _ w).drew.alloc (Nat.le_refl _) _
  unfold Lib.bytesWorld World.freeze
  simp only [Nat.one_ne_zero, if_false]
  refine ⟨h1.os, h1.tape, h1.output, ?_, fun i hi => ?_⟩
  · rw [Array.size_modify]; exact h1.size
  · rw [Array.getElem?_modify]
    have : ¬ (w.heap.size = i) := by omega
    simp only [this, if_false]
    exact h1.block i hi
theorem tab_at {γ : Gh} {w : World} (h : TabOk γ w) {i b : Nat} {ps : List (Value → Prop)} (hi : tabL[i]? = some (b, ps)) {j : Nat} {p : Value → Prop} (hj : ps[j]? = some p) : ∃ v, w.cell? ⟨b, j, none⟩ = some v ∧ p v := by
  obtain ⟨v, h1, h2⟩ := (h _ (List.mem_of_getElem? hi)).2 j p hj
  exact ⟨v, h1.1, h2⟩
theorem first_at : ∀ c : Fin 256, Go.Pinned.utf8FirstZ[c.val]? = some (Lib.firstT c.val) := by decide +kernel
def accZ : List Nat := [128, 191, 160, 191, 128, 159, 144, 191, 128, 143, 0, 0, 0, 0, 0, 0, 0, 0, 0, 0, 0, 0, 0, 0, 0, 0, 0, 0, 0, 0, 0, 0]
theorem acc_at : ∀ c : Fin 16, accZ[2 * c.val]? = some (Lib.accLo c.val) ∧ accZ[2 * c.val + 1]? = some (Lib.accHi c.val) := by decide +kernel
theorem utf8Tabs {γ : Gh} {w : World} (h : TabOk γ w) : Lib.Utf8Tabs 0 1 w := by
  refine ⟨fun c hc => ?_, fun c hc => ?_⟩
  · have hf := first_at ⟨c, hc⟩
    obtain ⟨v, h1, h2⟩ := tab_at h (i := 0) rfl (j := c) (p := fun v => v = .int .u8 (Lib.firstT c)) (by rw [List.getElem?_map, hf]; rfl)
    rw [h1, h2]
  · obtain ⟨g1, g2⟩ := acc_at ⟨c, hc⟩
    have hi : tabL[1]? = some (1, accZ.map fun (n : Nat) (v : Value) => v = .int .u8 n) := rfl
    obtain ⟨v, h1, h2⟩ := tab_at h hi (j := 2 * c) (p := fun v => v = .int .u8 (Lib.accLo c)) (by rw [List.getElem?_map, g1]; rfl)
    obtain ⟨u, h3, h4⟩ := tab_at h hi (j := 2 * c + 1) (p := fun v => v = .int .u8 (Lib.accHi c)) (by rw [List.getElem?_map, g2]; rfl)
    exact ⟨by rw [h1, h2], by rw [h3, h4]⟩
theorem arg_str {γ : Gh} {w : World} {s : List UInt8} {vs : List Value} (h : RepAll γ w [.str s] vs) : vs = [.string ⟨s.toArray⟩] := by
  obtain ⟨hl, hr⟩ := h
  match vs, hl with
  | [v], _ => cases hr 0 _ _ rfl rfl; rfl
theorem validC (s : List UInt8) (hs : s.length ≤ 9223372036854775807) : Pure Tryz.prog 268 [.str s] (.bool (Lib.validD s)) := by
  refine Pure.of_below fun γ w vs ht hv => ?_
  rw [arg_str hv]
  have h := Any.utf8_ValidString Tryz.lays196 ⟨s.toArray⟩ w (by simpa [ByteArray.size] using hs) (utf8Tabs ht)
  refine Calls.mono h fun e w' ⟨he, hb⟩ => ⟨hb, _, he, .bool _⟩
theorem prefixC (s p : List UInt8) : Pure Tryz.prog 217 [.str s, .str p] (.bool (p.isPrefixOf s)) := by
  refine Pure.of_below fun γ w vs ht hv => ?_
  obtain ⟨hl, hr⟩ := hv
  match vs, hl with
  | [v, u], _ =>
    cases hr 0 _ _ rfl rfl
    cases hr 1 _ _ rfl rfl
    exact (Tryz.strings_HasPrefix ⟨s.toArray⟩ ⟨p.toArray⟩ w).mono fun e w' ⟨he, hw⟩ => ⟨by rw [hw]; exact Below.refl _ _, _, he, .bool _⟩
def powZ : List Nat := [1, 10, 100, 1000, 10000, 100000, 1000000, 10000000, 100000000, 1000000000, 10000000000, 100000000000, 1000000000000, 10000000000000, 100000000000000, 1000000000000000, 10000000000000000, 100000000000000000, 1000000000000000000, 10000000000000000000]
theorem powZ_len : powZ.length = 20 := rfl
theorem pow10_at : Lib.pow10Tab = powZ.map fun (n : Nat) => (n : Int) := by decide +kernel
theorem powTab {γ : Gh} {w : World} (ht : TabOk γ w) : Lib.TabIs Tryz.prog w "internal/strconv.uint64pow10" .u64 Lib.pow10Tab := by
  have hmem : tabL[2]? = some (2, powZ.map fun (n : Nat) (v : Value) => v = .int .u64 n) := rfl
  obtain ⟨⟨arr, E, fr, g1, g2⟩, g3⟩ := ht _ (List.mem_of_getElem? hmem)
  have hg : Tryz.prog.globalNamed "internal/strconv.uint64pow10" = some 2 := by kernel_rfl
  unfold Lib.TabIs World.var?
  rw [hg]
  simp only [Option.bind_some]
  rw [show w.heap[2]? = _ from g1]
  simp only [Option.some.injEq]
  refine Array.ext_getElem? fun j => ?_
  simp only [List.length_map] at g2
  by_cases hj : j < 20
  · have hj' : j < powZ.length := hj
    obtain ⟨v, h1, h2⟩ := g3 j (fun v => v = .int .u64 ((powZ[j] : Nat) : Int)) (by rw [List.getElem?_map, List.getElem?_eq_getElem hj']; rfl)
    have h3 := h1.1
    simp only [World.cell?] at h3
    rw [show w.heap[2]? = _ from g1] at h3
    have h4 : arr[j]? = some v := by simpa using h3
    rw [h4, h2, pow10_at]
    simp only [List.map_map, List.getElem?_toArray, List.getElem?_map, List.getElem?_eq_getElem hj', Option.map_some, Function.comp]
  · rw [Array.getElem?_eq_none (by rw [g2, powZ_len]; omega), Array.getElem?_eq_none (by simp [pow10_at, powZ_len]; omega)]
theorem formatIntC (n : Int) (h0 : -9223372036854775808 ≤ n) (h1 : n ≤ 9223372036854775807) : Pure Tryz.prog 206 [.int .i64 n, .int .i64 10] (.str (Lib.itoa n)) := by
  refine Pure.of_below fun γ w vs ht hv => ?_
  obtain ⟨hl, hr⟩ := hv
  match vs, hl with
  | [v, u], _ =>
    cases hr 0 _ _ rfl rfl
    cases hr 1 _ _ rfl rfl
    exact (Tryz.strconv_FormatInt_10 n h0 h1 w (powTab ht)).mono fun e w' ⟨he, k, os, hw⟩ => ⟨by rw [hw]; exact below_grow _ _ _, _, he, .str _⟩
theorem errRange_at {γ : Gh} {w : World} (h : TabOk γ w) : ∃ v, w.cell? ⟨5, 0, none⟩ = some v ∧ ∃ te pe, v = .iface te pe := tab_at h (i := 5) rfl (j := 0) rfl
theorem errSyntax_at {γ : Gh} {w : World} (h : TabOk γ w) : ∃ v, w.cell? ⟨4, 0, none⟩ = some v ∧ ∃ te pe, v = .iface te pe := tab_at h (i := 4) rfl (j := 0) rfl
def parseA (s : List UInt8) : AV :=
  match Lib.parseIntB 64 s with
  | .ok v => .tup [.int .i64 v, .oth .nilIface]
  | Lib.NumEnd.syntax => .tup [.int .i64 0, .ifc 305 .any]
  | .range => .tup [.int .i64 (Lib.intSat 64 s), .ifc 305 .any]
theorem rep_two {γ : Gh} {w : World} {a b : AV} {v u : Value} (h1 : Rep γ w a v) (h2 : Rep γ w b u) : Rep γ w (.tup [a, b]) (.tuple #[v, u]) := .tup _ [v, u] rfl (RepAll.cons h1 (RepAll.cons h2 RepAll.nil)).2
theorem parseIntC (s : List UInt8) (hs : s.length ≤ 281474976710656) : Pure Tryz.prog 260 [.str s, .int .i64 10, .int .i64 64] (parseA s) := by
  refine Pure.of_below fun γ w vs ht hv => ?_
  obtain ⟨hl, hr⟩ := hv
  match vs, hl with
  | [v, u, x], _ =>
    cases hr 0 _ _ rfl rfl
    cases hr 1 _ _ rfl rfl
    cases hr 2 _ _ rfl rfl
    have hsz : (⟨s.toArray⟩ : ByteArray).size = s.length := rfl
    unfold parseA
    rcases hp : Lib.parseIntB 64 s with v | _ | _
    · refine (Tryz.strconv_ParseInt_10_at64_ok ⟨s.toArray⟩ (by rw [hsz]; omega) v hp w).mono fun e w' ⟨he, hw⟩ => ⟨?_, _, he, rep_two (.int _ _) (.oth _)⟩
      rcases hw with rfl | ⟨t, rfl⟩
      · exact Below.refl _ _
      · exact below_bytes _ _ _
    · obtain ⟨ev, h1, h2⟩ := errSyntax_at ht
      exact (Tryz.strconv_ParseInt_10_at64_syntax ⟨s.toArray⟩ (by rw [hsz]; omega) hp ev w h1 (.inr h2)).mono fun e w' ⟨N, he, _, _, hb⟩ => ⟨hb, _, he, rep_two (.int _ _) (.ifc _ _ _ (.any _))⟩
    · obtain ⟨ev, h1, h2⟩ := errRange_at ht
      exact (Tryz.strconv_ParseInt_10_at64_range ⟨s.toArray⟩ (by rw [hsz]; omega) hp ev w h1 (.inr h2)).mono fun e w' ⟨N, he, _, _, hb⟩ => ⟨hb, _, he, rep_two (.int _ _) (.ifc _ _ _ (.any _))⟩
end Go.Proofs.YticbbfbpeimkbaaGreatDoor
namespace Go.Proofs.YticbbfbpeimkbaaGreatDoor
open Go.Ab Go.Lib
open Go.ChangeShapes Go.WideShapes Go.ChangeAt Go.RowKit Go.WideElems
mutual
theorem bulk_eq {H : Type} : ∀ d : DataW H, Rows.uptoBulk d = blk d
  | .lit (.string _) => rfl
  | .lit (.bool _) => rfl
  | .lit (.int _ _) => rfl
  | .lit (.float _ _) => rfl
  | .lit .nil => rfl
  | .nil => rfl
  | .ptr d => by simp only [Rows.uptoBulk, blk, bulk_eq d]
  | .slice e s => by simp only [Rows.uptoBulk, blk, bulkAll_eq e, bulkAll_eq s]
  | .agg e => by simp only [Rows.uptoBulk, blk, bulkAll_eq e]
  | .iface _ d => by simp only [Rows.uptoBulk, blk, bulk_eq d]
  | .map e => by simp only [Rows.uptoBulk, blk, bulkEs_eq e]
  | .held _ => rfl
theorem bulkAll_eq {H : Type} : ∀ d : List (DataW H), Rows.uptoBulkAll d = blkAll d
  | [] => rfl
  | d :: r => by simp only [Rows.uptoBulkAll, blkAll, bulk_eq d, bulkAll_eq r]
theorem bulkEs_eq {H : Type} : ∀ d : List (Lit × DataW H), Rows.uptoBulkEntries d = blkEs d
  | [] => rfl
  | x :: r => by simp only [Rows.uptoBulkEntries, blkEs, bulkE_eq x, bulkEs_eq r]
theorem bulkE_eq {H : Type} : ∀ d : Lit × DataW H, Rows.uptoBulkEntry d = blkE d
  | (.string _, d) => by simp only [Rows.uptoBulkEntry, blkE, bulk_eq d]
  | (.bool _, d) => by simp only [Rows.uptoBulkEntry, blkE, bulk_eq d]
  | (.int _ _, d) => by simp only [Rows.uptoBulkEntry, blkE, bulk_eq d]
  | (.float _ _, d) => by simp only [Rows.uptoBulkEntry, blkE, bulk_eq d]
  | (.nil, d) => by simp only [Rows.uptoBulkEntry, blkE, bulk_eq d]
end
def EntryOk (W : World) (g : Nat) (ps : List (Value → Prop)) : Prop :=
  (∃ (arr : Array Value) (E : TypeId) (fr : Nat × Nat), W.heap[g]? = some (.cells arr E fr) ∧ arr.size = ps.length) ∧ ∀ (j : Nat) (p : Value → Prop), ps[j]? = some p → ∃ v, CellIs immG W g j v ∧ p v
theorem entry_of_var {W : World} {n : String} {g : Nat} {cs : Array Value} {ps : List (Value → Prop)} (hg : Tryz.prog.globalNamed n = some g) (hv : W.var? Tryz.prog n = some cs) (hl : cs.size = ps.length)
    (h : ∀ (j : Nat) (p : Value → Prop) v, ps[j]? = some p → cs[j]? = some v → v.oneCell' = true ∧ p v) : EntryOk W g ps := by
  refine ⟨?_, fun j p hp => ?_⟩
  · have h1 := hv
    simp only [World.var?, hg, Option.bind_some] at h1
    split at h1
    · rename_i c t fr he
      cases h1
      exact ⟨_, _, _, he, hl⟩
    · cases h1
  · have hj : j < cs.size := by
      have := (List.getElem?_eq_some_iff.1 hp).1
      omega
    have h1 := h j p cs[j] hp (Array.getElem?_eq_getElem hj)
    refine ⟨cs[j], ⟨?_, trivial, h1.1⟩, h1.2⟩
    rw [World.var?_cell hg hv j, Array.getElem?_eq_getElem hj]
theorem entry_ints {W : World} {n : String} {g cnt : Nat} {t e : TypeId} {k : IntKind} {zs : List Nat} (hg : Tryz.prog.globalNamed n = some g) (hty : (Tryz.prog.globals[g]?).map (·.type) = some t) (ht : Tryz.prog.underlying t = some (.array cnt e)) (he : Tryz.prog.underlying e = some (.int k)) (hce : Tryz.prog.cellsOf e = 1) (hct : Tryz.prog.cellsOf t = cnt)
    (h : VarReads Tryz.prog W n (tabData k (zs.map fun (z : Nat) => (z : Int)))) : EntryOk W g (zs.map fun (z : Nat) (v : Value) => v = .int k z) := by
  obtain ⟨g', t', cs, fuel, p, hg', ht', hvar, hd⟩ := h
  obtain rfl := Option.some.inj (hg.symm.trans hg')
  obtain rfl := Option.some.inj (hty.symm.trans ht')
  have hcs := cells_of_tab ht he hce hct hd
  refine entry_of_var hg hvar (by rw [← Array.length_toList, hcs]; simp) fun j p v hp hj => ?_
  rw [← Array.getElem?_toList, hcs] at hj
  simp only [List.getElem?_map, Option.map_eq_some_iff] at hp hj
  obtain ⟨z, hz, rfl⟩ := hp
  obtain ⟨y, ⟨z', hz', rfl⟩, rfl⟩ := hj
  rw [hz] at hz'
  cases hz'
  exact ⟨rfl, rfl⟩
theorem u8x : U8Extra Tryz.prog Tryz.lays196_ren := ⟨by kernel_rfl, by kernel_rfl, by kernel_rfl, by kernel_rfl, by kernel_rfl, by kernel_rfl, by kernel_rfl⟩
theorem acc_at2 : ∀ c : Fin 32, accZ[c.val]? = some (if c.val % 2 = 0 then Lib.accLo (c.val / 2) else Lib.accHi (c.val / 2)) := by decide +kernel
theorem entry_accept {W : World} (h1 : VarReads Tryz.prog W "unicode/utf8.first" firstData) (h2 : VarReads Tryz.prog W "unicode/utf8.acceptRanges" acceptData) : EntryOk W 1 (accZ.map fun (n : Nat) (v : Value) => v = .int .u8 n) := by
  have ht := utf8Tabs_of_readsT (U8Types.of196 Tryz.lays196) u8x h1 h2
  obtain ⟨g', t', cs, fuel, p, hg', ht', hvar, hd⟩ := h2
  obtain rfl := Option.some.inj ((show Tryz.prog.globalNamed "unicode/utf8.acceptRanges" = some 1 by kernel_rfl).symm.trans hg')
  obtain rfl := Option.some.inj (u8x.y4.symm.trans ht')
  have hcs : cs.size = 32 := by
    have h3 : fuel ≠ 0 := fun e => by subst e; simp [DataW.trod] at hd
    obtain ⟨fuel, rfl⟩ := Nat.exists_eq_succ_of_ne_zero h3
    have h4 : cs.toList.length = Tryz.prog.cellsOf (Tryz.lays196_ren.t 139) := by
      have hu := (U8Types.of196 Tryz.lays196).t139
      simp only [DataW.trod, hu, u8x.c138] at hd
      split at hd
      · rename_i hl; simpa using hl
      · cases hd
    rw [← Array.length_toList, h4]; exact (show Tryz.prog.cellsOf (Tryz.lays196_ren.t 139) = 32 by kernel_rfl)
  refine entry_of_var hg' hvar (by rw [hcs]; rfl) fun j p v hp hj => ?_
  have hj32 : j < 32 := by rw [← hcs]; exact (Array.getElem?_eq_some_iff.1 hj).1
  simp only [List.getElem?_map, Option.map_eq_some_iff] at hp
  obtain ⟨z, hz, rfl⟩ := hp
  rw [acc_at2 ⟨j, hj32⟩] at hz
  cases hz
  have ⟨a1, a2⟩ := ht.2 (j / 2) (by omega)
  rcases Nat.mod_two_eq_zero_or_one j with e | e
  · have e2 : 2 * (j / 2) = j := by omega
    rw [e2] at a1
    have h5 := (World.var?_cell hg' hvar j).symm.trans a1
    rw [hj] at h5
    cases h5
    simp [e, Value.oneCell']
  · have e2 : 2 * (j / 2) + 1 = j := by omega
    rw [e2] at a2
    have h5 := (World.var?_cell hg' hvar j).symm.trans a2
    rw [hj] at h5
    cases h5
    simp [e, Value.oneCell']
theorem entry_err {W : World} {n : String} {g : Nat} {t : TypeId} {s : String} {d : DataW Unit} (hg : Tryz.prog.globalNamed n = some g) (hty : (Tryz.prog.globals[g]?).map (·.type) = some t) {ms : Array (String × TypeId)} (hu : Tryz.prog.underlying t = some (.interface ms)) (h : VarReads Tryz.prog W n (.iface s d)) : EntryOk W g [fun v => ∃ te pe, v = .iface te pe] := by
  obtain ⟨g', t', cs, fuel, p, hg', ht', hvar, hd⟩ := h
  obtain rfl := Option.some.inj (hg.symm.trans hg')
  obtain rfl := Option.some.inj (hty.symm.trans ht')
  have h1 : ∃ te pe, cs.toList = [.iface te pe] := by
    cases fuel with
    | zero => simp [DataW.trod] at hd
    | succ fuel =>
      simp only [DataW.trod, hu] at hd
      split at hd
      all_goals first
        | (cases hd; done)
        | skip
      all_goals simp_all
      done
  obtain ⟨te, pe, he⟩ := h1
  refine entry_of_var hg hvar (by rw [← Array.length_toList, he]; rfl) fun j p v hp hj => ?_
  rw [← Array.getElem?_toList, he] at hj
  match j, hp, hj with
  | 0, hp, hj => cases hp; cases hj; exact ⟨rfl, _, _, rfl⟩
  | j + 1, hp, hj => simp at hp
theorem entry_int {W : World} (hS : W.ShapedOpen Tryz.prog) {g : Nat} {z : Array Value} {t : TypeId} {k : IntKind} (hg : g < Tryz.prog.globals.size) (h0 : (((begin Tryz.prog (fun _ _ => 0) default).world.heap[g]?).bind Obj.row?) = some (z, t)) (hz : z.size = 1) (hb : Tryz.prog.buildable t = true)
    (hts : Tryz.prog.cellTypes Tryz.prog.depth t = some [t]) (ht : Tryz.prog.underlying t = some (.int k)) : EntryOk W g [fun v => ∃ m, v = .int k m] := by
  obtain ⟨cs, h1, h2, h3⟩ := hS.1 g z t hg h0
  have hsz : cs.size = 1 := by rw [h2, hz]
  obtain ⟨ts, hts', _, hall⟩ := h3 hb
  rw [hts] at hts'
  cases hts'
  have h4 : cs[0]? = some cs[0] := Array.getElem?_eq_getElem (by omega)
  obtain ⟨u, hu, hc⟩ := hall 0 cs[0] h4
  cases hu
  have h5 : ∃ m, cs[0] = .int k m := by
    unfold Cell.ok at hc
    rw [ht] at hc
    generalize cs[0] = v at hc
    cases v <;> first | exact hc.elim | (obtain ⟨rfl, _⟩ := hc; exact ⟨_, rfl⟩)
  obtain ⟨m, hm⟩ := h5
  refine ⟨⟨cs, t, _, h1, hsz⟩, fun j p hp => ?_⟩
  match j, hp with
  | 0, hp =>
    cases hp
    refine ⟨.int k m, ⟨?_, trivial, rfl⟩, m, rfl⟩
    unfold World.cell?
    simp only [h1, h4, hm]
    simp
  | j + 1, hp => simp at hp
abbrev T64 : List Nat := [1, 10, 100, 1000, 10000, 100000, 1000000, 10000000, 100000000, 1000000000, 10000000000, 100000000000, 1000000000000, 10000000000000, 100000000000000, 1000000000000000, 10000000000000000, 100000000000000000, 1000000000000000000, 10000000000000000000]
abbrev B32 : List Nat := [0, 1, 28, 2, 29, 14, 24, 3, 30, 22, 20, 15, 25, 17, 4, 8, 31, 27, 13, 23, 21, 19, 16, 7, 26, 12, 18, 6, 11, 5, 10, 9]
abbrev B64 : List Nat := [0, 1, 56, 2, 57, 49, 28, 3, 61, 58, 42, 50, 38, 29, 17, 4, 62, 47, 59, 36, 45, 43, 51, 22, 53, 39, 33, 30, 24, 18, 12, 5, 63, 55, 48, 27, 60, 41, 37, 16, 46, 35, 44, 21, 52, 32, 23, 11, 54, 26, 40, 15, 34, 20, 31, 10, 25, 14, 19, 9, 13, 8, 7, 6]
abbrev laidL : List (String × DataW Unit) := [("math/bits.deBruijn32tab", Rows.laid_math_bits_deBruijn32tab), ("math/bits.deBruijn64tab", Rows.laid_math_bits_deBruijn64tab), ("internal/strconv.uint64pow10", Rows.laid_internal_strconv_uint64pow10), ("unicode/utf8.acceptRanges", Rows.laid_unicode_utf8_acceptRanges), ("strconv.ErrRange", Rows.laid_strconv_ErrRange), ("strconv.ErrSyntax", Rows.laid_strconv_ErrSyntax), ("unicode/utf8.first", Rows.laid_unicode_utf8_first)]
theorem tabs_ok {W : World} (hL : laidMetH Tryz.prog laidL W) (hS : W.ShapedOpen Tryz.prog) : TabOk immG W := by
  have hL' : laidMet Tryz.prog laidL W := hL
  have m1 : VarReads Tryz.prog W "unicode/utf8.first" (tabData .u8 (Go.Pinned.utf8FirstZ.map fun (z : Nat) => (z : Int))) := laidMet.reads hL' (d := Rows.laid_unicode_utf8_first) (.tail _ (.tail _ (.tail _ (.tail _ (.tail _ (.tail _ (.head _)))))))
  have m2 : VarReads Tryz.prog W "unicode/utf8.acceptRanges" acceptData := laidMet.reads hL' (d := Rows.laid_unicode_utf8_acceptRanges) (.tail _ (.tail _ (.tail _ (.head _))))
  have m3 : VarReads Tryz.prog W "internal/strconv.uint64pow10" (tabData .u64 (T64.map fun (z : Nat) => (z : Int))) := laidMet.reads hL' (d := Rows.laid_internal_strconv_uint64pow10) (.tail _ (.tail _ (.head _)))
  have m4 : VarReads Tryz.prog W "math/bits.deBruijn32tab" (tabData .u8 (B32.map fun (z : Nat) => (z : Int))) := laidMet.reads hL' (d := Rows.laid_math_bits_deBruijn32tab) (.head _)
  have m5 : VarReads Tryz.prog W "math/bits.deBruijn64tab" (tabData .u8 (B64.map fun (z : Nat) => (z : Int))) := laidMet.reads hL' (d := Rows.laid_math_bits_deBruijn64tab) (.tail _ (.head _))
  have m6 : VarReads Tryz.prog W "strconv.ErrSyntax" Rows.laid_strconv_ErrSyntax := laidMet.reads hL' (.tail _ (.tail _ (.tail _ (.tail _ (.tail _ (.head _))))))
  have m7 : VarReads Tryz.prog W "strconv.ErrRange" Rows.laid_strconv_ErrRange := laidMet.reads hL' (.tail _ (.tail _ (.tail _ (.tail _ (.head _)))))
  have m8 : firstData = tabData .u8 (Go.Pinned.utf8FirstZ.map fun (z : Nat) => (z : Int)) := by kernel_rfl
  have e1 : EntryOk W 0 (Go.Pinned.utf8FirstZ.map fun (n : Nat) (v : Value) => v = .int .u8 n) :=
    entry_ints (t := Tryz.lays196_ren.t 119) u8x.n3 u8x.y3 (U8Types.of196 Tryz.lays196).t119 (U8Types.of196 Tryz.lays196).t5 u8x.c5 u8x.c119 m1
  have e2 : EntryOk W 1 (accZ.map fun (n : Nat) (v : Value) => v = .int .u8 n) := entry_accept (m8 ▸ m1) m2
  have e3 : EntryOk W 2 (T64.map fun (n : Nat) (v : Value) => v = .int .u64 n) :=
    entry_ints (t := 309) (e := 271) (cnt := 20) (by kernel_rfl) (by kernel_rfl) (by kernel_rfl) (by kernel_rfl) (by kernel_rfl) (by kernel_rfl) m3
  have e4 : EntryOk W 6 (B32.map fun (n : Nat) (v : Value) => v = .int .u8 n) :=
    entry_ints (t := 322) (e := 5) (cnt := 32) (by kernel_rfl) (by kernel_rfl) (by kernel_rfl) (by kernel_rfl) (by kernel_rfl) (by kernel_rfl) m4
  have e5 : EntryOk W 7 (B64.map fun (n : Nat) (v : Value) => v = .int .u8 n) :=
    entry_ints (t := 323) (e := 5) (cnt := 64) (by kernel_rfl) (by kernel_rfl) (by kernel_rfl) (by kernel_rfl) (by kernel_rfl) (by kernel_rfl) m5
  have e6 : EntryOk W 4 [fun v => ∃ te pe, v = .iface te pe] := entry_err (t := 225) (by kernel_rfl) (by kernel_rfl) Tryz.underlying225 m6
  have e7 : EntryOk W 5 [fun v => ∃ te pe, v = .iface te pe] := entry_err (t := 225) (by kernel_rfl) (by kernel_rfl) Tryz.underlying225 m7
  have e8 : EntryOk W 3 [fun v => ∃ m, v = .int .i64 m] := entry_int hS (z := #[.int .i64 0]) (t := 3) (of_decide_eq_true (by kernel_rfl)) (by kernel_rfl) rfl (by kernel_rfl) (by kernel_rfl) (by kernel_rfl)
  intro x hx
  unfold tabL at hx
  simp only [List.mem_cons, List.not_mem_nil, or_false] at hx
  rcases hx with rfl | rfl | rfl | rfl | rfl | rfl | rfl | rfl <;> first | exact e1 | exact e2 | exact e3 | exact e4 | exact e5 | exact e6 | exact e7 | exact e8
noncomputable abbrev N0 : Nat := (World.settled Tryz.prog default).heap.size
noncomputable def laidWorld (os : Os) : World :=
  let w0 := World.holding Tryz.prog os ⟨#[.cells #[.string ⟨#[105, 110, 118, 97, 108, 105, 100, 32, 115, 121, 110, 116, 97, 120]⟩] 321, .cells #[.string ⟨#[118, 97, 108, 117, 101, 32, 111, 117, 116, 32, 111, 102, 32, 114, 97, 110, 103, 101]⟩] 321], #[], []⟩
  let put (h : Array Obj) (g : Nat) (cs : Array Value) : Array Obj := h.modify g fun
    | .cells _ t frozen => .cells cs t frozen
    | o => o
  let h1 := put w0.heap 0 (Go.Pinned.utf8FirstZ.map fun (z : Nat) => Value.int .u8 z).toArray
  let h2 := put h1 1 (accZ.map fun (z : Nat) => Value.int .u8 z).toArray
  let h3 := put h2 2 (T64.map fun (z : Nat) => Value.int .u64 z).toArray
  let h4 := put h3 6 (B32.map fun (z : Nat) => Value.int .u8 z).toArray
  let h5 := put h4 7 (B64.map fun (z : Nat) => Value.int .u8 z).toArray
  let h6 := put h5 4 #[.iface 319 (.pointer (some ⟨(World.settled Tryz.prog os).heap.size, 0, none⟩))]
  let h7 := put h6 5 #[.iface 319 (.pointer (some ⟨(World.settled Tryz.prog os).heap.size + 1, 0, none⟩))]
  { w0 with heap := h7 }
theorem laid_met (os : Os) (args : Array Value) : laidMet Tryz.prog laidL ((laidWorld os).forCall (fun _ _ => 0) ⟨#[], args, []⟩).memory :=
  (LaidIn.of_run (l := laidL) [0, 1, 2, 3, 4, 5, 6, 7, N0, N0 + 1] 8 (by kernel_rfl) (by kernel_rfl) (by kernel_rfl) (by kernel_rfl)).met
end Go.Proofs.YticbbfbpeimkbaaGreatDoor
namespace Go.Proofs.YticbbfbpeimkbaaGreatDoor
open Go.Ab
def ir13 : AFn := ⟨51, 1, [.t 2], .seq (.reg [] [⟨some 1, none, .boxv (.t 0), []⟩, ⟨some 2, none, .mv (.k (.bool false)), []⟩])
 (.seq (.seq (.reg [] [⟨some 9, none, .ld 5 true (.t 1), []⟩, ⟨some 10, none, .call 53 [(.t 9)], []⟩, ⟨some 11, none, .bi .gtr .i64 (.t 10) (.k (.int .i64 2000)), []⟩])
 (.cond (.t 11) (.seq (.reg [] [⟨some 12, none, .call 54 [], []⟩, ⟨some 2, none, .mv (.t 12), []⟩])
 (.ret)) (.skip)))
 (.seq (.reg [] [⟨some 14, none, .ld 5 true (.t 1), []⟩, ⟨some 15, none, .call 55 [(.t 14)], []⟩, ⟨some 13, none, .mv (.t 15), []⟩, ⟨some 16, none, .ext (.t 13) 0, []⟩, ⟨some 17, none, .ext (.t 13) 1, []⟩, ⟨some 3, none, .mv (.t 16), []⟩, ⟨some 4, none, .mv (.t 17), []⟩])
 (.seq (.seq (.reg [] [⟨some 18, none, .mv (.t 4), []⟩, ⟨some 19, none, .not (.t 18), []⟩])
 (.cond (.t 19) (.seq (.reg [] [⟨some 20, none, .call 54 [], []⟩, ⟨some 2, none, .mv (.t 20), []⟩])
 (.ret)) (.skip)))
 (.seq (.reg [] [⟨some 22, none, .mv (.t 3), []⟩, ⟨some 23, none, .call 56 [(.t 22)], []⟩, ⟨some 21, none, .mv (.t 23), []⟩, ⟨some 24, none, .ext (.t 21) 0, []⟩, ⟨some 25, none, .ext (.t 21) 1, []⟩, ⟨some 5, none, .mv (.t 24), []⟩, ⟨some 6, none, .mv (.t 25), []⟩])
 (.seq (.seq (.reg [] [⟨some 26, none, .mv (.t 5), []⟩, ⟨some 27, none, .lens (.t 26), []⟩, ⟨some 28, none, .bi .gtr .i64 (.t 27) (.k (.int .i64 8192)), []⟩])
 (.cond (.t 28) (.seq (.reg [] [⟨some 29, none, .mv (.t 6), []⟩, ⟨some 30, none, .mv (.t 29), []⟩, ⟨some 31, (some (30, true)), .call 54 [], []⟩, ⟨some 32, none, .pick (.t 30) (.t 31) (.k (.bool false)), []⟩, ⟨some 2, none, .mv (.t 32), []⟩])
 (.ret)) (.skip)))
 (.seq (.reg [] [⟨some 34, none, .mv (.t 5), []⟩, ⟨some 35, none, .call 57 [(.t 34)], []⟩, ⟨some 33, none, .mv (.t 35), []⟩, ⟨some 36, none, .ext (.t 33) 0, []⟩, ⟨some 37, none, .ext (.t 33) 1, []⟩, ⟨some 7, none, .mv (.t 36), []⟩, ⟨some 8, none, .mv (.t 37), []⟩])
 (.seq (.reg [] [⟨some 38, none, .mv (.t 6), []⟩, ⟨some 39, none, .mv (.t 38), []⟩, ⟨some 40, (some (39, true)), .mv (.t 8), []⟩, ⟨some 41, (some (39, true)), .bi .eql .i64 (.t 40) (.k (.int .i64 0)), []⟩, ⟨some 42, none, .pick (.t 39) (.t 41) (.k (.bool false)), []⟩, ⟨some 43, none, .mv (.t 42), []⟩, ⟨some 44, (some (43, true)), .mv (.t 3), []⟩, ⟨some 45, (some (43, true)), .mv (.t 7), []⟩, ⟨some 46, (some (43, true)), .call 29 [(.t 44), (.t 45)], []⟩, ⟨some 47, none, .pick (.t 43) (.t 46) (.k (.bool false)), []⟩, ⟨some 48, none, .mv (.t 47), []⟩, ⟨some 49, (some (48, true)), .call 54 [], []⟩, ⟨some 50, none, .pick (.t 48) (.t 49) (.k (.bool false)), []⟩, ⟨some 2, none, .mv (.t 50), []⟩])
 (.ret))))))))⟩
theorem ck13 : chkFn Tryz.prog 13 ir13 = true := by kernel_rfl
def ir29 : AFn := ⟨26, 2, [.t 4], .seq (.reg [] [⟨some 4, none, .mv (.k (.bool false)), []⟩])
 (.seq (.seq (.reg [] [⟨some 6, none, .mv (.t 0), []⟩, ⟨some 7, none, .len (.t 6), []⟩, ⟨some 8, none, .mv (.t 1), []⟩, ⟨some 9, none, .len (.t 8), []⟩, ⟨some 10, none, .bi .neq .i64 (.t 7) (.t 9), []⟩])
 (.cond (.t 10) (.seq (.reg [] [⟨some 4, none, .mv (.k (.bool false)), []⟩])
 (.ret)) (.skip)))
 (.seq (.seq (.reg [] [⟨some 5, none, .mv (.k (.int .i64 0)), []⟩])
 (.block 0 (.loop [0, 1, 5] (.seq (.seq (.reg [] [⟨some 11, none, .mv (.t 5), []⟩, ⟨some 12, none, .mv (.t 0), []⟩, ⟨some 13, none, .len (.t 12), []⟩, ⟨some 14, none, .bi .lss .i64 (.t 11) (.t 13), []⟩])
 (.cond (.t 14) (.skip) (.exit 0)))
 (.seq (.block 1 (.seq (.reg [0, 1, 2, 3, 4, 5, 6, 7, 8] [⟨some 17, none, .mv (.t 0), []⟩, ⟨some 18, none, .mv (.t 5), []⟩, ⟨some 19, none, .ia 2 (.t 17) (.t 18), []⟩, ⟨some 20, none, .ld 2 true (.t 19), []⟩, ⟨some 21, none, .mv (.t 1), []⟩, ⟨some 22, none, .mv (.t 5), []⟩, ⟨some 23, none, .ia 2 (.t 21) (.t 22), []⟩, ⟨some 24, none, .ld 2 true (.t 23), []⟩, ⟨some 25, none, .eqa true [(.i .i64), .s] (.t 20) (.t 24), []⟩])
 (.cond (.t 25) (.seq (.reg [] [⟨some 4, none, .mv (.k (.bool false)), []⟩])
 (.ret)) (.skip))))
 (.reg [] [⟨some 15, none, .mv (.t 5), []⟩, ⟨some 16, none, .bi .add .i64 (.t 15) (.k (.int .i64 1)), []⟩, ⟨some 5, none, .mv (.t 16), []⟩]))))))
 (.seq (.reg [] [⟨some 4, none, .mv (.k (.bool true)), []⟩])
 (.ret))))⟩
theorem ck29 : chkFn Tryz.prog 29 ir29 = true := by kernel_rfl
def ir53 : AFn := ⟨50, 1, [.t 2], .seq (.reg [] [⟨some 1, none, .boxv (.t 0), []⟩, ⟨some 2, none, .mv (.k (.int .i64 0)), []⟩])
 (.seq (.reg [] [⟨some 6, none, .fa 2 (.t 1), []⟩, ⟨some 7, none, .ld 1 false (.t 6), []⟩, ⟨some 8, none, .lens (.t 7), []⟩, ⟨some 9, none, .bi .add .i64 (.k (.int .i64 1)) (.t 8), []⟩, ⟨some 3, none, .mv (.t 9), []⟩])
 (.seq (.seq (.reg [] [⟨some 4, none, .mv (.k (.int .i64 0)), []⟩])
 (.block 0 (.loop [1, 3, 4] (.seq (.seq (.reg [] [⟨some 10, none, .mv (.t 4), []⟩, ⟨some 11, none, .fa 3 (.t 1), []⟩, ⟨some 12, none, .ld 1 false (.t 11), []⟩, ⟨some 13, none, .len (.t 12), []⟩, ⟨some 14, none, .bi .lss .i64 (.t 10) (.t 13), []⟩])
 (.cond (.t 14) (.skip) (.exit 0)))
 (.seq (.block 1 (.reg [] [⟨some 17, none, .mv (.t 3), []⟩, ⟨some 18, none, .fa 3 (.t 1), []⟩, ⟨some 19, none, .ld 1 false (.t 18), []⟩, ⟨some 20, none, .mv (.t 4), []⟩, ⟨some 21, none, .ia 5 (.t 19) (.t 20), []⟩, ⟨some 22, none, .ld 5 true (.t 21), []⟩, ⟨some 23, none, .call 53 [(.t 22)], []⟩, ⟨some 24, none, .bi .add .i64 (.t 17) (.t 23), []⟩, ⟨some 3, none, .mv (.t 24), []⟩]))
 (.reg [] [⟨some 15, none, .mv (.t 4), []⟩, ⟨some 16, none, .bi .add .i64 (.t 15) (.k (.int .i64 1)), []⟩, ⟨some 4, none, .mv (.t 16), []⟩]))))))
 (.seq (.seq (.reg [] [⟨some 5, none, .mv (.k (.int .i64 0)), []⟩])
 (.block 2 (.loop [1, 3, 5] (.seq (.seq (.reg [] [⟨some 25, none, .mv (.t 5), []⟩, ⟨some 26, none, .fa 4 (.t 1), []⟩, ⟨some 27, none, .ld 1 false (.t 26), []⟩, ⟨some 28, none, .len (.t 27), []⟩, ⟨some 29, none, .bi .lss .i64 (.t 25) (.t 28), []⟩])
 (.cond (.t 29) (.skip) (.exit 2)))
 (.seq (.block 3 (.reg [0, 1, 2, 3, 4, 5, 6, 7, 8, 9, 10, 11, 12, 13, 14, 15, 16, 17] [⟨some 32, none, .mv (.t 3), []⟩, ⟨some 33, none, .fa 4 (.t 1), []⟩, ⟨some 34, none, .ld 1 false (.t 33), []⟩, ⟨some 35, none, .mv (.t 5), []⟩, ⟨some 36, none, .ia 6 (.t 34) (.t 35), []⟩, ⟨some 37, none, .fa 0 (.t 36), []⟩, ⟨some 38, none, .ld 1 false (.t 37), []⟩, ⟨some 39, none, .lens (.t 38), []⟩, ⟨some 40, none, .bi .add .i64 (.t 32) (.t 39), []⟩, ⟨some 41, none, .fa 4 (.t 1), []⟩, ⟨some 42, none, .ld 1 false (.t 41), []⟩, ⟨some 43, none, .mv (.t 5), []⟩, ⟨some 44, none, .ia 6 (.t 42) (.t 43), []⟩, ⟨some 45, none, .fa 1 (.t 44), []⟩, ⟨some 46, none, .ld 5 true (.t 45), []⟩, ⟨some 47, none, .call 53 [(.t 46)], [2, 6]⟩, ⟨some 48, none, .bi .add .i64 (.t 40) (.t 47), []⟩, ⟨some 3, none, .mv (.t 48), []⟩]))
 (.reg [] [⟨some 30, none, .mv (.t 5), []⟩, ⟨some 31, none, .bi .add .i64 (.t 30) (.k (.int .i64 1)), []⟩, ⟨some 5, none, .mv (.t 31), []⟩]))))))
 (.seq (.reg [] [⟨some 49, none, .mv (.t 3), []⟩, ⟨some 2, none, .mv (.t 49), []⟩])
 (.ret)))))⟩
theorem ck53 : chkFn Tryz.prog 53 ir53 = true := by kernel_rfl
def ir54 : AFn := ⟨40, 0, [.t 0], .seq (.reg [] [⟨some 0, none, .mv (.k (.bool false)), []⟩])
 (.seq (.reg [] [⟨some 4, none, .bld [.int .i64 0, .int .i64 0, .str [], .sl .nil 5 [], .sl .nil 6 []] [(0, 1, (.k (.int .i64 2))), (1, 1, (.k (.int .i64 1)))], []⟩, ⟨some 5, none, .bld [.int .i64 0, .int .i64 0, .str [], .sl .nil 5 [], .sl .nil 6 []] [(0, 1, (.k (.int .i64 8))), (2, 1, (.k (.str [97])))], []⟩, ⟨some 6, none, .bls 5 2 [.int .i64 0, .int .i64 0, .str [], .sl .nil 5 [], .sl .nil 6 []] [(0, (.t 4)), (1, (.t 5))], []⟩, ⟨some 7, none, .bld [.int .i64 0, .int .i64 0, .str [], .sl .nil 5 [], .sl .nil 6 []] [(0, 1, (.k (.int .i64 6))), (3, 1, (.t 6))], []⟩, ⟨some 1, none, .alloc [.int .i64 0, .int .i64 0, .str [], .sl .nil 5 [], .sl .nil 6 []], []⟩, ⟨none, none, .st 5 (.t 1) (.t 7), []⟩])
 (.seq (.reg [] [⟨some 9, none, .ld 5 true (.t 1), []⟩, ⟨some 10, none, .call 55 [(.t 9)], []⟩, ⟨some 8, none, .mv (.t 10), []⟩, ⟨some 11, none, .ext (.t 8) 0, []⟩, ⟨some 12, none, .ext (.t 8) 1, []⟩, ⟨some 2, none, .mv (.t 11), []⟩, ⟨some 3, none, .mv (.t 12), []⟩])
 (.seq (.reg [] [⟨some 13, none, .mv (.t 3), []⟩, ⟨some 14, none, .mv (.t 13), []⟩, ⟨some 15, (some (14, true)), .mv (.t 2), []⟩, ⟨some 16, (some (14, true)), .len (.t 15), []⟩, ⟨some 17, (some (14, true)), .bi .eql .i64 (.t 16) (.k (.int .i64 5)), []⟩, ⟨some 18, none, .pick (.t 14) (.t 17) (.k (.bool false)), []⟩, ⟨some 19, none, .mv (.t 18), []⟩, ⟨some 20, (some (19, true)), .mv (.t 2), []⟩, ⟨some 21, (some (19, true)), .ia 2 (.t 20) (.k (.int .i64 2)), []⟩, ⟨some 22, (some (19, true)), .fa 1 (.t 21), []⟩, ⟨some 23, (some (19, true)), .ld 1 false (.t 22), []⟩, ⟨some 24, (some (19, true)), .bs .eql (.t 23) (.k (.str [36])), []⟩, ⟨some 25, none, .pick (.t 19) (.t 24) (.k (.bool false)), []⟩, ⟨some 26, none, .mv (.t 25), []⟩, ⟨some 27, (some (26, true)), .ld 5 true (.t 1), []⟩, ⟨some 28, (some (26, true)), .call 115 [(.t 27)], []⟩, ⟨some 29, none, .pick (.t 26) (.t 28) (.k (.bool false)), []⟩, ⟨some 30, none, .mv (.t 29), []⟩, ⟨some 31, (some (30, true)), .ld 5 true (.t 1), []⟩, ⟨some 32, (some (30, true)), .call 116 [(.t 31)], []⟩, ⟨some 33, (some (30, true)), .bi .eql .i64 (.t 32) (.k (.int .i64 1)), []⟩, ⟨some 34, none, .pick (.t 30) (.t 33) (.k (.bool false)), []⟩, ⟨some 35, none, .mv (.t 34), []⟩, ⟨some 36, (some (35, true)), .bld [.int .i64 0, .int .i64 0, .str [], .sl .nil 5 [], .sl .nil 6 []] [(0, 1, (.k (.int .i64 5))), (2, 1, (.k (.str [116, 114, 117, 101])))], []⟩, ⟨some 37, (some (35, true)), .call 115 [(.t 36)], []⟩, ⟨some 38, (some (35, true)), .not (.t 37), []⟩, ⟨some 39, none, .pick (.t 35) (.t 38) (.k (.bool false)), []⟩, ⟨some 0, none, .mv (.t 39), []⟩])
 (.ret))))⟩
theorem ck54 : chkFn Tryz.prog 54 ir54 = true := by kernel_rfl
def ir55 : AFn := ⟨9, 1, [.t 2, .t 3], .seq (.reg [] [⟨some 1, none, .boxv (.t 0), []⟩, ⟨some 2, none, .mv (.k (.sl .nil 2 [])), []⟩, ⟨some 3, none, .mv (.k (.bool false)), []⟩])
 (.seq (.seq (.reg [] [⟨some 4, none, .ld 5 true (.t 1), []⟩, ⟨some 5, none, .call 117 [(.t 4)], []⟩, ⟨some 6, none, .not (.t 5), []⟩])
 (.cond (.t 6) (.seq (.reg [] [⟨some 2, none, .mv (.k (.sl .nil 2 [])), []⟩, ⟨some 3, none, .mv (.k (.bool false)), []⟩])
 (.ret)) (.skip)))
 (.seq (.reg [] [⟨some 7, none, .ld 5 true (.t 1), []⟩, ⟨some 8, none, .call 118 [(.k (.sl .nil 2 [])), (.t 7)], []⟩, ⟨some 2, none, .mv (.t 8), []⟩, ⟨some 3, none, .mv (.k (.bool true)), []⟩])
 (.ret)))⟩
theorem ck55 : chkFn Tryz.prog 55 ir55 = true := by kernel_rfl
def ir56 : AFn := ⟨35, 1, [.t 2, .t 3], .seq (.reg [] [⟨some 2, none, .mv (.k (.str [])), []⟩, ⟨some 3, none, .mv (.k (.bool false)), []⟩])
 (.seq (.reg [] [⟨some 4, none, .mv (.k (.sl .nil 1 [])), []⟩])
 (.seq (.seq (.reg [] [⟨some 7, none, .mv (.t 0), []⟩, ⟨some 8, none, .len (.t 7), []⟩, ⟨some 9, none, .mv (.k (.int .i64 0)), []⟩])
 (.block 0 (.loop [4, 7, 8, 9] (.seq (.reg [] [⟨some 10, none, .bi .lss .i64 (.t 9) (.t 8), []⟩])
 (.seq (.cond (.t 10) (.skip) (.exit 0))
 (.seq (.block 1 (.seq (.reg [] [⟨some 11, none, .ia 2 (.t 7) (.t 9), []⟩, ⟨some 12, none, .ld 2 true (.t 11), []⟩, ⟨some 6, none, .alloc [.int .i64 0, .str []], []⟩, ⟨none, none, .st 2 (.t 6) (.t 12), []⟩])
 (.block 2 (.seq (.reg [] [⟨some 19, none, .ld 2 true (.t 6), []⟩, ⟨some 20, none, .call 119 [(.t 19)], []⟩, ⟨some 21, none, .not (.t 20), []⟩, ⟨some 18, none, .mv (.t 21), []⟩])
 (.cond (.t 18) (.seq (.reg [] [⟨some 2, none, .mv (.k (.str [])), []⟩, ⟨some 3, none, .mv (.k (.bool false)), []⟩])
 (.ret)) (.seq (.reg [] [⟨some 23, none, .fa 0 (.t 6), []⟩, ⟨some 24, none, .ld 1 false (.t 23), []⟩, ⟨some 25, none, .bi .eql .i64 (.t 24) (.k (.int .i64 5)), []⟩, ⟨some 22, none, .mv (.t 25), []⟩])
 (.cond (.t 22) (.reg [] [⟨some 26, none, .mv (.t 4), []⟩, ⟨some 27, none, .fa 1 (.t 6), []⟩, ⟨some 28, none, .ld 1 false (.t 27), []⟩, ⟨some 29, none, .call 120 [(.t 28)], []⟩, ⟨some 30, none, .bls 1 1 [.str []] [(0, (.t 29))], []⟩, ⟨some 31, none, .app 1 16 (.t 26) (.t 30), []⟩, ⟨some 4, none, .mv (.t 31), []⟩]) (.reg [] [⟨some 13, none, .mv (.t 4), []⟩, ⟨some 14, none, .fa 1 (.t 6), []⟩, ⟨some 15, none, .ld 1 false (.t 14), []⟩, ⟨some 16, none, .bls 1 1 [.str []] [(0, (.t 15))], []⟩, ⟨some 17, none, .app 1 16 (.t 13) (.t 16), []⟩, ⟨some 4, none, .mv (.t 17), []⟩]))))))))
 (.reg [] [⟨some 32, none, .bi .add .i64 (.t 9) (.k (.int .i64 1)), []⟩, ⟨some 9, none, .mv (.t 32), []⟩])))))))
 (.seq (.reg [] [⟨some 33, none, .mv (.t 4), []⟩, ⟨some 34, none, .call 121 [(.t 33), (.k (.str [32]))], []⟩, ⟨some 2, none, .mv (.t 34), []⟩, ⟨some 3, none, .mv (.k (.bool true)), []⟩])
 (.ret))))⟩
theorem ck56 : chkFn Tryz.prog 56 ir56 = true := by kernel_rfl
def ir57 : AFn := ⟨47, 1, [.t 2, .t 3], .seq (.reg [] [⟨some 2, none, .mv (.k (.sl .nil 2 [])), []⟩, ⟨some 3, none, .mv (.k (.int .i64 0)), []⟩])
 (.scope (.seq (.block 0 (.seq (.reg [] [⟨some 10, none, .mv (.t 0), []⟩, ⟨some 11, none, .lens (.t 10), []⟩, ⟨some 12, none, .bi .gtr .i64 (.t 11) (.k (.int .i64 8192)), []⟩, ⟨some 9, none, .mv (.t 12), []⟩])
 (.cond (.t 9) (.seq (.reg [] [⟨some 2, none, .mv (.k (.sl .nil 2 [])), []⟩, ⟨some 3, none, .mv (.k (.int .i64 3)), []⟩])
 (.ret)) (.seq (.reg [] [⟨some 14, none, .mv (.t 0), []⟩, ⟨some 15, none, .call 122 [(.t 14)], []⟩, ⟨some 16, none, .not (.t 15), []⟩, ⟨some 13, none, .mv (.t 16), []⟩])
 (.cond (.t 13) (.seq (.reg [] [⟨some 2, none, .mv (.k (.sl .nil 2 [])), []⟩, ⟨some 3, none, .mv (.k (.int .i64 2)), []⟩])
 (.ret)) (.skip))))))
 (.seq (.reg [] [⟨some 4, none, .mv (.k (.sl .nil 2 [])), []⟩])
 (.seq (.skip)
 (.seq (.seq (.reg [] [⟨some 5, none, .mv (.k (.int .i64 0)), []⟩])
 (.block 1 (.loop [0, 4, 5] (.seq (.seq (.reg [] [⟨some 17, none, .mv (.t 5), []⟩, ⟨some 18, none, .mv (.t 0), []⟩, ⟨some 19, none, .lens (.t 18), []⟩, ⟨some 20, none, .bi .lss .i64 (.t 17) (.t 19), []⟩])
 (.cond (.t 20) (.skip) (.exit 1)))
 (.block 2 (.seq (.seq (.reg [] [⟨some 21, none, .mv (.t 0), []⟩, ⟨some 22, none, .mv (.t 5), []⟩, ⟨some 23, none, .sls (.t 21) (some (.t 22)) none, []⟩, ⟨some 24, none, .call 123 [(.t 23)], []⟩, ⟨some 6, none, .mv (.t 24), []⟩])
 (.seq (.reg [] [⟨some 25, none, .mv (.t 6), []⟩, ⟨some 26, none, .bi .gtr .i64 (.t 25) (.k (.int .i64 0)), []⟩])
 (.cond (.t 26) (.seq (.reg [] [⟨some 27, none, .mv (.t 5), []⟩, ⟨some 28, none, .mv (.t 6), []⟩, ⟨some 29, none, .bi .add .i64 (.t 27) (.t 28), []⟩, ⟨some 5, none, .mv (.t 29), []⟩])
 (.exit 2)) (.skip))))
 (.seq (.reg [] [⟨some 31, none, .mv (.t 0), []⟩, ⟨some 32, none, .mv (.t 5), []⟩, ⟨some 33, none, .sls (.t 31) (some (.t 32)) none, []⟩, ⟨some 34, none, .call 124 [(.t 33)], []⟩, ⟨some 30, none, .mv (.t 34), []⟩, ⟨some 35, none, .ext (.t 30) 0, []⟩, ⟨some 36, none, .ext (.t 30) 1, []⟩, ⟨some 7, none, .alloc [.int .i64 0, .str []], []⟩, ⟨none, none, .st 2 (.t 7) (.t 35), []⟩, ⟨some 8, none, .mv (.t 36), []⟩])
 (.seq (.seq (.reg [] [⟨some 37, none, .mv (.t 8), []⟩, ⟨some 38, none, .bi .eql .i64 (.t 37) (.k (.int .i64 0)), []⟩])
 (.cond (.t 38) (.seq (.reg [] [⟨some 2, none, .mv (.k (.sl .nil 2 [])), []⟩, ⟨some 3, none, .mv (.k (.int .i64 2)), []⟩])
 (.ret)) (.skip)))
 (.seq (.reg [] [⟨some 39, none, .mv (.t 4), []⟩, ⟨some 40, none, .ld 2 true (.t 7), []⟩, ⟨some 41, none, .bls 2 1 [.int .i64 0, .str []] [(0, (.t 40))], []⟩, ⟨some 42, none, .app 2 24 (.t 39) (.t 41), []⟩, ⟨some 4, none, .mv (.t 42), []⟩])
 (.reg [] [⟨some 43, none, .mv (.t 5), []⟩, ⟨some 44, none, .mv (.t 8), []⟩, ⟨some 45, none, .bi .add .i64 (.t 43) (.t 44), []⟩, ⟨some 5, none, .mv (.t 45), []⟩]))))))))))
 (.seq (.reg [] [⟨some 46, none, .mv (.t 4), []⟩, ⟨some 2, none, .mv (.t 46), []⟩, ⟨some 3, none, .mv (.k (.int .i64 0)), []⟩])
 (.ret)))))))⟩
theorem ck57 : chkFn Tryz.prog 57 ir57 = true := by kernel_rfl
def ir115 : AFn := ⟨5, 1, [.t 2], .seq (.reg [] [⟨some 1, none, .boxv (.t 0), []⟩, ⟨some 2, none, .mv (.k (.bool false)), []⟩])
 (.seq (.reg [] [⟨some 3, none, .ld 5 true (.t 1), []⟩, ⟨some 4, none, .call 201 [(.t 3), (.k (.clo 202 [] []))], []⟩, ⟨some 2, none, .mv (.t 4), []⟩])
 (.ret))⟩
theorem ck115 : chkFn Tryz.prog 115 ir115 = true := by kernel_rfl
def ir116 : AFn := ⟨41, 1, [.t 2], .seq (.reg [] [⟨some 1, none, .boxv (.t 0), []⟩, ⟨some 2, none, .mv (.k (.int .i64 0)), []⟩])
 (.seq (.reg [] [⟨some 3, none, .mv (.k (.int .i64 0)), []⟩])
 (.seq (.seq (.reg [] [⟨some 8, none, .fa 0 (.t 1), []⟩, ⟨some 9, none, .ld 1 false (.t 8), []⟩])
 (.block 0 (.seq (.reg [] [⟨some 11, none, .bi .eql .i64 (.t 9) (.k (.int .i64 6)), []⟩, ⟨some 10, none, .mv (.t 11), []⟩])
 (.cond (.t 10) (.seq (.reg [] [⟨some 12, none, .fa 3 (.t 1), []⟩, ⟨some 13, none, .ld 1 false (.t 12), []⟩, ⟨some 14, none, .len (.t 13), []⟩, ⟨some 15, none, .mv (.k (.int .i64 0)), []⟩])
 (.block 1 (.loop [3, 13, 14, 15] (.seq (.reg [] [⟨some 16, none, .bi .lss .i64 (.t 15) (.t 14), []⟩])
 (.seq (.cond (.t 16) (.skip) (.exit 1))
 (.seq (.block 2 (.seq (.reg [] [⟨some 17, none, .ia 5 (.t 13) (.t 15), []⟩, ⟨some 18, none, .ld 5 true (.t 17), []⟩, ⟨some 5, none, .alloc [.int .i64 0, .int .i64 0, .str [], .sl .nil 5 [], .sl .nil 6 []], []⟩, ⟨none, none, .st 5 (.t 5) (.t 18), []⟩])
 (.reg [] [⟨some 19, none, .mv (.t 3), []⟩, ⟨some 20, none, .ld 5 true (.t 5), []⟩, ⟨some 21, none, .call 116 [(.t 20)], []⟩, ⟨some 22, none, .mm true (.t 19) [(.t 21)], []⟩, ⟨some 3, none, .mv (.t 22), []⟩])))
 (.reg [] [⟨some 23, none, .bi .add .i64 (.t 15) (.k (.int .i64 1)), []⟩, ⟨some 15, none, .mv (.t 23), []⟩]))))))) (.seq (.reg [] [⟨some 25, none, .bi .eql .i64 (.t 9) (.k (.int .i64 7)), []⟩, ⟨some 24, none, .mv (.t 25), []⟩])
 (.cond (.t 24) (.seq (.reg [] [⟨some 26, none, .fa 4 (.t 1), []⟩, ⟨some 27, none, .ld 1 false (.t 26), []⟩, ⟨some 28, none, .len (.t 27), []⟩, ⟨some 29, none, .mv (.k (.int .i64 0)), []⟩])
 (.block 3 (.loop [3, 27, 28, 29] (.seq (.reg [] [⟨some 30, none, .bi .lss .i64 (.t 29) (.t 28), []⟩])
 (.seq (.cond (.t 30) (.skip) (.exit 3))
 (.seq (.block 4 (.seq (.reg [] [⟨some 31, none, .ia 6 (.t 27) (.t 29), []⟩, ⟨some 32, none, .ld 6 true (.t 31), []⟩, ⟨some 7, none, .alloc [.str [], .int .i64 0, .int .i64 0, .str [], .sl .nil 5 [], .sl .nil 6 []], []⟩, ⟨none, none, .st 6 (.t 7) (.t 32), []⟩])
 (.reg [] [⟨some 33, none, .mv (.t 3), []⟩, ⟨some 34, none, .fa 1 (.t 7), []⟩, ⟨some 35, none, .ld 5 true (.t 34), []⟩, ⟨some 36, none, .call 116 [(.t 35)], []⟩, ⟨some 37, none, .mm true (.t 33) [(.t 36)], []⟩, ⟨some 3, none, .mv (.t 37), []⟩])))
 (.reg [] [⟨some 38, none, .bi .add .i64 (.t 29) (.k (.int .i64 1)), []⟩, ⟨some 29, none, .mv (.t 38), []⟩]))))))) (.seq (.reg [] [⟨some 2, none, .mv (.k (.int .i64 0)), []⟩])
 (.ret))))))))
 (.seq (.reg [] [⟨some 39, none, .mv (.t 3), []⟩, ⟨some 40, none, .bi .add .i64 (.t 39) (.k (.int .i64 1)), []⟩, ⟨some 2, none, .mv (.t 40), []⟩])
 (.ret))))⟩
theorem ck116 : chkFn Tryz.prog 116 ir116 = true := by kernel_rfl
def ir117 : AFn := ⟨10, 1, [.t 2], .seq (.reg [] [⟨some 1, none, .boxv (.t 0), []⟩, ⟨some 2, none, .mv (.k (.bool false)), []⟩])
 (.seq (.reg [] [⟨some 3, none, .ld 5 true (.t 1), []⟩, ⟨some 4, none, .call 201 [(.t 3), (.k (.clo 203 [] []))], []⟩, ⟨some 5, none, .mv (.t 4), []⟩, ⟨some 6, (some (5, true)), .ld 5 true (.t 1), []⟩, ⟨some 7, (some (5, true)), .call 116 [(.t 6)], []⟩, ⟨some 8, (some (5, true)), .bi .leq .i64 (.t 7) (.k (.int .i64 16)), []⟩, ⟨some 9, none, .pick (.t 5) (.t 8) (.k (.bool false)), []⟩, ⟨some 2, none, .mv (.t 9), []⟩])
 (.ret))⟩
theorem ck117 : chkFn Tryz.prog 117 ir117 = true := by kernel_rfl
def ir118 : AFn := ⟨119, 2, [.t 4], .seq (.reg [] [⟨some 3, none, .boxv (.t 1), []⟩, ⟨some 4, none, .mv (.k (.sl .nil 2 [])), []⟩])
 (.seq (.seq (.reg [] [⟨some 9, none, .fa 0 (.t 3), []⟩, ⟨some 10, none, .ld 1 false (.t 9), []⟩])
 (.block 0 (.seq (.reg [] [⟨some 12, none, .bi .eql .i64 (.t 10) (.k (.int .i64 0)), []⟩, ⟨some 11, none, .mv (.t 12), []⟩])
 (.cond (.t 11) (.seq (.reg [] [⟨some 13, none, .mv (.t 0), []⟩, ⟨some 14, none, .call 204 [(.k (.str [110, 117, 108, 108]))], []⟩, ⟨some 15, none, .bls 2 1 [.int .i64 0, .str []] [(0, (.t 14))], []⟩, ⟨some 16, none, .app 2 24 (.t 13) (.t 15), []⟩, ⟨some 4, none, .mv (.t 16), []⟩])
 (.ret)) (.seq (.reg [] [⟨some 18, none, .bi .eql .i64 (.t 10) (.k (.int .i64 1)), []⟩, ⟨some 17, none, .mv (.t 18), []⟩])
 (.cond (.t 17) (.seq (.reg [] [⟨some 19, none, .mv (.t 0), []⟩, ⟨some 20, none, .fa 1 (.t 3), []⟩, ⟨some 21, none, .ld 1 false (.t 20), []⟩, ⟨some 22, none, .bi .eql .i64 (.t 21) (.k (.int .i64 1)), []⟩, ⟨some 23, none, .call 205 [(.t 22)], []⟩, ⟨some 24, none, .call 204 [(.t 23)], []⟩, ⟨some 25, none, .bls 2 1 [.int .i64 0, .str []] [(0, (.t 24))], []⟩, ⟨some 26, none, .app 2 24 (.t 19) (.t 25), []⟩, ⟨some 4, none, .mv (.t 26), []⟩])
 (.ret)) (.seq (.reg [] [⟨some 28, none, .bi .eql .i64 (.t 10) (.k (.int .i64 2)), []⟩, ⟨some 27, none, .mv (.t 28), []⟩])
 (.cond (.t 27) (.seq (.reg [] [⟨some 29, none, .mv (.t 0), []⟩, ⟨some 30, none, .fa 1 (.t 3), []⟩, ⟨some 31, none, .ld 1 false (.t 30), []⟩, ⟨some 32, none, .call 206 [(.t 31), (.k (.int .i64 10))], []⟩, ⟨some 33, none, .bld [.int .i64 0, .str []] [(0, 1, (.k (.int .i64 3))), (1, 1, (.t 32))], []⟩, ⟨some 34, none, .bls 2 1 [.int .i64 0, .str []] [(0, (.t 33))], []⟩, ⟨some 35, none, .app 2 24 (.t 29) (.t 34), []⟩, ⟨some 4, none, .mv (.t 35), []⟩])
 (.ret)) (.seq (.reg [] [⟨some 37, none, .bi .eql .i64 (.t 10) (.k (.int .i64 3)), []⟩, ⟨some 36, none, .mv (.t 37), []⟩])
 (.cond (.t 36) (.seq (.reg [0, 1, 2, 4, 5, 3, 6, 7, 8, 9] [⟨some 38, none, .mv (.t 0), []⟩, ⟨some 39, none, .fa 2 (.t 3), []⟩, ⟨some 40, none, .ld 1 false (.t 39), []⟩, ⟨some 42, none, .fa 2 (.t 3), []⟩, ⟨some 43, none, .ld 1 false (.t 42), []⟩, ⟨some 41, none, .call 207 [(.t 40)], [4]⟩, ⟨some 44, none, .bld [.int .i64 0, .str []] [(0, 1, (.t 41)), (1, 1, (.t 43))], []⟩, ⟨some 45, none, .bls 2 1 [.int .i64 0, .str []] [(0, (.t 44))], []⟩, ⟨some 46, none, .app 2 24 (.t 38) (.t 45), []⟩, ⟨some 4, none, .mv (.t 46), []⟩])
 (.ret)) (.seq (.reg [] [⟨some 48, none, .bi .eql .i64 (.t 10) (.k (.int .i64 4)), []⟩, ⟨some 47, none, .mv (.t 48), []⟩])
 (.cond (.t 47) (.seq (.reg [] [⟨some 49, none, .mv (.t 0), []⟩, ⟨some 50, none, .fa 2 (.t 3), []⟩, ⟨some 51, none, .ld 1 false (.t 50), []⟩, ⟨some 52, none, .bld [.int .i64 0, .str []] [(0, 1, (.k (.int .i64 5))), (1, 1, (.t 51))], []⟩, ⟨some 53, none, .bls 2 1 [.int .i64 0, .str []] [(0, (.t 52))], []⟩, ⟨some 54, none, .app 2 24 (.t 49) (.t 53), []⟩, ⟨some 4, none, .mv (.t 54), []⟩])
 (.ret)) (.seq (.reg [] [⟨some 56, none, .bi .eql .i64 (.t 10) (.k (.int .i64 5)), []⟩, ⟨some 55, none, .mv (.t 56), []⟩])
 (.cond (.t 55) (.seq (.reg [] [⟨some 57, none, .mv (.t 0), []⟩, ⟨some 58, none, .fa 2 (.t 3), []⟩, ⟨some 59, none, .ld 1 false (.t 58), []⟩, ⟨some 60, none, .call 204 [(.t 59)], []⟩, ⟨some 61, none, .bls 2 1 [.int .i64 0, .str []] [(0, (.t 60))], []⟩, ⟨some 62, none, .app 2 24 (.t 57) (.t 61), []⟩, ⟨some 4, none, .mv (.t 62), []⟩])
 (.ret)) (.seq (.reg [] [⟨some 64, none, .bi .eql .i64 (.t 10) (.k (.int .i64 8)), []⟩, ⟨some 63, none, .mv (.t 64), []⟩])
 (.cond (.t 63) (.seq (.reg [0, 2, 3, 1, 4, 5, 6, 7] [⟨some 65, none, .mv (.t 0), []⟩, ⟨some 67, none, .fa 2 (.t 3), []⟩, ⟨some 68, none, .ld 1 false (.t 67), []⟩, ⟨some 66, none, .call 208 [(.k (.str [36]))], [2]⟩, ⟨some 69, none, .call 204 [(.t 68)], []⟩, ⟨some 70, none, .bls 2 2 [.int .i64 0, .str []] [(0, (.t 66)), (1, (.t 69))], []⟩, ⟨some 71, none, .app 2 24 (.t 65) (.t 70), []⟩, ⟨some 4, none, .mv (.t 71), []⟩])
 (.ret)) (.seq (.reg [] [⟨some 73, none, .bi .eql .i64 (.t 10) (.k (.int .i64 6)), []⟩, ⟨some 72, none, .mv (.t 73), []⟩])
 (.cond (.t 72) (.seq (.reg [] [⟨some 74, none, .mv (.t 0), []⟩, ⟨some 75, none, .call 208 [(.k (.str [91]))], []⟩, ⟨some 76, none, .bls 2 1 [.int .i64 0, .str []] [(0, (.t 75))], []⟩, ⟨some 77, none, .app 2 24 (.t 74) (.t 76), []⟩, ⟨some 0, none, .mv (.t 77), []⟩])
 (.seq (.seq (.reg [] [⟨some 78, none, .fa 3 (.t 3), []⟩, ⟨some 79, none, .ld 1 false (.t 78), []⟩, ⟨some 80, none, .len (.t 79), []⟩, ⟨some 81, none, .mv (.k (.int .i64 0)), []⟩])
 (.block 1 (.loop [0, 79, 80, 81] (.seq (.reg [] [⟨some 82, none, .bi .lss .i64 (.t 81) (.t 80), []⟩])
 (.seq (.cond (.t 82) (.skip) (.exit 1))
 (.seq (.block 2 (.seq (.reg [] [⟨some 83, none, .ia 5 (.t 79) (.t 81), []⟩, ⟨some 84, none, .ld 5 true (.t 83), []⟩, ⟨some 6, none, .alloc [.int .i64 0, .int .i64 0, .str [], .sl .nil 5 [], .sl .nil 6 []], []⟩, ⟨none, none, .st 5 (.t 6) (.t 84), []⟩])
 (.reg [] [⟨some 85, none, .mv (.t 0), []⟩, ⟨some 86, none, .ld 5 true (.t 6), []⟩, ⟨some 87, none, .call 118 [(.t 85), (.t 86)], []⟩, ⟨some 0, none, .mv (.t 87), []⟩])))
 (.reg [] [⟨some 88, none, .bi .add .i64 (.t 81) (.k (.int .i64 1)), []⟩, ⟨some 81, none, .mv (.t 88), []⟩])))))))
 (.seq (.reg [] [⟨some 89, none, .mv (.t 0), []⟩, ⟨some 90, none, .call 208 [(.k (.str [93]))], []⟩, ⟨some 91, none, .bls 2 1 [.int .i64 0, .str []] [(0, (.t 90))], []⟩, ⟨some 92, none, .app 2 24 (.t 89) (.t 91), []⟩, ⟨some 4, none, .mv (.t 92), []⟩])
 (.ret)))) (.skip)))))))))))))))))))
 (.seq (.reg [] [⟨some 93, none, .mv (.t 0), []⟩, ⟨some 94, none, .call 208 [(.k (.str [123]))], []⟩, ⟨some 95, none, .bls 2 1 [.int .i64 0, .str []] [(0, (.t 94))], []⟩, ⟨some 96, none, .app 2 24 (.t 93) (.t 95), []⟩, ⟨some 0, none, .mv (.t 96), []⟩])
 (.seq (.seq (.reg [] [⟨some 97, none, .fa 4 (.t 3), []⟩, ⟨some 98, none, .ld 1 false (.t 97), []⟩, ⟨some 99, none, .len (.t 98), []⟩, ⟨some 100, none, .mv (.k (.int .i64 0)), []⟩])
 (.block 3 (.loop [0, 98, 99, 100] (.seq (.reg [] [⟨some 101, none, .bi .lss .i64 (.t 100) (.t 99), []⟩])
 (.seq (.cond (.t 101) (.skip) (.exit 3))
 (.seq (.block 4 (.seq (.reg [] [⟨some 102, none, .ia 6 (.t 98) (.t 100), []⟩, ⟨some 103, none, .ld 6 true (.t 102), []⟩, ⟨some 8, none, .alloc [.str [], .int .i64 0, .int .i64 0, .str [], .sl .nil 5 [], .sl .nil 6 []], []⟩, ⟨none, none, .st 6 (.t 8) (.t 103), []⟩])
 (.reg [0, 1, 2, 7, 8, 3, 4, 5, 6, 9, 10] [⟨some 104, none, .mv (.t 0), []⟩, ⟨some 105, none, .fa 0 (.t 8), []⟩, ⟨some 106, none, .ld 1 false (.t 105), []⟩, ⟨some 111, none, .fa 1 (.t 8), []⟩, ⟨some 112, none, .ld 5 true (.t 111), []⟩, ⟨some 107, none, .call 204 [(.t 106)], [4]⟩, ⟨some 108, none, .call 208 [(.k (.str [58]))], [4]⟩, ⟨some 109, none, .bls 2 2 [.int .i64 0, .str []] [(0, (.t 107)), (1, (.t 108))], []⟩, ⟨some 110, none, .app 2 24 (.t 104) (.t 109), [4]⟩, ⟨some 113, none, .call 118 [(.t 110), (.t 112)], []⟩, ⟨some 0, none, .mv (.t 113), []⟩])))
 (.reg [] [⟨some 114, none, .bi .add .i64 (.t 100) (.k (.int .i64 1)), []⟩, ⟨some 100, none, .mv (.t 114), []⟩])))))))
 (.seq (.reg [] [⟨some 115, none, .mv (.t 0), []⟩, ⟨some 116, none, .call 208 [(.k (.str [125]))], []⟩, ⟨some 117, none, .bls 2 1 [.int .i64 0, .str []] [(0, (.t 116))], []⟩, ⟨some 118, none, .app 2 24 (.t 115) (.t 117), []⟩, ⟨some 4, none, .mv (.t 118), []⟩])
 (.ret)))))⟩
theorem ck118 : chkFn Tryz.prog 118 ir118 = true := by kernel_rfl
def ir119 : AFn := ⟨40, 1, [.t 2], .seq (.reg [] [⟨some 1, none, .boxv (.t 0), []⟩, ⟨some 2, none, .mv (.k (.bool false)), []⟩])
 (.seq (.seq (.reg [] [⟨some 3, none, .fa 0 (.t 1), []⟩, ⟨some 4, none, .ld 1 false (.t 3), []⟩])
 (.block 0 (.seq (.reg [] [⟨some 6, none, .bi .eql .i64 (.t 4) (.k (.int .i64 1)), []⟩, ⟨some 5, none, .mv (.t 6), []⟩])
 (.cond (.t 5) (.seq (.reg [] [⟨some 7, none, .fa 1 (.t 1), []⟩, ⟨some 8, none, .ld 1 false (.t 7), []⟩, ⟨some 9, none, .bs .eql (.t 8) (.k (.str [46, 46, 46])), []⟩, ⟨some 10, none, .mv (.t 9), []⟩, ⟨some 11, (some (10, false)), .fa 1 (.t 1), []⟩, ⟨some 12, (some (10, false)), .ld 1 false (.t 11), []⟩, ⟨some 13, (some (10, false)), .lens (.t 12), []⟩, ⟨some 14, (some (10, false)), .bi .eql .i64 (.t 13) (.k (.int .i64 1)), []⟩, ⟨some 15, (some (10, false)), .mv (.t 14), []⟩, ⟨some 16, (some (15, true)), .fa 1 (.t 1), []⟩, ⟨some 17, (some (15, true)), .ld 1 false (.t 16), []⟩, ⟨some 18, (some (15, true)), .call 209 [(.k (.str [33, 36, 38, 40, 41, 58, 61, 64, 91, 93, 123, 124, 125])), (.t 17)], []⟩, ⟨some 19, (some (10, false)), .pick (.t 15) (.t 18) (.k (.bool false)), []⟩, ⟨some 20, none, .pick (.t 10) (.k (.bool true)) (.t 19), []⟩, ⟨some 2, none, .mv (.t 20), []⟩])
 (.ret)) (.seq (.reg [] [⟨some 22, none, .bi .eql .i64 (.t 4) (.k (.int .i64 2)), []⟩, ⟨some 21, none, .mv (.t 22), []⟩])
 (.cond (.t 21) (.seq (.reg [] [⟨some 23, none, .fa 1 (.t 1), []⟩, ⟨some 24, none, .ld 1 false (.t 23), []⟩, ⟨some 25, none, .call 203 [(.t 24)], []⟩, ⟨some 2, none, .mv (.t 25), []⟩])
 (.ret)) (.seq (.seq (.reg [] [⟨some 27, none, .bi .eql .i64 (.t 4) (.k (.int .i64 3)), []⟩, ⟨some 26, none, .mv (.t 27), []⟩])
 (.cond (.t 26) (.skip) (.reg [] [⟨some 28, none, .bi .eql .i64 (.t 4) (.k (.int .i64 4)), []⟩, ⟨some 26, none, .mv (.t 28), []⟩])))
 (.cond (.t 26) (.seq (.reg [0, 1, 3, 4, 2, 5, 6] [⟨some 29, none, .fa 1 (.t 1), []⟩, ⟨some 30, none, .ld 1 false (.t 29), []⟩, ⟨some 32, none, .fa 0 (.t 1), []⟩, ⟨some 33, none, .ld 1 false (.t 32), []⟩, ⟨some 31, none, .call 207 [(.t 30)], [3]⟩, ⟨some 34, none, .bi .eql .i64 (.t 31) (.t 33), []⟩, ⟨some 2, none, .mv (.t 34), []⟩])
 (.ret)) (.seq (.reg [] [⟨some 36, none, .bi .eql .i64 (.t 4) (.k (.int .i64 5)), []⟩, ⟨some 35, none, .mv (.t 36), []⟩])
 (.cond (.t 35) (.seq (.reg [] [⟨some 37, none, .fa 1 (.t 1), []⟩, ⟨some 38, none, .ld 1 false (.t 37), []⟩, ⟨some 39, none, .call 202 [(.t 38)], []⟩, ⟨some 2, none, .mv (.t 39), []⟩])
 (.ret)) (.skip)))))))))))
 (.seq (.reg [] [⟨some 2, none, .mv (.k (.bool false)), []⟩])
 (.ret)))⟩
theorem ck119 : chkFn Tryz.prog 119 ir119 = true := by kernel_rfl
def ir120 : AFn := ⟨83, 1, [.t 2], .seq (.reg [] [⟨some 2, none, .mv (.k (.str [])), []⟩])
 (.seq (.reg [] [⟨some 11, none, .bls 1 1 [.int .u8 0] [(0, (.k (.int .u8 34)))], []⟩, ⟨some 3, none, .mv (.t 11), []⟩])
 (.seq (.seq (.reg [] [⟨some 4, none, .mv (.k (.int .i64 0)), []⟩])
 (.block 0 (.loop [0, 3, 4] (.seq (.seq (.reg [] [⟨some 12, none, .mv (.t 4), []⟩, ⟨some 13, none, .mv (.t 0), []⟩, ⟨some 14, none, .lens (.t 13), []⟩, ⟨some 15, none, .bi .lss .i64 (.t 12) (.t 14), []⟩])
 (.cond (.t 15) (.skip) (.exit 0)))
 (.block 1 (.seq (.reg [] [⟨some 17, none, .mv (.t 0), []⟩, ⟨some 18, none, .mv (.t 4), []⟩, ⟨some 19, none, .call 210 [(.t 17), (.t 18)], []⟩, ⟨some 16, none, .mv (.t 19), []⟩, ⟨some 20, none, .ext (.t 16) 0, []⟩, ⟨some 21, none, .ext (.t 16) 1, []⟩, ⟨some 5, none, .mv (.t 20), []⟩, ⟨some 6, none, .mv (.t 21), []⟩])
 (.seq (.block 2 (.seq (.reg [] [⟨some 31, none, .mv (.t 5), []⟩, ⟨some 32, none, .bi .eql .i64 (.t 31) (.k (.int .i64 34)), []⟩, ⟨some 33, none, .mv (.t 32), []⟩, ⟨some 34, (some (33, false)), .mv (.t 5), []⟩, ⟨some 35, (some (33, false)), .bi .eql .i64 (.t 34) (.k (.int .i64 92)), []⟩, ⟨some 36, none, .pick (.t 33) (.k (.bool true)) (.t 35), []⟩, ⟨some 30, none, .mv (.t 36), []⟩])
 (.cond (.t 30) (.reg [] [⟨some 37, none, .mv (.t 3), []⟩, ⟨some 38, none, .mv (.t 5), []⟩, ⟨some 39, none, .cvi .u8 (.t 38), []⟩, ⟨some 40, none, .bls 1 2 [.int .u8 0] [(0, (.k (.int .u8 92))), (1, (.t 39))], []⟩, ⟨some 41, none, .app 1 1 (.t 37) (.t 40), []⟩, ⟨some 3, none, .mv (.t 41), []⟩]) (.seq (.reg [] [⟨some 43, none, .mv (.t 5), []⟩, ⟨some 44, none, .bi .eql .i64 (.t 43) (.k (.int .i64 10)), []⟩, ⟨some 42, none, .mv (.t 44), []⟩])
 (.cond (.t 42) (.reg [] [⟨some 45, none, .mv (.t 3), []⟩, ⟨some 46, none, .bls 1 2 [.int .u8 0] [(0, (.k (.int .u8 92))), (1, (.k (.int .u8 110)))], []⟩, ⟨some 47, none, .app 1 1 (.t 45) (.t 46), []⟩, ⟨some 3, none, .mv (.t 47), []⟩]) (.seq (.reg [] [⟨some 49, none, .mv (.t 5), []⟩, ⟨some 50, none, .bi .lss .i64 (.t 49) (.k (.int .i64 32)), []⟩, ⟨some 51, none, .mv (.t 50), []⟩, ⟨some 52, (some (51, false)), .mv (.t 5), []⟩, ⟨some 53, (some (51, false)), .bi .geq .i64 (.t 52) (.k (.int .i64 65536)), []⟩, ⟨some 54, none, .pick (.t 51) (.k (.bool true)) (.t 53), []⟩, ⟨some 48, none, .mv (.t 54), []⟩])
 (.cond (.t 48) (.seq (.reg [] [⟨some 56, none, .mv (.t 0), []⟩, ⟨some 57, none, .mv (.t 4), []⟩, ⟨some 58, none, .mv (.t 4), []⟩, ⟨some 59, none, .mv (.t 6), []⟩, ⟨some 60, none, .bi .add .i64 (.t 58) (.t 59), []⟩, ⟨some 61, none, .sls (.t 56) (some (.t 57)) (some (.t 60)), []⟩, ⟨some 62, none, .call 211 [(.t 61)], []⟩, ⟨some 55, none, .mv (.t 62), []⟩, ⟨some 63, none, .ext (.t 55) 0, []⟩, ⟨some 64, none, .ext (.t 55) 1, []⟩, ⟨some 7, none, .mv (.t 63), []⟩, ⟨some 8, none, .mv (.t 64), []⟩])
 (.seq (.reg [] [⟨some 65, none, .mv (.t 7), []⟩, ⟨some 66, none, .len (.t 65), []⟩, ⟨some 67, none, .mv (.k (.int .i64 0)), []⟩])
 (.block 3 (.loop [0, 3, 4, 6, 65, 66, 67] (.seq (.reg [] [⟨some 68, none, .bi .lss .i64 (.t 67) (.t 66), []⟩])
 (.seq (.cond (.t 68) (.skip) (.exit 3))
 (.seq (.block 4 (.seq (.reg [] [⟨some 69, none, .ia 1 (.t 65) (.t 67), []⟩, ⟨some 70, none, .ld 1 false (.t 69), []⟩, ⟨some 10, none, .mv (.t 70), []⟩])
 (.reg [] [⟨some 71, none, .mv (.t 3), []⟩, ⟨some 72, none, .mv (.t 10), []⟩, ⟨some 73, none, .call 212 [(.t 71), (.t 72)], []⟩, ⟨some 3, none, .mv (.t 73), []⟩])))
 (.reg [] [⟨some 74, none, .bi .add .i64 (.t 67) (.k (.int .i64 1)), []⟩, ⟨some 67, none, .mv (.t 74), []⟩])))))))) (.reg [] [⟨some 22, none, .mv (.t 3), []⟩, ⟨some 23, none, .mv (.t 0), []⟩, ⟨some 24, none, .mv (.t 4), []⟩, ⟨some 25, none, .mv (.t 4), []⟩, ⟨some 26, none, .mv (.t 6), []⟩, ⟨some 27, none, .bi .add .i64 (.t 25) (.t 26), []⟩, ⟨some 28, none, .sls (.t 23) (some (.t 24)) (some (.t 27)), []⟩, ⟨some 29, none, .apps (.t 22) (.t 28), []⟩, ⟨some 3, none, .mv (.t 29), []⟩]))))))))
 (.reg [] [⟨some 75, none, .mv (.t 4), []⟩, ⟨some 76, none, .mv (.t 6), []⟩, ⟨some 77, none, .mm true (.t 76) [(.k (.int .i64 1))], []⟩, ⟨some 78, none, .bi .add .i64 (.t 75) (.t 77), []⟩, ⟨some 4, none, .mv (.t 78), []⟩]))))))))
 (.seq (.reg [] [⟨some 79, none, .mv (.t 3), []⟩, ⟨some 80, none, .bls 1 1 [.int .u8 0] [(0, (.k (.int .u8 34)))], []⟩, ⟨some 81, none, .app 1 1 (.t 79) (.t 80), []⟩, ⟨some 82, none, .cvb2s (.t 81), []⟩, ⟨some 2, none, .mv (.t 82), []⟩])
 (.ret))))⟩
theorem ck120 : chkFn Tryz.prog 120 ir120 = true := by kernel_rfl
def ir122 : AFn := ⟨25, 1, [.t 2], .seq (.reg [] [⟨some 2, none, .mv (.k (.bool false)), []⟩])
 (.scope (.seq (.skip)
 (.seq (.seq (.reg [] [⟨some 3, none, .mv (.k (.int .i64 0)), []⟩])
 (.block 0 (.loop [0, 3] (.seq (.seq (.reg [] [⟨some 6, none, .mv (.t 3), []⟩, ⟨some 7, none, .mv (.t 0), []⟩, ⟨some 8, none, .lens (.t 7), []⟩, ⟨some 9, none, .bi .lss .i64 (.t 6) (.t 8), []⟩])
 (.cond (.t 9) (.skip) (.exit 0)))
 (.block 1 (.seq (.seq (.reg [] [⟨some 11, none, .mv (.t 0), []⟩, ⟨some 12, none, .mv (.t 3), []⟩, ⟨some 13, none, .call 210 [(.t 11), (.t 12)], []⟩, ⟨some 10, none, .mv (.t 13), []⟩, ⟨some 14, none, .ext (.t 10) 0, []⟩, ⟨some 15, none, .ext (.t 10) 1, []⟩, ⟨some 4, none, .mv (.t 14), []⟩, ⟨some 5, none, .mv (.t 15), []⟩])
 (.seq (.reg [] [⟨some 16, none, .mv (.t 5), []⟩, ⟨some 17, none, .bi .gtr .i64 (.t 16) (.k (.int .i64 0)), []⟩, ⟨some 18, none, .mv (.t 17), []⟩, ⟨some 19, (some (18, true)), .mv (.t 4), []⟩, ⟨some 20, (some (18, true)), .call 216 [(.t 19)], []⟩, ⟨some 21, none, .pick (.t 18) (.t 20) (.k (.bool false)), []⟩])
 (.cond (.t 21) (.seq (.reg [] [⟨some 22, none, .mv (.t 3), []⟩, ⟨some 23, none, .mv (.t 5), []⟩, ⟨some 24, none, .bi .add .i64 (.t 22) (.t 23), []⟩, ⟨some 3, none, .mv (.t 24), []⟩])
 (.exit 1)) (.skip))))
 (.seq (.reg [] [⟨some 2, none, .mv (.k (.bool false)), []⟩])
 (.ret))))))))
 (.seq (.reg [] [⟨some 2, none, .mv (.k (.bool true)), []⟩])
 (.ret)))))⟩
theorem ck122 : chkFn Tryz.prog 122 ir122 = true := by kernel_rfl
def ir123 : AFn := ⟨39, 1, [.t 2], .seq (.reg [] [⟨some 2, none, .mv (.k (.int .i64 0)), []⟩])
 (.seq (.seq (.reg [] [⟨some 5, none, .mv (.t 0), []⟩, ⟨some 6, none, .ixs (.t 5) (.k (.int .i64 0)), []⟩, ⟨some 3, none, .mv (.t 6), []⟩])
 (.block 0 (.seq (.reg [] [⟨some 8, none, .mv (.t 3), []⟩, ⟨some 9, none, .bi .eql .u8 (.t 8) (.k (.int .u8 9)), []⟩, ⟨some 10, none, .mv (.t 9), []⟩, ⟨some 11, (some (10, false)), .mv (.t 3), []⟩, ⟨some 12, (some (10, false)), .bi .eql .u8 (.t 11) (.k (.int .u8 10)), []⟩, ⟨some 13, none, .pick (.t 10) (.k (.bool true)) (.t 12), []⟩, ⟨some 14, none, .mv (.t 13), []⟩, ⟨some 15, (some (14, false)), .mv (.t 3), []⟩, ⟨some 16, (some (14, false)), .bi .eql .u8 (.t 15) (.k (.int .u8 13)), []⟩, ⟨some 17, none, .pick (.t 14) (.k (.bool true)) (.t 16), []⟩, ⟨some 18, none, .mv (.t 17), []⟩, ⟨some 19, (some (18, false)), .mv (.t 3), []⟩, ⟨some 20, (some (18, false)), .bi .eql .u8 (.t 19) (.k (.int .u8 32)), []⟩, ⟨some 21, none, .pick (.t 18) (.k (.bool true)) (.t 20), []⟩, ⟨some 22, none, .mv (.t 21), []⟩, ⟨some 23, (some (22, false)), .mv (.t 3), []⟩, ⟨some 24, (some (22, false)), .bi .eql .u8 (.t 23) (.k (.int .u8 44)), []⟩, ⟨some 25, none, .pick (.t 22) (.k (.bool true)) (.t 24), []⟩, ⟨some 7, none, .mv (.t 25), []⟩])
 (.cond (.t 7) (.seq (.reg [] [⟨some 2, none, .mv (.k (.int .i64 1)), []⟩])
 (.ret)) (.seq (.reg [] [⟨some 27, none, .mv (.t 0), []⟩, ⟨some 28, none, .call 217 [(.t 27), (.k (.str [239, 187, 191]))], []⟩, ⟨some 26, none, .mv (.t 28), []⟩])
 (.cond (.t 26) (.seq (.reg [] [⟨some 2, none, .mv (.k (.int .i64 3)), []⟩])
 (.ret)) (.seq (.reg [] [⟨some 30, none, .mv (.t 3), []⟩, ⟨some 31, none, .bi .eql .u8 (.t 30) (.k (.int .u8 35)), []⟩, ⟨some 29, none, .mv (.t 31), []⟩])
 (.cond (.t 29) (.seq (.seq (.reg [] [⟨some 32, none, .mv (.t 0), []⟩, ⟨some 33, none, .call 218 [(.t 32), (.k (.str [13, 10]))], []⟩, ⟨some 4, none, .mv (.t 33), []⟩])
 (.seq (.reg [] [⟨some 34, none, .mv (.t 4), []⟩, ⟨some 35, none, .bi .geq .i64 (.t 34) (.k (.int .i64 0)), []⟩])
 (.cond (.t 35) (.seq (.reg [] [⟨some 36, none, .mv (.t 4), []⟩, ⟨some 2, none, .mv (.t 36), []⟩])
 (.ret)) (.skip))))
 (.seq (.reg [] [⟨some 37, none, .mv (.t 0), []⟩, ⟨some 38, none, .lens (.t 37), []⟩, ⟨some 2, none, .mv (.t 38), []⟩])
 (.ret))) (.skip)))))))))
 (.seq (.reg [] [⟨some 2, none, .mv (.k (.int .i64 0)), []⟩])
 (.ret)))⟩
theorem ck123 : chkFn Tryz.prog 123 ir123 = true := by kernel_rfl
def ir124 : AFn := ⟨91, 1, [.c 2 2 true, .t 3], .seq (.reg [] [⟨some 2, none, .alloc [.int .i64 0, .str []], []⟩, ⟨some 3, none, .mv (.k (.int .i64 0)), []⟩])
 (.seq (.reg [] [⟨some 12, none, .mv (.t 0), []⟩, ⟨some 13, none, .ixs (.t 12) (.k (.int .i64 0)), []⟩, ⟨some 4, none, .mv (.t 13), []⟩])
 (.seq (.block 0 (.seq (.reg [] [⟨some 15, none, .mv (.t 0), []⟩, ⟨some 16, none, .call 217 [(.t 15), (.k (.str [34, 34, 34]))], []⟩, ⟨some 14, none, .mv (.t 16), []⟩])
 (.cond (.t 14) (.seq (.reg [] [⟨some 18, none, .mv (.t 0), []⟩, ⟨some 19, none, .call 219 [(.t 18)], []⟩, ⟨some 17, none, .mv (.t 19), []⟩, ⟨some 20, none, .ext (.t 17) 0, []⟩, ⟨some 21, none, .ext (.t 17) 1, []⟩, ⟨some 5, none, .mv (.t 20), []⟩, ⟨some 6, none, .mv (.t 21), []⟩])
 (.seq (.reg [] [⟨some 22, none, .mv (.t 5), []⟩, ⟨some 23, none, .bld [.int .i64 0, .str []] [(0, 1, (.k (.int .i64 5))), (1, 1, (.t 22))], []⟩, ⟨some 24, none, .mv (.t 6), []⟩, ⟨none, none, .st 2 (.t 2) (.t 23), []⟩, ⟨some 3, none, .mv (.t 24), []⟩])
 (.ret))) (.seq (.reg [] [⟨some 26, none, .mv (.t 4), []⟩, ⟨some 27, none, .bi .eql .u8 (.t 26) (.k (.int .u8 34)), []⟩, ⟨some 25, none, .mv (.t 27), []⟩])
 (.cond (.t 25) (.seq (.reg [] [⟨some 29, none, .mv (.t 0), []⟩, ⟨some 30, none, .call 220 [(.t 29), (.k (.clo 221 [] []))], []⟩, ⟨some 28, none, .mv (.t 30), []⟩, ⟨some 31, none, .ext (.t 28) 0, []⟩, ⟨some 32, none, .ext (.t 28) 1, []⟩, ⟨some 7, none, .mv (.t 31), []⟩, ⟨some 8, none, .mv (.t 32), []⟩])
 (.seq (.reg [] [⟨some 33, none, .mv (.t 7), []⟩, ⟨some 34, none, .bld [.int .i64 0, .str []] [(0, 1, (.k (.int .i64 5))), (1, 1, (.t 33))], []⟩, ⟨some 35, none, .mv (.t 8), []⟩, ⟨none, none, .st 2 (.t 2) (.t 34), []⟩, ⟨some 3, none, .mv (.t 35), []⟩])
 (.ret))) (.seq (.reg [] [⟨some 37, none, .mv (.t 0), []⟩, ⟨some 38, none, .call 217 [(.t 37), (.k (.str [46, 46, 46]))], []⟩, ⟨some 36, none, .mv (.t 38), []⟩])
 (.cond (.t 36) (.seq (.reg [] [⟨some 39, none, .bld [.int .i64 0, .str []] [(0, 1, (.k (.int .i64 1))), (1, 1, (.k (.str [46, 46, 46])))], []⟩, ⟨none, none, .st 2 (.t 2) (.t 39), []⟩, ⟨some 3, none, .mv (.k (.int .i64 3)), []⟩])
 (.ret)) (.seq (.reg [] [⟨some 41, none, .mv (.t 4), []⟩, ⟨some 42, none, .call 222 [(.k (.str [33, 36, 38, 40, 41, 58, 61, 64, 91, 93, 123, 124, 125])), (.t 41)], []⟩, ⟨some 43, none, .bi .geq .i64 (.t 42) (.k (.int .i64 0)), []⟩, ⟨some 40, none, .mv (.t 43), []⟩])
 (.cond (.t 40) (.seq (.reg [] [⟨some 44, none, .mv (.t 0), []⟩, ⟨some 45, none, .sls (.t 44) none (some (.k (.int .i64 1))), []⟩, ⟨some 46, none, .bld [.int .i64 0, .str []] [(0, 1, (.k (.int .i64 1))), (1, 1, (.t 45))], []⟩, ⟨none, none, .st 2 (.t 2) (.t 46), []⟩, ⟨some 3, none, .mv (.k (.int .i64 1)), []⟩])
 (.ret)) (.seq (.reg [] [⟨some 48, none, .mv (.t 4), []⟩, ⟨some 49, none, .call 223 [(.t 48)], []⟩, ⟨some 47, none, .mv (.t 49), []⟩])
 (.cond (.t 47) (.seq (.reg [] [⟨some 50, none, .mv (.t 0), []⟩, ⟨some 51, none, .call 224 [(.t 50)], []⟩, ⟨some 9, none, .mv (.t 51), []⟩])
 (.seq (.reg [] [⟨some 52, none, .mv (.t 0), []⟩, ⟨some 53, none, .mv (.t 9), []⟩, ⟨some 54, none, .sls (.t 52) none (some (.t 53)), []⟩, ⟨some 55, none, .bld [.int .i64 0, .str []] [(0, 1, (.k (.int .i64 2))), (1, 1, (.t 54))], []⟩, ⟨some 56, none, .mv (.t 9), []⟩, ⟨none, none, .st 2 (.t 2) (.t 55), []⟩, ⟨some 3, none, .mv (.t 56), []⟩])
 (.ret))) (.skip))))))))))))
 (.seq (.reg [] [⟨some 58, none, .mv (.t 0), []⟩, ⟨some 59, none, .call 225 [(.t 58)], []⟩, ⟨some 57, none, .mv (.t 59), []⟩, ⟨some 60, none, .ext (.t 57) 0, []⟩, ⟨some 61, none, .ext (.t 57) 1, []⟩, ⟨some 10, none, .mv (.t 60), []⟩, ⟨some 11, none, .mv (.t 61), []⟩])
 (.seq (.seq (.reg [] [⟨some 62, none, .mv (.t 10), []⟩, ⟨some 63, none, .mv (.t 0), []⟩, ⟨some 64, none, .lens (.t 63), []⟩, ⟨some 65, none, .bi .lss .i64 (.t 62) (.t 64), []⟩, ⟨some 66, none, .mv (.t 65), []⟩, ⟨some 67, (some (66, true)), .mv (.t 0), []⟩, ⟨some 68, (some (66, true)), .mv (.t 10), []⟩, ⟨some 69, (some (66, true)), .ixs (.t 67) (.t 68), []⟩, ⟨some 70, (some (66, true)), .call 223 [(.t 69)], []⟩, ⟨some 71, (some (66, true)), .mv (.t 70), []⟩, ⟨some 72, (some (71, false)), .mv (.t 0), []⟩, ⟨some 73, (some (71, false)), .mv (.t 10), []⟩, ⟨some 74, (some (71, false)), .ixs (.t 72) (.t 73), []⟩, ⟨some 75, (some (71, false)), .call 226 [(.t 74)], []⟩, ⟨some 76, (some (66, true)), .pick (.t 71) (.k (.bool true)) (.t 75), []⟩, ⟨some 77, (some (66, true)), .mv (.t 76), []⟩, ⟨some 78, (some (77, false)), .mv (.t 0), []⟩, ⟨some 79, (some (77, false)), .mv (.t 10), []⟩, ⟨some 80, (some (77, false)), .ixs (.t 78) (.t 79), []⟩, ⟨some 81, (some (77, false)), .bi .eql .u8 (.t 80) (.k (.int .u8 46)), []⟩, ⟨some 82, (some (66, true)), .pick (.t 77) (.k (.bool true)) (.t 81), []⟩, ⟨some 83, none, .pick (.t 66) (.t 82) (.k (.bool false)), []⟩])
 (.cond (.t 83) (.seq (.reg [] [⟨some 84, none, .bld [.int .i64 0, .str []] [], []⟩, ⟨none, none, .st 2 (.t 2) (.t 84), []⟩, ⟨some 3, none, .mv (.k (.int .i64 0)), []⟩])
 (.ret)) (.skip)))
 (.seq (.reg [] [⟨some 85, none, .mv (.t 11), []⟩, ⟨some 86, none, .mv (.t 0), []⟩, ⟨some 87, none, .mv (.t 10), []⟩, ⟨some 88, none, .sls (.t 86) none (some (.t 87)), []⟩, ⟨some 89, none, .bld [.int .i64 0, .str []] [(0, 1, (.t 85)), (1, 1, (.t 88))], []⟩, ⟨some 90, none, .mv (.t 10), []⟩, ⟨none, none, .st 2 (.t 2) (.t 89), []⟩, ⟨some 3, none, .mv (.t 90), []⟩])
 (.ret))))))⟩
theorem ck124 : chkFn Tryz.prog 124 ir124 = true := by kernel_rfl
def ir176 : AFn := ⟨19, 1, [.t 2, .t 3], .seq (.reg [] [⟨some 2, none, .mv (.k (.int .i64 0)), []⟩, ⟨some 3, none, .mv (.k (.bool false)), []⟩])
 (.seq (.reg [] [⟨some 7, none, .mv (.t 0), []⟩, ⟨some 8, none, .call 260 [(.t 7), (.k (.int .i64 10)), (.k (.int .i64 64))], []⟩, ⟨some 6, none, .mv (.t 8), []⟩, ⟨some 9, none, .ext (.t 6) 0, []⟩, ⟨some 10, none, .ext (.t 6) 1, []⟩, ⟨some 4, none, .mv (.t 9), []⟩, ⟨some 5, none, .mv (.t 10), []⟩])
 (.seq (.reg [] [⟨some 11, none, .mv (.t 4), []⟩, ⟨some 12, none, .mv (.t 5), []⟩, ⟨some 13, none, .ifnil false (.t 12), []⟩, ⟨some 14, none, .mv (.t 13), []⟩, ⟨some 15, (some (14, true)), .mv (.t 0), []⟩, ⟨some 16, (some (14, true)), .call 207 [(.t 15)], []⟩, ⟨some 17, (some (14, true)), .bi .eql .i64 (.t 16) (.k (.int .i64 3)), []⟩, ⟨some 18, none, .pick (.t 14) (.t 17) (.k (.bool false)), []⟩, ⟨some 2, none, .mv (.t 11), []⟩, ⟨some 3, none, .mv (.t 18), []⟩])
 (.ret)))⟩
theorem ck176 : chkFn Tryz.prog 176 ir176 = true := by kernel_rfl
def ir201 : AFn := ⟨60, 2, [.t 4], .seq (.reg [] [⟨some 2, none, .boxv (.t 0), []⟩, ⟨some 4, none, .mv (.k (.bool false)), []⟩])
 (.scope (.seq (.reg [] [⟨some 11, none, .ld 5 true (.t 2), []⟩, ⟨some 5, none, .alloc [.int .i64 0, .int .i64 0, .str [], .sl .nil 5 [], .sl .nil 6 []], []⟩, ⟨none, none, .st 5 (.t 5) (.t 11), []⟩])
 (.seq (.reg [] [⟨some 6, none, .mv (.k (.bool true)), []⟩])
 (.seq (.skip)
 (.seq (.seq (.reg [] [⟨some 12, none, .fa 0 (.t 2), []⟩, ⟨some 13, none, .ld 1 false (.t 12), []⟩])
 (.block 0 (.seq (.reg [] [⟨some 17, none, .bi .eql .i64 (.t 13) (.k (.int .i64 6)), []⟩, ⟨some 16, none, .mv (.t 17), []⟩])
 (.cond (.t 16) (.seq (.reg [] [⟨some 18, none, .fa 3 (.t 5), []⟩, ⟨none, none, .st 1 (.t 18) (.k (.sl .nil 5 [])), []⟩])
 (.seq (.reg [] [⟨some 19, none, .fa 3 (.t 2), []⟩, ⟨some 20, none, .ld 1 false (.t 19), []⟩, ⟨some 21, none, .len (.t 20), []⟩, ⟨some 22, none, .mv (.k (.int .i64 0)), []⟩])
 (.block 1 (.loop [1, 5, 6, 20, 21, 22] (.seq (.reg [] [⟨some 23, none, .bi .lss .i64 (.t 22) (.t 21), []⟩])
 (.seq (.cond (.t 23) (.skip) (.exit 1))
 (.seq (.block 2 (.seq (.reg [] [⟨some 24, none, .ia 5 (.t 20) (.t 22), []⟩, ⟨some 25, none, .ld 5 true (.t 24), []⟩, ⟨some 8, none, .alloc [.int .i64 0, .int .i64 0, .str [], .sl .nil 5 [], .sl .nil 6 []], []⟩, ⟨none, none, .st 5 (.t 8) (.t 25), []⟩])
 (.seq (.reg [] [⟨some 26, none, .ld 5 true (.t 8), []⟩, ⟨some 27, none, .mv (.t 1), []⟩, ⟨some 28, none, .call 201 [(.t 26), (.t 27)], []⟩, ⟨some 6, none, .mv (.t 28), []⟩])
 (.seq (.reg [] [⟨some 29, none, .mv (.t 6), []⟩, ⟨some 30, none, .not (.t 29), []⟩])
 (.cond (.t 30) (.exit 0) (.skip))))))
 (.reg [] [⟨some 31, none, .bi .add .i64 (.t 22) (.k (.int .i64 1)), []⟩, ⟨some 22, none, .mv (.t 31), []⟩])))))))) (.seq (.reg [] [⟨some 33, none, .bi .eql .i64 (.t 13) (.k (.int .i64 7)), []⟩, ⟨some 32, none, .mv (.t 33), []⟩])
 (.cond (.t 32) (.seq (.reg [] [⟨some 34, none, .fa 4 (.t 5), []⟩, ⟨none, none, .st 1 (.t 34) (.k (.sl .nil 6 [])), []⟩])
 (.seq (.reg [] [⟨some 35, none, .fa 4 (.t 2), []⟩, ⟨some 36, none, .ld 1 false (.t 35), []⟩, ⟨some 37, none, .len (.t 36), []⟩, ⟨some 38, none, .mv (.k (.int .i64 0)), []⟩])
 (.block 3 (.loop [1, 5, 6, 36, 37, 38] (.seq (.reg [] [⟨some 39, none, .bi .lss .i64 (.t 38) (.t 37), []⟩])
 (.seq (.cond (.t 39) (.skip) (.exit 3))
 (.seq (.block 4 (.seq (.reg [] [⟨some 40, none, .ia 6 (.t 36) (.t 38), []⟩, ⟨some 41, none, .ld 6 true (.t 40), []⟩, ⟨some 10, none, .alloc [.str [], .int .i64 0, .int .i64 0, .str [], .sl .nil 5 [], .sl .nil 6 []], []⟩, ⟨none, none, .st 6 (.t 10) (.t 41), []⟩])
 (.seq (.reg [] [⟨some 42, none, .mv (.t 1), []⟩, ⟨some 43, none, .fa 0 (.t 10), []⟩, ⟨some 44, none, .ld 1 false (.t 43), []⟩, ⟨some 45, none, .callv (.t 42) [(.t 44)], []⟩, ⟨some 46, none, .mv (.t 45), []⟩, ⟨some 47, (some (46, true)), .fa 1 (.t 10), []⟩, ⟨some 48, (some (46, true)), .ld 5 true (.t 47), []⟩, ⟨some 49, (some (46, true)), .mv (.t 1), []⟩, ⟨some 50, (some (46, true)), .call 201 [(.t 48), (.t 49)], []⟩, ⟨some 51, none, .pick (.t 46) (.t 50) (.k (.bool false)), []⟩, ⟨some 6, none, .mv (.t 51), []⟩])
 (.seq (.reg [] [⟨some 52, none, .mv (.t 6), []⟩, ⟨some 53, none, .not (.t 52), []⟩])
 (.cond (.t 53) (.exit 0) (.skip))))))
 (.reg [] [⟨some 54, none, .bi .add .i64 (.t 38) (.k (.int .i64 1)), []⟩, ⟨some 38, none, .mv (.t 54), []⟩])))))))) (.seq (.reg [] [⟨some 14, none, .ld 5 true (.t 2), []⟩, ⟨some 15, none, .call 266 [(.t 14)], []⟩, ⟨some 4, none, .mv (.t 15), []⟩])
 (.ret))))))))
 (.seq (.reg [] [⟨some 55, none, .mv (.t 6), []⟩, ⟨some 56, none, .mv (.t 55), []⟩, ⟨some 57, (some (56, true)), .ld 5 true (.t 5), []⟩, ⟨some 58, (some (56, true)), .call 267 [(.t 57)], []⟩, ⟨some 59, none, .pick (.t 56) (.t 58) (.k (.bool false)), []⟩, ⟨some 4, none, .mv (.t 59), []⟩])
 (.ret)))))))⟩
theorem ck201 : chkFn Tryz.prog 201 ir201 = true := by kernel_rfl
def ir202 : AFn := ⟨5, 1, [.t 2], .seq (.reg [] [⟨some 2, none, .mv (.k (.bool false)), []⟩])
 (.seq (.reg [] [⟨some 3, none, .mv (.t 0), []⟩, ⟨some 4, none, .call 268 [(.t 3)], []⟩, ⟨some 2, none, .mv (.t 4), []⟩])
 (.ret))⟩
theorem ck202 : chkFn Tryz.prog 202 ir202 = true := by kernel_rfl
def ir203 : AFn := ⟨28, 1, [.t 2], .seq (.reg [] [⟨some 2, none, .mv (.k (.bool false)), []⟩])
 (.seq (.seq (.reg [] [⟨some 4, none, .mv (.t 0), []⟩, ⟨some 5, none, .lens (.t 4), []⟩, ⟨some 6, none, .mv (.k (.int .i64 0)), []⟩])
 (.block 0 (.loop [0, 5, 6] (.seq (.reg [] [⟨some 7, none, .bi .lss .i64 (.t 6) (.t 5), []⟩])
 (.seq (.cond (.t 7) (.skip) (.exit 0))
 (.seq (.block 1 (.seq (.reg [] [⟨some 8, none, .mv (.t 6), []⟩, ⟨some 3, none, .mv (.t 8), []⟩])
 (.seq (.reg [] [⟨some 9, none, .mv (.t 0), []⟩, ⟨some 10, none, .mv (.t 3), []⟩, ⟨some 11, none, .ixs (.t 9) (.t 10), []⟩, ⟨some 12, none, .call 223 [(.t 11)], []⟩, ⟨some 13, none, .not (.t 12), []⟩, ⟨some 14, none, .mv (.t 13), []⟩, ⟨some 15, (some (14, true)), .mv (.t 3), []⟩, ⟨some 16, (some (14, true)), .bi .eql .i64 (.t 15) (.k (.int .i64 0)), []⟩, ⟨some 17, (some (14, true)), .mv (.t 16), []⟩, ⟨some 18, (some (17, false)), .mv (.t 0), []⟩, ⟨some 19, (some (17, false)), .mv (.t 3), []⟩, ⟨some 20, (some (17, false)), .ixs (.t 18) (.t 19), []⟩, ⟨some 21, (some (17, false)), .call 226 [(.t 20)], []⟩, ⟨some 22, (some (17, false)), .not (.t 21), []⟩, ⟨some 23, (some (14, true)), .pick (.t 17) (.k (.bool true)) (.t 22), []⟩, ⟨some 24, none, .pick (.t 14) (.t 23) (.k (.bool false)), []⟩])
 (.cond (.t 24) (.seq (.reg [] [⟨some 2, none, .mv (.k (.bool false)), []⟩])
 (.ret)) (.skip)))))
 (.reg [] [⟨some 25, none, .bi .add .i64 (.t 6) (.k (.int .i64 1)), []⟩, ⟨some 6, none, .mv (.t 25), []⟩])))))))
 (.seq (.reg [] [⟨some 26, none, .mv (.t 0), []⟩, ⟨some 27, none, .bs .neq (.t 26) (.k (.str [])), []⟩, ⟨some 2, none, .mv (.t 27), []⟩])
 (.ret)))⟩
theorem ck203 : chkFn Tryz.prog 203 ir203 = true := by kernel_rfl
def ir204 : AFn := ⟨5, 1, [.c 2 2 true], .seq (.reg [] [⟨some 2, none, .alloc [.int .i64 0, .str []], []⟩])
 (.seq (.reg [] [⟨some 3, none, .mv (.t 0), []⟩, ⟨some 4, none, .bld [.int .i64 0, .str []] [(0, 1, (.k (.int .i64 2))), (1, 1, (.t 3))], []⟩, ⟨none, none, .st 2 (.t 2) (.t 4), []⟩])
 (.ret))⟩
theorem ck204 : chkFn Tryz.prog 204 ir204 = true := by kernel_rfl
def ir205 : AFn := ⟨5, 1, [.t 2], .seq (.reg [] [⟨some 2, none, .mv (.k (.str [])), []⟩])
 (.seq (.reg [] [⟨some 3, none, .mv (.t 0), []⟩, ⟨some 4, none, .call 269 [(.t 3)], []⟩, ⟨some 2, none, .mv (.t 4), []⟩])
 (.ret))⟩
theorem ck205 : chkFn Tryz.prog 205 ir205 = true := by kernel_rfl
def ir207 : AFn := ⟨15, 1, [.t 2], .seq (.reg [] [⟨some 2, none, .mv (.k (.int .i64 0)), []⟩])
 (.seq (.reg [] [⟨some 6, none, .mv (.t 0), []⟩, ⟨some 7, none, .call 225 [(.t 6)], []⟩, ⟨some 5, none, .mv (.t 7), []⟩, ⟨some 8, none, .ext (.t 5) 0, []⟩, ⟨some 9, none, .ext (.t 5) 1, []⟩, ⟨some 3, none, .mv (.t 8), []⟩, ⟨some 4, none, .mv (.t 9), []⟩])
 (.seq (.seq (.reg [] [⟨some 10, none, .mv (.t 3), []⟩, ⟨some 11, none, .mv (.t 0), []⟩, ⟨some 12, none, .lens (.t 11), []⟩, ⟨some 13, none, .bi .neq .i64 (.t 10) (.t 12), []⟩])
 (.cond (.t 13) (.seq (.reg [] [⟨some 2, none, .mv (.k (.int .i64 0)), []⟩])
 (.ret)) (.skip)))
 (.seq (.reg [] [⟨some 14, none, .mv (.t 4), []⟩, ⟨some 2, none, .mv (.t 14), []⟩])
 (.ret))))⟩
theorem ck207 : chkFn Tryz.prog 207 ir207 = true := by kernel_rfl
def ir208 : AFn := ⟨5, 1, [.c 2 2 true], .seq (.reg [] [⟨some 2, none, .alloc [.int .i64 0, .str []], []⟩])
 (.seq (.reg [] [⟨some 3, none, .mv (.t 0), []⟩, ⟨some 4, none, .bld [.int .i64 0, .str []] [(0, 1, (.k (.int .i64 1))), (1, 1, (.t 3))], []⟩, ⟨none, none, .st 2 (.t 2) (.t 4), []⟩])
 (.ret))⟩
theorem ck208 : chkFn Tryz.prog 208 ir208 = true := by kernel_rfl
def ir210 : AFn := ⟨32, 2, [.t 4, .t 5], .seq (.reg [] [⟨some 4, none, .mv (.k (.int .i64 0)), []⟩, ⟨some 5, none, .mv (.k (.int .i64 0)), []⟩])
 (.seq (.seq (.reg [] [⟨some 8, none, .mv (.t 1), []⟩, ⟨some 9, none, .bi .lss .i64 (.t 8) (.k (.int .i64 0)), []⟩, ⟨some 10, none, .mv (.t 9), []⟩, ⟨some 11, (some (10, false)), .mv (.t 1), []⟩, ⟨some 12, (some (10, false)), .mv (.t 0), []⟩, ⟨some 13, (some (10, false)), .lens (.t 12), []⟩, ⟨some 14, (some (10, false)), .bi .geq .i64 (.t 11) (.t 13), []⟩, ⟨some 15, none, .pick (.t 10) (.k (.bool true)) (.t 14), []⟩])
 (.cond (.t 15) (.seq (.reg [] [⟨some 4, none, .mv (.k (.int .i64 0)), []⟩, ⟨some 5, none, .mv (.k (.int .i64 0)), []⟩])
 (.ret)) (.skip)))
 (.seq (.reg [] [⟨some 17, none, .mv (.t 0), []⟩, ⟨some 18, none, .mv (.t 1), []⟩, ⟨some 19, none, .sls (.t 17) (some (.t 18)) none, []⟩, ⟨some 20, none, .call 272 [(.t 19)], []⟩, ⟨some 16, none, .mv (.t 20), []⟩, ⟨some 21, none, .ext (.t 16) 0, []⟩, ⟨some 22, none, .ext (.t 16) 1, []⟩, ⟨some 6, none, .mv (.t 21), []⟩, ⟨some 7, none, .mv (.t 22), []⟩])
 (.seq (.seq (.reg [] [⟨some 23, none, .mv (.t 6), []⟩, ⟨some 24, none, .bi .eql .i32 (.t 23) (.k (.int .i32 65533)), []⟩, ⟨some 25, none, .mv (.t 24), []⟩, ⟨some 26, (some (25, true)), .mv (.t 7), []⟩, ⟨some 27, (some (25, true)), .bi .lss .i64 (.t 26) (.k (.int .i64 2)), []⟩, ⟨some 28, none, .pick (.t 25) (.t 27) (.k (.bool false)), []⟩])
 (.cond (.t 28) (.seq (.reg [] [⟨some 4, none, .mv (.k (.int .i64 0)), []⟩, ⟨some 5, none, .mv (.k (.int .i64 0)), []⟩])
 (.ret)) (.skip)))
 (.seq (.reg [] [⟨some 29, none, .mv (.t 6), []⟩, ⟨some 30, none, .cvi .i64 (.t 29), []⟩, ⟨some 31, none, .mv (.t 7), []⟩, ⟨some 4, none, .mv (.t 30), []⟩, ⟨some 5, none, .mv (.t 31), []⟩])
 (.ret)))))⟩
theorem ck210 : chkFn Tryz.prog 210 ir210 = true := by kernel_rfl
def ir211 : AFn := ⟨43, 1, [.t 2, .t 3], .seq (.reg [] [⟨some 2, none, .mv (.k (.sl .nil 1 [])), []⟩, ⟨some 3, none, .mv (.k (.bool false)), []⟩])
 (.seq (.reg [] [⟨some 4, none, .mv (.k (.sl .nil 1 [])), []⟩])
 (.seq (.seq (.reg [] [⟨some 5, none, .mv (.k (.int .i64 0)), []⟩])
 (.block 0 (.loop [0, 4, 5] (.seq (.seq (.reg [] [⟨some 8, none, .mv (.t 5), []⟩, ⟨some 9, none, .mv (.t 0), []⟩, ⟨some 10, none, .lens (.t 9), []⟩, ⟨some 11, none, .bi .lss .i64 (.t 8) (.t 10), []⟩])
 (.cond (.t 11) (.skip) (.exit 0)))
 (.block 1 (.seq (.reg [] [⟨some 13, none, .mv (.t 0), []⟩, ⟨some 14, none, .mv (.t 5), []⟩, ⟨some 15, none, .call 210 [(.t 13), (.t 14)], []⟩, ⟨some 12, none, .mv (.t 15), []⟩, ⟨some 16, none, .ext (.t 12) 0, []⟩, ⟨some 17, none, .ext (.t 12) 1, []⟩, ⟨some 6, none, .mv (.t 16), []⟩, ⟨some 7, none, .mv (.t 17), []⟩])
 (.seq (.block 2 (.seq (.reg [] [⟨some 23, none, .mv (.t 7), []⟩, ⟨some 24, none, .bi .eql .i64 (.t 23) (.k (.int .i64 0)), []⟩, ⟨some 22, none, .mv (.t 24), []⟩])
 (.cond (.t 22) (.seq (.reg [] [⟨some 2, none, .mv (.k (.sl .nil 1 [])), []⟩, ⟨some 3, none, .mv (.k (.bool false)), []⟩])
 (.ret)) (.seq (.reg [] [⟨some 26, none, .mv (.t 6), []⟩, ⟨some 27, none, .bi .geq .i64 (.t 26) (.k (.int .i64 65536)), []⟩, ⟨some 25, none, .mv (.t 27), []⟩])
 (.cond (.t 25) (.reg [] [⟨some 28, none, .mv (.t 4), []⟩, ⟨some 29, none, .mv (.t 6), []⟩, ⟨some 30, none, .bi .sub .i64 (.t 29) (.k (.int .i64 65536)), []⟩, ⟨some 31, none, .bi .quo .i64 (.t 30) (.k (.int .i64 1024)), []⟩, ⟨some 32, none, .bi .add .i64 (.k (.int .i64 55296)) (.t 31), []⟩, ⟨some 33, none, .mv (.t 6), []⟩, ⟨some 34, none, .bi .sub .i64 (.t 33) (.k (.int .i64 65536)), []⟩, ⟨some 35, none, .bi .rem .i64 (.t 34) (.k (.int .i64 1024)), []⟩, ⟨some 36, none, .bi .add .i64 (.k (.int .i64 56320)) (.t 35), []⟩, ⟨some 37, none, .bls 1 2 [.int .i64 0] [(0, (.t 32)), (1, (.t 36))], []⟩, ⟨some 38, none, .app 1 8 (.t 28) (.t 37), []⟩, ⟨some 4, none, .mv (.t 38), []⟩]) (.reg [] [⟨some 18, none, .mv (.t 4), []⟩, ⟨some 19, none, .mv (.t 6), []⟩, ⟨some 20, none, .bls 1 1 [.int .i64 0] [(0, (.t 19))], []⟩, ⟨some 21, none, .app 1 8 (.t 18) (.t 20), []⟩, ⟨some 4, none, .mv (.t 21), []⟩]))))))
 (.reg [] [⟨some 39, none, .mv (.t 5), []⟩, ⟨some 40, none, .mv (.t 7), []⟩, ⟨some 41, none, .bi .add .i64 (.t 39) (.t 40), []⟩, ⟨some 5, none, .mv (.t 41), []⟩]))))))))
 (.seq (.reg [] [⟨some 42, none, .mv (.t 4), []⟩, ⟨some 2, none, .mv (.t 42), []⟩, ⟨some 3, none, .mv (.k (.bool true)), []⟩])
 (.ret))))⟩
theorem ck211 : chkFn Tryz.prog 211 ir211 = true := by kernel_rfl
def ir212 : AFn := ⟨23, 2, [.t 4], .seq (.reg [] [⟨some 4, none, .mv (.k (.sl .nil 1 [])), []⟩])
 (.seq (.reg [] [⟨some 6, none, .mv (.t 0), []⟩, ⟨some 7, none, .bls 1 2 [.int .u8 0] [(0, (.k (.int .u8 92))), (1, (.k (.int .u8 117)))], []⟩, ⟨some 8, none, .app 1 1 (.t 6) (.t 7), []⟩, ⟨some 0, none, .mv (.t 8), []⟩])
 (.seq (.seq (.reg [] [⟨some 5, none, .mv (.k (.int .i64 3)), []⟩])
 (.block 0 (.loop [0, 1, 5] (.seq (.seq (.reg [] [⟨some 9, none, .mv (.t 5), []⟩, ⟨some 10, none, .bi .geq .i64 (.t 9) (.k (.int .i64 0)), []⟩])
 (.cond (.t 10) (.skip) (.exit 0)))
 (.seq (.block 1 (.reg [] [⟨some 13, none, .mv (.t 0), []⟩, ⟨some 14, none, .mv (.t 1), []⟩, ⟨some 15, none, .mv (.t 5), []⟩, ⟨some 16, none, .bi .mul .i64 (.k (.int .i64 4)) (.t 15), []⟩, ⟨some 17, none, .shf .shr (.t 14) (.t 16), []⟩, ⟨some 18, none, .bi .rem .i64 (.t 17) (.k (.int .i64 16)), []⟩, ⟨some 19, none, .ixs (.k (.str [48, 49, 50, 51, 52, 53, 54, 55, 56, 57, 97, 98, 99, 100, 101, 102])) (.t 18), []⟩, ⟨some 20, none, .bls 1 1 [.int .u8 0] [(0, (.t 19))], []⟩, ⟨some 21, none, .app 1 1 (.t 13) (.t 20), []⟩, ⟨some 0, none, .mv (.t 21), []⟩]))
 (.reg [] [⟨some 11, none, .mv (.t 5), []⟩, ⟨some 12, none, .bi .sub .i64 (.t 11) (.k (.int .i64 1)), []⟩, ⟨some 5, none, .mv (.t 12), []⟩]))))))
 (.seq (.reg [] [⟨some 22, none, .mv (.t 0), []⟩, ⟨some 4, none, .mv (.t 22), []⟩])
 (.ret))))⟩
theorem ck212 : chkFn Tryz.prog 212 ir212 = true := by kernel_rfl
def ir216 : AFn := ⟨21, 1, [.t 2], .seq (.reg [] [⟨some 2, none, .mv (.k (.bool false)), []⟩])
 (.seq (.reg [] [⟨some 3, none, .mv (.t 0), []⟩, ⟨some 4, none, .bi .eql .i64 (.t 3) (.k (.int .i64 9)), []⟩, ⟨some 5, none, .mv (.t 4), []⟩, ⟨some 6, (some (5, false)), .mv (.t 0), []⟩, ⟨some 7, (some (5, false)), .bi .eql .i64 (.t 6) (.k (.int .i64 10)), []⟩, ⟨some 8, none, .pick (.t 5) (.k (.bool true)) (.t 7), []⟩, ⟨some 9, none, .mv (.t 8), []⟩, ⟨some 10, (some (9, false)), .mv (.t 0), []⟩, ⟨some 11, (some (9, false)), .bi .eql .i64 (.t 10) (.k (.int .i64 13)), []⟩, ⟨some 12, none, .pick (.t 9) (.k (.bool true)) (.t 11), []⟩, ⟨some 13, none, .mv (.t 12), []⟩, ⟨some 14, (some (13, false)), .mv (.t 0), []⟩, ⟨some 15, (some (13, false)), .bi .geq .i64 (.t 14) (.k (.int .i64 32)), []⟩, ⟨some 16, (some (13, false)), .mv (.t 15), []⟩, ⟨some 17, (some (16, true)), .mv (.t 0), []⟩, ⟨some 18, (some (16, true)), .bi .leq .i64 (.t 17) (.k (.int .i64 65535)), []⟩, ⟨some 19, (some (13, false)), .pick (.t 16) (.t 18) (.k (.bool false)), []⟩, ⟨some 20, none, .pick (.t 13) (.k (.bool true)) (.t 19), []⟩, ⟨some 2, none, .mv (.t 20), []⟩])
 (.ret))⟩
theorem ck216 : chkFn Tryz.prog 216 ir216 = true := by kernel_rfl
def ir219 : AFn := ⟨38, 1, [.t 2, .t 3], .seq (.reg [] [⟨some 2, none, .mv (.k (.str [])), []⟩, ⟨some 3, none, .mv (.k (.int .i64 0)), []⟩])
 (.scope (.seq (.reg [] [⟨some 4, none, .mv (.k (.sl .nil 1 [])), []⟩])
 (.seq (.reg [] [⟨some 5, none, .mv (.k (.int .i64 3)), []⟩])
 (.seq (.skip)
 (.seq (.block 0 (.loop [0, 4, 5] (.block 1 (.seq (.block 2 (.seq (.reg [] [⟨some 7, none, .mv (.t 5), []⟩, ⟨some 8, none, .mv (.t 0), []⟩, ⟨some 9, none, .lens (.t 8), []⟩, ⟨some 10, none, .bi .geq .i64 (.t 7) (.t 9), []⟩, ⟨some 6, none, .mv (.t 10), []⟩])
 (.cond (.t 6) (.seq (.reg [] [⟨some 2, none, .mv (.k (.str [])), []⟩, ⟨some 3, none, .mv (.k (.int .i64 0)), []⟩])
 (.ret)) (.seq (.reg [] [⟨some 12, none, .mv (.t 0), []⟩, ⟨some 13, none, .mv (.t 5), []⟩, ⟨some 14, none, .sls (.t 12) (some (.t 13)) none, []⟩, ⟨some 15, none, .call 217 [(.t 14), (.k (.str [34, 34, 34]))], []⟩, ⟨some 11, none, .mv (.t 15), []⟩])
 (.cond (.t 11) (.exit 0) (.seq (.reg [] [⟨some 17, none, .mv (.t 0), []⟩, ⟨some 18, none, .mv (.t 5), []⟩, ⟨some 19, none, .sls (.t 17) (some (.t 18)) none, []⟩, ⟨some 20, none, .call 217 [(.t 19), (.k (.str [92, 34, 34, 34]))], []⟩, ⟨some 16, none, .mv (.t 20), []⟩])
 (.cond (.t 16) (.seq (.reg [] [⟨some 21, none, .mv (.t 4), []⟩, ⟨some 22, none, .apps (.t 21) (.k (.str [34, 34, 34])), []⟩, ⟨some 4, none, .mv (.t 22), []⟩])
 (.seq (.reg [] [⟨some 23, none, .mv (.t 5), []⟩, ⟨some 24, none, .bi .add .i64 (.t 23) (.k (.int .i64 4)), []⟩, ⟨some 5, none, .mv (.t 24), []⟩])
 (.exit 1))) (.skip))))))))
 (.seq (.reg [] [⟨some 25, none, .mv (.t 4), []⟩, ⟨some 26, none, .mv (.t 0), []⟩, ⟨some 27, none, .mv (.t 5), []⟩, ⟨some 28, none, .ixs (.t 26) (.t 27), []⟩, ⟨some 29, none, .bls 1 1 [.int .u8 0] [(0, (.t 28))], []⟩, ⟨some 30, none, .app 1 1 (.t 25) (.t 29), []⟩, ⟨some 4, none, .mv (.t 30), []⟩])
 (.reg [] [⟨some 31, none, .mv (.t 5), []⟩, ⟨some 32, none, .bi .add .i64 (.t 31) (.k (.int .i64 1)), []⟩, ⟨some 5, none, .mv (.t 32), []⟩]))))))
 (.seq (.reg [] [⟨some 33, none, .mv (.t 4), []⟩, ⟨some 34, none, .cvb2s (.t 33), []⟩, ⟨some 35, none, .call 280 [(.t 34)], []⟩, ⟨some 36, none, .mv (.t 5), []⟩, ⟨some 37, none, .bi .add .i64 (.t 36) (.k (.int .i64 3)), []⟩, ⟨some 2, none, .mv (.t 35), []⟩, ⟨some 3, none, .mv (.t 37), []⟩])
 (.ret)))))))⟩
theorem ck219 : chkFn Tryz.prog 219 ir219 = true := by kernel_rfl
def ir220 : AFn := ⟨75, 2, [.t 4, .t 5], .seq (.reg [] [⟨some 4, none, .mv (.k (.str [])), []⟩, ⟨some 5, none, .mv (.k (.int .i64 0)), []⟩])
 (.scope (.seq (.reg [] [⟨some 9, none, .bld [.sl .nil 1 [], .sl .nil 1 [], .bool false] [(2, 1, (.k (.bool true)))], []⟩, ⟨some 10, none, .box (.t 9), []⟩, ⟨some 6, none, .mv (.t 10), []⟩])
 (.seq (.reg [] [⟨some 7, none, .mv (.k (.int .i64 1)), []⟩])
 (.seq (.skip)
 (.seq (.block 0 (.loop [0, 1, 6, 7] (.block 1 (.seq (.block 2 (.seq (.reg [] [⟨some 12, none, .mv (.t 7), []⟩, ⟨some 13, none, .mv (.t 0), []⟩, ⟨some 14, none, .lens (.t 13), []⟩, ⟨some 15, none, .bi .geq .i64 (.t 12) (.t 14), []⟩, ⟨some 11, none, .mv (.t 15), []⟩])
 (.cond (.t 11) (.seq (.reg [] [⟨some 4, none, .mv (.k (.str [])), []⟩, ⟨some 5, none, .mv (.k (.int .i64 0)), []⟩])
 (.ret)) (.seq (.reg [] [⟨some 17, none, .mv (.t 0), []⟩, ⟨some 18, none, .mv (.t 7), []⟩, ⟨some 19, none, .ixs (.t 17) (.t 18), []⟩, ⟨some 20, none, .bi .eql .u8 (.t 19) (.k (.int .u8 34)), []⟩, ⟨some 16, none, .mv (.t 20), []⟩])
 (.cond (.t 16) (.exit 0) (.seq (.reg [] [⟨some 22, none, .mv (.t 0), []⟩, ⟨some 23, none, .mv (.t 7), []⟩, ⟨some 24, none, .ixs (.t 22) (.t 23), []⟩, ⟨some 25, none, .bi .eql .u8 (.t 24) (.k (.int .u8 92)), []⟩, ⟨some 21, none, .mv (.t 25), []⟩])
 (.cond (.t 21) (.seq (.reg [] [⟨some 26, none, .mv (.t 6), []⟩, ⟨some 27, none, .mv (.t 0), []⟩, ⟨some 28, none, .mv (.t 7), []⟩, ⟨some 29, none, .bi .add .i64 (.t 28) (.k (.int .i64 1)), []⟩, ⟨some 30, none, .sls (.t 27) (some (.t 29)) none, []⟩, ⟨some 31, none, .call 281 [(.t 26), (.t 30)], []⟩, ⟨some 8, none, .mv (.t 31), []⟩])
 (.seq (.seq (.reg [] [⟨some 32, none, .mv (.t 8), []⟩, ⟨some 33, none, .bi .eql .i64 (.t 32) (.k (.int .i64 0)), []⟩])
 (.cond (.t 33) (.seq (.reg [] [⟨some 4, none, .mv (.k (.str [])), []⟩, ⟨some 5, none, .mv (.k (.int .i64 0)), []⟩])
 (.ret)) (.skip)))
 (.seq (.reg [] [⟨some 34, none, .mv (.t 7), []⟩, ⟨some 35, none, .mv (.t 8), []⟩, ⟨some 36, none, .bi .add .i64 (.k (.int .i64 1)) (.t 35), []⟩, ⟨some 37, none, .bi .add .i64 (.t 34) (.t 36), []⟩, ⟨some 7, none, .mv (.t 37), []⟩])
 (.exit 1)))) (.seq (.reg [] [⟨some 39, none, .mv (.t 1), []⟩, ⟨some 40, none, .mv (.t 0), []⟩, ⟨some 41, none, .mv (.t 7), []⟩, ⟨some 42, none, .ixs (.t 40) (.t 41), []⟩, ⟨some 43, none, .callv (.t 39) [(.t 42)], []⟩, ⟨some 44, none, .not (.t 43), []⟩, ⟨some 38, none, .mv (.t 44), []⟩])
 (.cond (.t 38) (.seq (.reg [] [⟨some 4, none, .mv (.k (.str [])), []⟩, ⟨some 5, none, .mv (.k (.int .i64 0)), []⟩])
 (.ret)) (.skip))))))))))
 (.seq (.reg [] [⟨some 45, none, .mv (.t 6), []⟩, ⟨some 46, none, .call 282 [(.t 45)], []⟩])
 (.seq (.reg [0, 1, 2, 3, 4, 5, 6, 7, 8, 9, 10, 11, 12] [⟨some 47, none, .mv (.t 6), []⟩, ⟨some 48, none, .mv (.t 6), []⟩, ⟨some 49, none, .nilchk (.t 48), []⟩, ⟨some 50, none, .fa 0 (.t 49), []⟩, ⟨some 51, none, .ld 1 false (.t 50), []⟩, ⟨some 52, none, .mv (.t 0), []⟩, ⟨some 53, none, .mv (.t 7), []⟩, ⟨some 54, none, .ixs (.t 52) (.t 53), []⟩, ⟨some 55, none, .bls 1 1 [.int .u8 0] [(0, (.t 54))], []⟩, ⟨some 56, none, .app 1 1 (.t 51) (.t 55), []⟩, ⟨some 57, none, .nilchk (.t 47), []⟩, ⟨some 58, none, .fa 0 (.t 57), []⟩, ⟨none, none, .st 1 (.t 58) (.t 56), []⟩])
 (.reg [] [⟨some 59, none, .mv (.t 7), []⟩, ⟨some 60, none, .bi .add .i64 (.t 59) (.k (.int .i64 1)), []⟩, ⟨some 7, none, .mv (.t 60), []⟩])))))))
 (.seq (.reg [] [⟨some 61, none, .mv (.t 6), []⟩, ⟨some 62, none, .call 282 [(.t 61)], []⟩])
 (.seq (.seq (.reg [] [⟨some 63, none, .mv (.t 6), []⟩, ⟨some 64, none, .nilchk (.t 63), []⟩, ⟨some 65, none, .fa 2 (.t 64), []⟩, ⟨some 66, none, .ld 1 false (.t 65), []⟩, ⟨some 67, none, .not (.t 66), []⟩])
 (.cond (.t 67) (.seq (.reg [] [⟨some 4, none, .mv (.k (.str [])), []⟩, ⟨some 5, none, .mv (.k (.int .i64 0)), []⟩])
 (.ret)) (.skip)))
 (.seq (.reg [] [⟨some 68, none, .mv (.t 6), []⟩, ⟨some 69, none, .nilchk (.t 68), []⟩, ⟨some 70, none, .fa 0 (.t 69), []⟩, ⟨some 71, none, .ld 1 false (.t 70), []⟩, ⟨some 72, none, .cvb2s (.t 71), []⟩, ⟨some 73, none, .mv (.t 7), []⟩, ⟨some 74, none, .bi .add .i64 (.t 73) (.k (.int .i64 1)), []⟩, ⟨some 4, none, .mv (.t 72), []⟩, ⟨some 5, none, .mv (.t 74), []⟩])
 (.ret)))))))))⟩
theorem ck220 : chkFn Tryz.prog 220 ir220 = true := by kernel_rfl
def ir221 : AFn := ⟨9, 1, [.t 2], .seq (.reg [] [⟨some 2, none, .mv (.k (.bool false)), []⟩])
 (.seq (.reg [] [⟨some 3, none, .mv (.t 0), []⟩, ⟨some 4, none, .bi .neq .u8 (.t 3) (.k (.int .u8 10)), []⟩, ⟨some 5, none, .mv (.t 4), []⟩, ⟨some 6, (some (5, true)), .mv (.t 0), []⟩, ⟨some 7, (some (5, true)), .bi .neq .u8 (.t 6) (.k (.int .u8 13)), []⟩, ⟨some 8, none, .pick (.t 5) (.t 7) (.k (.bool false)), []⟩, ⟨some 2, none, .mv (.t 8), []⟩])
 (.ret))⟩
theorem ck221 : chkFn Tryz.prog 221 ir221 = true := by kernel_rfl
def ir223 : AFn := ⟨21, 1, [.t 2], .seq (.reg [] [⟨some 2, none, .mv (.k (.bool false)), []⟩])
 (.seq (.reg [] [⟨some 3, none, .mv (.t 0), []⟩, ⟨some 4, none, .bi .geq .u8 (.t 3) (.k (.int .u8 97)), []⟩, ⟨some 5, none, .mv (.t 4), []⟩, ⟨some 6, (some (5, true)), .mv (.t 0), []⟩, ⟨some 7, (some (5, true)), .bi .leq .u8 (.t 6) (.k (.int .u8 122)), []⟩, ⟨some 8, none, .pick (.t 5) (.t 7) (.k (.bool false)), []⟩, ⟨some 9, none, .mv (.t 8), []⟩, ⟨some 10, (some (9, false)), .mv (.t 0), []⟩, ⟨some 11, (some (9, false)), .bi .geq .u8 (.t 10) (.k (.int .u8 65)), []⟩, ⟨some 12, (some (9, false)), .mv (.t 11), []⟩, ⟨some 13, (some (12, true)), .mv (.t 0), []⟩, ⟨some 14, (some (12, true)), .bi .leq .u8 (.t 13) (.k (.int .u8 90)), []⟩, ⟨some 15, (some (9, false)), .pick (.t 12) (.t 14) (.k (.bool false)), []⟩, ⟨some 16, none, .pick (.t 9) (.k (.bool true)) (.t 15), []⟩, ⟨some 17, none, .mv (.t 16), []⟩, ⟨some 18, (some (17, false)), .mv (.t 0), []⟩, ⟨some 19, (some (17, false)), .bi .eql .u8 (.t 18) (.k (.int .u8 95)), []⟩, ⟨some 20, none, .pick (.t 17) (.k (.bool true)) (.t 19), []⟩, ⟨some 2, none, .mv (.t 20), []⟩])
 (.ret))⟩
theorem ck223 : chkFn Tryz.prog 223 ir223 = true := by kernel_rfl
def ir224 : AFn := ⟨27, 1, [.t 2], .seq (.reg [] [⟨some 2, none, .mv (.k (.int .i64 0)), []⟩])
 (.seq (.reg [] [⟨some 3, none, .mv (.k (.int .i64 0)), []⟩])
 (.seq (.block 0 (.loop [0, 3] (.seq (.seq (.reg [] [⟨some 4, none, .mv (.t 3), []⟩, ⟨some 5, none, .mv (.t 0), []⟩, ⟨some 6, none, .lens (.t 5), []⟩, ⟨some 7, none, .bi .lss .i64 (.t 4) (.t 6), []⟩, ⟨some 8, none, .mv (.t 7), []⟩, ⟨some 9, (some (8, true)), .mv (.t 0), []⟩, ⟨some 10, (some (8, true)), .mv (.t 3), []⟩, ⟨some 11, (some (8, true)), .ixs (.t 9) (.t 10), []⟩, ⟨some 12, (some (8, true)), .call 223 [(.t 11)], []⟩, ⟨some 13, (some (8, true)), .mv (.t 12), []⟩, ⟨some 14, (some (13, false)), .mv (.t 3), []⟩, ⟨some 15, (some (13, false)), .bi .gtr .i64 (.t 14) (.k (.int .i64 0)), []⟩, ⟨some 16, (some (13, false)), .mv (.t 15), []⟩, ⟨some 17, (some (16, true)), .mv (.t 0), []⟩, ⟨some 18, (some (16, true)), .mv (.t 3), []⟩, ⟨some 19, (some (16, true)), .ixs (.t 17) (.t 18), []⟩, ⟨some 20, (some (16, true)), .call 226 [(.t 19)], []⟩, ⟨some 21, (some (13, false)), .pick (.t 16) (.t 20) (.k (.bool false)), []⟩, ⟨some 22, (some (8, true)), .pick (.t 13) (.k (.bool true)) (.t 21), []⟩, ⟨some 23, none, .pick (.t 8) (.t 22) (.k (.bool false)), []⟩])
 (.cond (.t 23) (.skip) (.exit 0)))
 (.block 1 (.reg [] [⟨some 24, none, .mv (.t 3), []⟩, ⟨some 25, none, .bi .add .i64 (.t 24) (.k (.int .i64 1)), []⟩, ⟨some 3, none, .mv (.t 25), []⟩])))))
 (.seq (.reg [] [⟨some 26, none, .mv (.t 3), []⟩, ⟨some 2, none, .mv (.t 26), []⟩])
 (.ret))))⟩
theorem ck224 : chkFn Tryz.prog 224 ir224 = true := by kernel_rfl
def ir225 : AFn := ⟨38, 1, [.t 2, .t 3], .seq (.reg [] [⟨some 2, none, .mv (.k (.int .i64 0)), []⟩, ⟨some 3, none, .mv (.k (.int .i64 0)), []⟩])
 (.seq (.reg [] [⟨some 8, none, .mv (.t 0), []⟩, ⟨some 9, none, .call 284 [(.t 8)], []⟩, ⟨some 4, none, .mv (.t 9), []⟩])
 (.seq (.seq (.reg [] [⟨some 10, none, .mv (.t 4), []⟩, ⟨some 11, none, .bi .eql .i64 (.t 10) (.k (.int .i64 0)), []⟩])
 (.cond (.t 11) (.seq (.reg [] [⟨some 2, none, .mv (.k (.int .i64 0)), []⟩, ⟨some 3, none, .mv (.k (.int .i64 0)), []⟩])
 (.ret)) (.skip)))
 (.seq (.reg [] [⟨some 5, none, .mv (.k (.int .i64 3)), []⟩])
 (.seq (.seq (.reg [] [⟨some 12, none, .mv (.t 0), []⟩, ⟨some 13, none, .mv (.t 4), []⟩, ⟨some 14, none, .sls (.t 12) (some (.t 13)) none, []⟩, ⟨some 15, none, .call 217 [(.t 14), (.k (.str [46]))], []⟩])
 (.cond (.t 15) (.seq (.reg [] [⟨some 16, none, .mv (.t 0), []⟩, ⟨some 17, none, .mv (.t 4), []⟩, ⟨some 18, none, .bi .add .i64 (.t 17) (.k (.int .i64 1)), []⟩, ⟨some 19, none, .sls (.t 16) (some (.t 18)) none, []⟩, ⟨some 20, none, .call 285 [(.t 19)], []⟩, ⟨some 6, none, .mv (.t 20), []⟩])
 (.seq (.reg [] [⟨some 21, none, .mv (.t 6), []⟩, ⟨some 22, none, .bi .gtr .i64 (.t 21) (.k (.int .i64 0)), []⟩])
 (.cond (.t 22) (.reg [] [⟨some 23, none, .mv (.t 4), []⟩, ⟨some 24, none, .bi .add .i64 (.t 23) (.k (.int .i64 1)), []⟩, ⟨some 25, none, .mv (.t 6), []⟩, ⟨some 26, none, .bi .add .i64 (.t 24) (.t 25), []⟩, ⟨some 4, none, .mv (.t 26), []⟩, ⟨some 5, none, .mv (.k (.int .i64 4)), []⟩]) (.skip)))) (.skip)))
 (.seq (.seq (.reg [] [⟨some 27, none, .mv (.t 0), []⟩, ⟨some 28, none, .mv (.t 4), []⟩, ⟨some 29, none, .sls (.t 27) (some (.t 28)) none, []⟩, ⟨some 30, none, .call 286 [(.t 29)], []⟩, ⟨some 7, none, .mv (.t 30), []⟩])
 (.seq (.reg [] [⟨some 31, none, .mv (.t 7), []⟩, ⟨some 32, none, .bi .gtr .i64 (.t 31) (.k (.int .i64 0)), []⟩])
 (.cond (.t 32) (.reg [] [⟨some 33, none, .mv (.t 4), []⟩, ⟨some 34, none, .mv (.t 7), []⟩, ⟨some 35, none, .bi .add .i64 (.t 33) (.t 34), []⟩, ⟨some 4, none, .mv (.t 35), []⟩, ⟨some 5, none, .mv (.k (.int .i64 4)), []⟩]) (.skip))))
 (.seq (.reg [] [⟨some 36, none, .mv (.t 4), []⟩, ⟨some 37, none, .mv (.t 5), []⟩, ⟨some 2, none, .mv (.t 36), []⟩, ⟨some 3, none, .mv (.t 37), []⟩])
 (.ret)))))))⟩
theorem ck225 : chkFn Tryz.prog 225 ir225 = true := by kernel_rfl
def ir226 : AFn := ⟨9, 1, [.t 2], .seq (.reg [] [⟨some 2, none, .mv (.k (.bool false)), []⟩])
 (.seq (.reg [] [⟨some 3, none, .mv (.t 0), []⟩, ⟨some 4, none, .bi .geq .u8 (.t 3) (.k (.int .u8 48)), []⟩, ⟨some 5, none, .mv (.t 4), []⟩, ⟨some 6, (some (5, true)), .mv (.t 0), []⟩, ⟨some 7, (some (5, true)), .bi .leq .u8 (.t 6) (.k (.int .u8 57)), []⟩, ⟨some 8, none, .pick (.t 5) (.t 7) (.k (.bool false)), []⟩, ⟨some 2, none, .mv (.t 8), []⟩])
 (.ret))⟩
theorem ck226 : chkFn Tryz.prog 226 ir226 = true := by kernel_rfl
def ir266 : AFn := ⟨88, 1, [.t 2], .seq (.reg [] [⟨some 1, none, .boxv (.t 0), []⟩, ⟨some 2, none, .mv (.k (.bool false)), []⟩])
 (.seq (.reg [] [⟨some 4, none, .ld 5 true (.t 1), []⟩, ⟨some 3, none, .alloc [.int .i64 0, .int .i64 0, .str [], .sl .nil 5 [], .sl .nil 6 []], []⟩, ⟨none, none, .st 5 (.t 3) (.t 4), []⟩])
 (.seq (.reg [] [⟨some 5, none, .fa 1 (.t 3), []⟩, ⟨none, none, .st 1 (.t 5) (.k (.int .i64 0)), []⟩, ⟨some 6, none, .fa 2 (.t 3), []⟩, ⟨none, none, .st 1 (.t 6) (.k (.str [])), []⟩])
 (.seq (.seq (.reg [] [⟨some 7, none, .ld 5 true (.t 3), []⟩, ⟨some 8, none, .call 267 [(.t 7)], []⟩, ⟨some 9, none, .not (.t 8), []⟩])
 (.cond (.t 9) (.seq (.reg [] [⟨some 2, none, .mv (.k (.bool false)), []⟩])
 (.ret)) (.skip)))
 (.seq (.seq (.reg [] [⟨some 10, none, .fa 0 (.t 1), []⟩, ⟨some 11, none, .ld 1 false (.t 10), []⟩])
 (.block 0 (.seq (.reg [] [⟨some 13, none, .bi .eql .i64 (.t 11) (.k (.int .i64 0)), []⟩, ⟨some 12, none, .mv (.t 13), []⟩])
 (.cond (.t 12) (.seq (.reg [] [⟨some 14, none, .fa 1 (.t 1), []⟩, ⟨some 15, none, .ld 1 false (.t 14), []⟩, ⟨some 16, none, .bi .eql .i64 (.t 15) (.k (.int .i64 0)), []⟩, ⟨some 17, none, .mv (.t 16), []⟩, ⟨some 18, (some (17, true)), .fa 2 (.t 1), []⟩, ⟨some 19, (some (17, true)), .ld 1 false (.t 18), []⟩, ⟨some 20, (some (17, true)), .bs .eql (.t 19) (.k (.str [])), []⟩, ⟨some 21, none, .pick (.t 17) (.t 20) (.k (.bool false)), []⟩, ⟨some 2, none, .mv (.t 21), []⟩])
 (.ret)) (.seq (.reg [] [⟨some 23, none, .bi .eql .i64 (.t 11) (.k (.int .i64 1)), []⟩, ⟨some 22, none, .mv (.t 23), []⟩])
 (.cond (.t 22) (.seq (.reg [] [⟨some 24, none, .fa 1 (.t 1), []⟩, ⟨some 25, none, .ld 1 false (.t 24), []⟩, ⟨some 26, none, .bi .eql .i64 (.t 25) (.k (.int .i64 0)), []⟩, ⟨some 27, none, .mv (.t 26), []⟩, ⟨some 28, (some (27, false)), .fa 1 (.t 1), []⟩, ⟨some 29, (some (27, false)), .ld 1 false (.t 28), []⟩, ⟨some 30, (some (27, false)), .bi .eql .i64 (.t 29) (.k (.int .i64 1)), []⟩, ⟨some 31, none, .pick (.t 27) (.k (.bool true)) (.t 30), []⟩, ⟨some 32, none, .mv (.t 31), []⟩, ⟨some 33, (some (32, true)), .fa 2 (.t 1), []⟩, ⟨some 34, (some (32, true)), .ld 1 false (.t 33), []⟩, ⟨some 35, (some (32, true)), .bs .eql (.t 34) (.k (.str [])), []⟩, ⟨some 36, none, .pick (.t 32) (.t 35) (.k (.bool false)), []⟩, ⟨some 2, none, .mv (.t 36), []⟩])
 (.ret)) (.seq (.reg [] [⟨some 38, none, .bi .eql .i64 (.t 11) (.k (.int .i64 2)), []⟩, ⟨some 37, none, .mv (.t 38), []⟩])
 (.cond (.t 37) (.seq (.reg [] [⟨some 39, none, .fa 2 (.t 1), []⟩, ⟨some 40, none, .ld 1 false (.t 39), []⟩, ⟨some 41, none, .bs .eql (.t 40) (.k (.str [])), []⟩, ⟨some 2, none, .mv (.t 41), []⟩])
 (.ret)) (.seq (.reg [] [⟨some 43, none, .bi .eql .i64 (.t 11) (.k (.int .i64 3)), []⟩, ⟨some 42, none, .mv (.t 43), []⟩])
 (.cond (.t 42) (.seq (.reg [] [⟨some 44, none, .fa 1 (.t 1), []⟩, ⟨some 45, none, .ld 1 false (.t 44), []⟩, ⟨some 46, none, .bi .eql .i64 (.t 45) (.k (.int .i64 0)), []⟩, ⟨some 47, none, .mv (.t 46), []⟩, ⟨some 48, (some (47, true)), .fa 2 (.t 1), []⟩, ⟨some 49, (some (47, true)), .ld 1 false (.t 48), []⟩, ⟨some 50, (some (47, true)), .call 309 [(.t 49)], []⟩, ⟨some 51, none, .pick (.t 47) (.t 50) (.k (.bool false)), []⟩, ⟨some 2, none, .mv (.t 51), []⟩])
 (.ret)) (.seq (.reg [] [⟨some 53, none, .bi .eql .i64 (.t 11) (.k (.int .i64 4)), []⟩, ⟨some 52, none, .mv (.t 53), []⟩])
 (.cond (.t 52) (.seq (.reg [] [⟨some 54, none, .fa 1 (.t 1), []⟩, ⟨some 55, none, .ld 1 false (.t 54), []⟩, ⟨some 56, none, .bi .eql .i64 (.t 55) (.k (.int .i64 0)), []⟩, ⟨some 57, none, .mv (.t 56), []⟩, ⟨some 58, (some (57, true)), .fa 2 (.t 1), []⟩, ⟨some 59, (some (57, true)), .ld 1 false (.t 58), []⟩, ⟨some 60, (some (57, true)), .call 202 [(.t 59)], []⟩, ⟨some 61, none, .pick (.t 57) (.t 60) (.k (.bool false)), []⟩, ⟨some 2, none, .mv (.t 61), []⟩])
 (.ret)) (.seq (.reg [] [⟨some 63, none, .bi .eql .i64 (.t 11) (.k (.int .i64 5)), []⟩, ⟨some 62, none, .mv (.t 63), []⟩])
 (.cond (.t 62) (.seq (.reg [] [⟨some 64, none, .fa 1 (.t 1), []⟩, ⟨some 65, none, .ld 1 false (.t 64), []⟩, ⟨some 66, none, .bi .eql .i64 (.t 65) (.k (.int .i64 0)), []⟩, ⟨some 67, none, .mv (.t 66), []⟩, ⟨some 68, (some (67, true)), .fa 2 (.t 1), []⟩, ⟨some 69, (some (67, true)), .ld 1 false (.t 68), []⟩, ⟨some 70, (some (67, true)), .call 203 [(.t 69)], []⟩, ⟨some 71, none, .pick (.t 67) (.t 70) (.k (.bool false)), []⟩, ⟨some 72, none, .mv (.t 71), []⟩, ⟨some 73, (some (72, true)), .fa 2 (.t 1), []⟩, ⟨some 74, (some (72, true)), .ld 1 false (.t 73), []⟩, ⟨some 75, (some (72, true)), .call 310 [(.t 74)], []⟩, ⟨some 76, (some (72, true)), .not (.t 75), []⟩, ⟨some 77, none, .pick (.t 72) (.t 76) (.k (.bool false)), []⟩, ⟨some 2, none, .mv (.t 77), []⟩])
 (.ret)) (.seq (.reg [] [⟨some 79, none, .bi .eql .i64 (.t 11) (.k (.int .i64 8)), []⟩, ⟨some 78, none, .mv (.t 79), []⟩])
 (.cond (.t 78) (.seq (.reg [] [⟨some 80, none, .fa 1 (.t 1), []⟩, ⟨some 81, none, .ld 1 false (.t 80), []⟩, ⟨some 82, none, .bi .eql .i64 (.t 81) (.k (.int .i64 0)), []⟩, ⟨some 83, none, .mv (.t 82), []⟩, ⟨some 84, (some (83, true)), .fa 2 (.t 1), []⟩, ⟨some 85, (some (83, true)), .ld 1 false (.t 84), []⟩, ⟨some 86, (some (83, true)), .call 203 [(.t 85)], []⟩, ⟨some 87, none, .pick (.t 83) (.t 86) (.k (.bool false)), []⟩, ⟨some 2, none, .mv (.t 87), []⟩])
 (.ret)) (.skip)))))))))))))))))
 (.seq (.reg [] [⟨some 2, none, .mv (.k (.bool false)), []⟩])
 (.ret))))))⟩
theorem ck266 : chkFn Tryz.prog 266 ir266 = true := by kernel_rfl
def ir267 : AFn := ⟨23, 1, [.t 2], .seq (.reg [] [⟨some 1, none, .boxv (.t 0), []⟩, ⟨some 2, none, .mv (.k (.bool false)), []⟩])
 (.seq (.reg [] [⟨some 3, none, .fa 1 (.t 1), []⟩, ⟨some 4, none, .ld 1 false (.t 3), []⟩, ⟨some 5, none, .bi .eql .i64 (.t 4) (.k (.int .i64 0)), []⟩, ⟨some 6, none, .mv (.t 5), []⟩, ⟨some 7, (some (6, true)), .fa 2 (.t 1), []⟩, ⟨some 8, (some (6, true)), .ld 1 false (.t 7), []⟩, ⟨some 9, (some (6, true)), .bs .eql (.t 8) (.k (.str [])), []⟩, ⟨some 10, none, .pick (.t 6) (.t 9) (.k (.bool false)), []⟩, ⟨some 11, none, .mv (.t 10), []⟩, ⟨some 12, (some (11, true)), .fa 3 (.t 1), []⟩, ⟨some 13, (some (11, true)), .ld 1 false (.t 12), []⟩, ⟨some 14, (some (11, true)), .len (.t 13), []⟩, ⟨some 15, (some (11, true)), .bi .eql .i64 (.t 14) (.k (.int .i64 0)), []⟩, ⟨some 16, none, .pick (.t 11) (.t 15) (.k (.bool false)), []⟩, ⟨some 17, none, .mv (.t 16), []⟩, ⟨some 18, (some (17, true)), .fa 4 (.t 1), []⟩, ⟨some 19, (some (17, true)), .ld 1 false (.t 18), []⟩, ⟨some 20, (some (17, true)), .len (.t 19), []⟩, ⟨some 21, (some (17, true)), .bi .eql .i64 (.t 20) (.k (.int .i64 0)), []⟩, ⟨some 22, none, .pick (.t 17) (.t 21) (.k (.bool false)), []⟩, ⟨some 2, none, .mv (.t 22), []⟩])
 (.ret))⟩
theorem ck267 : chkFn Tryz.prog 267 ir267 = true := by kernel_rfl
def ir269 : AFn := ⟨4, 1, [.t 2], .seq (.reg [] [⟨some 2, none, .mv (.k (.str [])), []⟩])
 (.seq (.seq (.reg [] [⟨some 3, none, .mv (.t 0), []⟩])
 (.cond (.t 3) (.seq (.reg [] [⟨some 2, none, .mv (.k (.str [116, 114, 117, 101])), []⟩])
 (.ret)) (.skip)))
 (.seq (.reg [] [⟨some 2, none, .mv (.k (.str [102, 97, 108, 115, 101])), []⟩])
 (.ret)))⟩
theorem ck269 : chkFn Tryz.prog 269 ir269 = true := by kernel_rfl
def ir280 : AFn := ⟨63, 1, [.t 2], .seq (.reg [] [⟨some 2, none, .mv (.k (.str [])), []⟩])
 (.seq (.reg [] [⟨some 6, none, .mv (.t 0), []⟩, ⟨some 7, none, .call 323 [(.t 6)], []⟩, ⟨some 3, none, .mv (.t 7), []⟩])
 (.seq (.seq (.reg [] [⟨some 8, none, .mv (.t 3), []⟩, ⟨some 9, none, .call 324 [(.t 8)], []⟩, ⟨some 4, none, .mv (.t 9), []⟩])
 (.seq (.reg [] [⟨some 10, none, .mv (.t 4), []⟩, ⟨some 11, none, .bi .gtr .i64 (.t 10) (.k (.int .i64 0)), []⟩])
 (.cond (.t 11) (.seq (.reg [] [⟨some 5, none, .mv (.k (.int .i64 1)), []⟩])
 (.block 0 (.loop [3, 4, 5] (.seq (.seq (.reg [] [⟨some 12, none, .mv (.t 5), []⟩, ⟨some 13, none, .mv (.t 3), []⟩, ⟨some 14, none, .len (.t 13), []⟩, ⟨some 15, none, .bi .lss .i64 (.t 12) (.t 14), []⟩])
 (.cond (.t 15) (.skip) (.exit 0)))
 (.seq (.block 1 (.reg [0, 1, 2, 3, 4, 5, 6, 7, 8, 9, 10, 11, 12, 13, 14, 15] [⟨some 18, none, .mv (.t 3), []⟩, ⟨some 19, none, .mv (.t 5), []⟩, ⟨some 20, none, .mv (.t 3), []⟩, ⟨some 21, none, .mv (.t 5), []⟩, ⟨some 22, none, .ia 1 (.t 20) (.t 21), []⟩, ⟨some 23, none, .ld 1 false (.t 22), []⟩, ⟨some 24, none, .mv (.t 4), []⟩, ⟨some 25, none, .mv (.t 3), []⟩, ⟨some 26, none, .mv (.t 5), []⟩, ⟨some 27, none, .ia 1 (.t 25) (.t 26), []⟩, ⟨some 28, none, .ld 1 false (.t 27), []⟩, ⟨some 29, none, .lens (.t 28), []⟩, ⟨some 30, none, .mm false (.t 24) [(.t 29)], []⟩, ⟨some 31, none, .sls (.t 23) (some (.t 30)) none, []⟩, ⟨some 32, none, .ia 1 (.t 18) (.t 19), []⟩, ⟨none, none, .st 1 (.t 32) (.t 31), []⟩]))
 (.reg [] [⟨some 16, none, .mv (.t 5), []⟩, ⟨some 17, none, .bi .add .i64 (.t 16) (.k (.int .i64 1)), []⟩, ⟨some 5, none, .mv (.t 17), []⟩])))))) (.skip))))
 (.seq (.block 2 (.loop [3] (.seq (.seq (.reg [] [⟨some 33, none, .mv (.t 3), []⟩, ⟨some 34, none, .len (.t 33), []⟩, ⟨some 35, none, .bi .gtr .i64 (.t 34) (.k (.int .i64 0)), []⟩, ⟨some 36, none, .mv (.t 35), []⟩, ⟨some 37, (some (36, true)), .mv (.t 3), []⟩, ⟨some 38, (some (36, true)), .ia 1 (.t 37) (.k (.int .i64 0)), []⟩, ⟨some 39, (some (36, true)), .ld 1 false (.t 38), []⟩, ⟨some 40, (some (36, true)), .call 325 [(.t 39)], []⟩, ⟨some 41, none, .pick (.t 36) (.t 40) (.k (.bool false)), []⟩])
 (.cond (.t 41) (.skip) (.exit 2)))
 (.block 3 (.reg [] [⟨some 42, none, .mv (.t 3), []⟩, ⟨some 43, none, .sll 1 (.t 42) (some (.k (.int .i64 1))) none none, []⟩, ⟨some 3, none, .mv (.t 43), []⟩])))))
 (.seq (.block 4 (.loop [3] (.seq (.seq (.reg [] [⟨some 44, none, .mv (.t 3), []⟩, ⟨some 45, none, .len (.t 44), []⟩, ⟨some 46, none, .bi .gtr .i64 (.t 45) (.k (.int .i64 0)), []⟩, ⟨some 47, none, .mv (.t 46), []⟩, ⟨some 48, (some (47, true)), .mv (.t 3), []⟩, ⟨some 49, (some (47, true)), .mv (.t 3), []⟩, ⟨some 50, (some (47, true)), .len (.t 49), []⟩, ⟨some 51, (some (47, true)), .bi .sub .i64 (.t 50) (.k (.int .i64 1)), []⟩, ⟨some 52, (some (47, true)), .ia 1 (.t 48) (.t 51), []⟩, ⟨some 53, (some (47, true)), .ld 1 false (.t 52), []⟩, ⟨some 54, (some (47, true)), .call 325 [(.t 53)], []⟩, ⟨some 55, none, .pick (.t 47) (.t 54) (.k (.bool false)), []⟩])
 (.cond (.t 55) (.skip) (.exit 4)))
 (.block 5 (.reg [] [⟨some 56, none, .mv (.t 3), []⟩, ⟨some 57, none, .mv (.t 3), []⟩, ⟨some 58, none, .len (.t 57), []⟩, ⟨some 59, none, .bi .sub .i64 (.t 58) (.k (.int .i64 1)), []⟩, ⟨some 60, none, .sll 1 (.t 56) none (some (.t 59)) none, []⟩, ⟨some 3, none, .mv (.t 60), []⟩])))))
 (.seq (.reg [] [⟨some 61, none, .frz 1 (.t 3), []⟩, ⟨some 62, none, .call 121 [(.t 61), (.k (.str [10]))], []⟩, ⟨some 2, none, .mv (.t 62), []⟩])
 (.ret))))))⟩
theorem ck280 : chkFn Tryz.prog 280 ir280 = true := by kernel_rfl
def ir281 : AFn := ⟨48, 2, [.t 4], .seq (.reg [] [⟨some 4, none, .mv (.k (.int .i64 0)), []⟩])
 (.seq (.seq (.reg [] [⟨some 8, none, .mv (.t 1), []⟩, ⟨some 9, none, .call 217 [(.t 8), (.k (.str [117]))], []⟩])
 (.cond (.t 9) (.seq (.reg [] [⟨some 11, none, .mv (.t 1), []⟩, ⟨some 12, none, .sls (.t 11) (some (.k (.int .i64 1))) none, []⟩, ⟨some 13, none, .call 326 [(.t 12)], []⟩, ⟨some 10, none, .mv (.t 13), []⟩, ⟨some 14, none, .ext (.t 10) 0, []⟩, ⟨some 15, none, .ext (.t 10) 1, []⟩, ⟨some 5, none, .mv (.t 14), []⟩, ⟨some 6, none, .mv (.t 15), []⟩])
 (.seq (.seq (.reg [] [⟨some 16, none, .mv (.t 6), []⟩, ⟨some 17, none, .not (.t 16), []⟩])
 (.cond (.t 17) (.seq (.reg [] [⟨some 4, none, .mv (.k (.int .i64 0)), []⟩])
 (.ret)) (.skip)))
 (.seq (.reg [] [⟨some 18, none, .mv (.t 0), []⟩, ⟨some 19, none, .mv (.t 0), []⟩, ⟨some 20, none, .nilchk (.t 19), []⟩, ⟨some 21, none, .fa 1 (.t 20), []⟩, ⟨some 22, none, .ld 1 false (.t 21), []⟩, ⟨some 23, none, .mv (.t 5), []⟩, ⟨some 24, none, .bls 1 1 [.int .i64 0] [(0, (.t 23))], []⟩, ⟨some 25, none, .app 1 8 (.t 22) (.t 24), []⟩, ⟨some 26, none, .nilchk (.t 18), []⟩, ⟨some 27, none, .fa 1 (.t 26), []⟩, ⟨none, none, .st 1 (.t 27) (.t 25), []⟩])
 (.seq (.reg [] [⟨some 4, none, .mv (.k (.int .i64 5)), []⟩])
 (.ret))))) (.skip)))
 (.seq (.seq (.reg [] [⟨some 28, none, .mv (.t 1), []⟩, ⟨some 29, none, .bs .eql (.t 28) (.k (.str [])), []⟩])
 (.cond (.t 29) (.seq (.reg [] [⟨some 4, none, .mv (.k (.int .i64 0)), []⟩])
 (.ret)) (.skip)))
 (.seq (.reg [] [⟨some 30, none, .mv (.t 1), []⟩, ⟨some 31, none, .ixs (.t 30) (.k (.int .i64 0)), []⟩, ⟨some 32, none, .call 222 [(.k (.str [34, 92, 47, 98, 102, 110, 114, 116])), (.t 31)], []⟩, ⟨some 7, none, .mv (.t 32), []⟩])
 (.seq (.seq (.reg [] [⟨some 33, none, .mv (.t 7), []⟩, ⟨some 34, none, .bi .lss .i64 (.t 33) (.k (.int .i64 0)), []⟩])
 (.cond (.t 34) (.seq (.reg [] [⟨some 4, none, .mv (.k (.int .i64 0)), []⟩])
 (.ret)) (.skip)))
 (.seq (.reg [] [⟨some 35, none, .mv (.t 0), []⟩, ⟨some 36, none, .call 282 [(.t 35)], []⟩])
 (.seq (.reg [0, 1, 2, 3, 4, 5, 6, 7, 8, 9, 10, 11] [⟨some 37, none, .mv (.t 0), []⟩, ⟨some 38, none, .mv (.t 0), []⟩, ⟨some 39, none, .nilchk (.t 38), []⟩, ⟨some 40, none, .fa 0 (.t 39), []⟩, ⟨some 41, none, .ld 1 false (.t 40), []⟩, ⟨some 42, none, .mv (.t 7), []⟩, ⟨some 43, none, .ixs (.k (.str [34, 92, 47, 8, 12, 10, 13, 9])) (.t 42), []⟩, ⟨some 44, none, .bls 1 1 [.int .u8 0] [(0, (.t 43))], []⟩, ⟨some 45, none, .app 1 1 (.t 41) (.t 44), []⟩, ⟨some 46, none, .nilchk (.t 37), []⟩, ⟨some 47, none, .fa 0 (.t 46), []⟩, ⟨none, none, .st 1 (.t 47) (.t 45), []⟩])
 (.seq (.reg [] [⟨some 4, none, .mv (.k (.int .i64 1)), []⟩])
 (.ret))))))))⟩
theorem ck281 : chkFn Tryz.prog 281 ir281 = true := by kernel_rfl
def ir282 : AFn := ⟨34, 1, [], .seq (.reg [] [⟨some 5, none, .mv (.t 0), []⟩, ⟨some 6, none, .nilchk (.t 5), []⟩, ⟨some 7, none, .fa 1 (.t 6), []⟩, ⟨some 8, none, .ld 1 false (.t 7), []⟩, ⟨some 9, none, .call 327 [(.t 8)], []⟩, ⟨some 4, none, .mv (.t 9), []⟩, ⟨some 10, none, .ext (.t 4) 0, []⟩, ⟨some 11, none, .ext (.t 4) 1, []⟩, ⟨some 2, none, .mv (.t 10), []⟩, ⟨some 3, none, .mv (.t 11), []⟩])
 (.reg [0, 1, 2, 3, 4, 5, 6, 7, 9, 10, 11, 12, 8, 13, 14, 15, 16, 17, 18, 19, 20, 21, 22, 23, 24] [⟨some 12, none, .mv (.t 0), []⟩, ⟨some 13, none, .mv (.t 0), []⟩, ⟨some 14, none, .mv (.t 0), []⟩, ⟨some 15, none, .mv (.t 0), []⟩, ⟨some 16, none, .nilchk (.t 15), []⟩, ⟨some 17, none, .fa 0 (.t 16), []⟩, ⟨some 18, none, .ld 1 false (.t 17), []⟩, ⟨some 19, none, .mv (.t 2), []⟩, ⟨some 21, none, .mv (.t 0), []⟩, ⟨some 22, none, .nilchk (.t 21), []⟩, ⟨some 23, none, .fa 2 (.t 22), []⟩, ⟨some 24, none, .ld 1 false (.t 23), []⟩, ⟨some 20, none, .apps (.t 18) (.t 19), [11]⟩, ⟨some 25, none, .mv (.t 24), []⟩, ⟨some 26, (some (25, true)), .mv (.t 3), []⟩, ⟨some 27, none, .pick (.t 25) (.t 26) (.k (.bool false)), []⟩, ⟨some 28, none, .nilchk (.t 12), []⟩, ⟨some 29, none, .fa 0 (.t 28), []⟩, ⟨none, none, .st 1 (.t 29) (.t 20), []⟩, ⟨some 30, none, .nilchk (.t 13), []⟩, ⟨some 31, none, .fa 1 (.t 30), []⟩, ⟨none, none, .st 1 (.t 31) (.k (.sl .nil 1 [])), []⟩, ⟨some 32, none, .nilchk (.t 14), []⟩, ⟨some 33, none, .fa 2 (.t 32), []⟩, ⟨none, none, .st 1 (.t 33) (.t 27), []⟩])⟩
theorem ck282 : chkFn Tryz.prog 282 ir282 = true := by kernel_rfl
def ir284 : AFn := ⟨24, 1, [.t 2], .seq (.reg [] [⟨some 2, none, .mv (.k (.int .i64 0)), []⟩])
 (.seq (.reg [] [⟨some 3, none, .mv (.k (.int .i64 0)), []⟩])
 (.seq (.seq (.reg [] [⟨some 5, none, .mv (.t 0), []⟩, ⟨some 6, none, .call 217 [(.t 5), (.k (.str [45]))], []⟩])
 (.cond (.t 6) (.reg [] [⟨some 3, none, .mv (.k (.int .i64 1)), []⟩]) (.skip)))
 (.seq (.reg [] [⟨some 7, none, .mv (.t 0), []⟩, ⟨some 8, none, .mv (.t 3), []⟩, ⟨some 9, none, .sls (.t 7) (some (.t 8)) none, []⟩, ⟨some 10, none, .call 285 [(.t 9)], []⟩, ⟨some 4, none, .mv (.t 10), []⟩])
 (.seq (.block 0 (.seq (.reg [] [⟨some 12, none, .mv (.t 4), []⟩, ⟨some 13, none, .bi .eql .i64 (.t 12) (.k (.int .i64 0)), []⟩, ⟨some 11, none, .mv (.t 13), []⟩])
 (.cond (.t 11) (.seq (.reg [] [⟨some 2, none, .mv (.k (.int .i64 0)), []⟩])
 (.ret)) (.seq (.reg [] [⟨some 15, none, .mv (.t 0), []⟩, ⟨some 16, none, .mv (.t 3), []⟩, ⟨some 17, none, .ixs (.t 15) (.t 16), []⟩, ⟨some 18, none, .bi .eql .u8 (.t 17) (.k (.int .u8 48)), []⟩, ⟨some 14, none, .mv (.t 18), []⟩])
 (.cond (.t 14) (.seq (.reg [] [⟨some 19, none, .mv (.t 3), []⟩, ⟨some 20, none, .bi .add .i64 (.t 19) (.k (.int .i64 1)), []⟩, ⟨some 2, none, .mv (.t 20), []⟩])
 (.ret)) (.skip))))))
 (.seq (.reg [] [⟨some 21, none, .mv (.t 3), []⟩, ⟨some 22, none, .mv (.t 4), []⟩, ⟨some 23, none, .bi .add .i64 (.t 21) (.t 22), []⟩, ⟨some 2, none, .mv (.t 23), []⟩])
 (.ret))))))⟩
theorem ck284 : chkFn Tryz.prog 284 ir284 = true := by kernel_rfl
def ir285 : AFn := ⟨17, 1, [.t 2], .seq (.reg [] [⟨some 2, none, .mv (.k (.int .i64 0)), []⟩])
 (.seq (.reg [] [⟨some 3, none, .mv (.k (.int .i64 0)), []⟩])
 (.seq (.block 0 (.loop [0, 3] (.seq (.seq (.reg [] [⟨some 4, none, .mv (.t 3), []⟩, ⟨some 5, none, .mv (.t 0), []⟩, ⟨some 6, none, .lens (.t 5), []⟩, ⟨some 7, none, .bi .lss .i64 (.t 4) (.t 6), []⟩, ⟨some 8, none, .mv (.t 7), []⟩, ⟨some 9, (some (8, true)), .mv (.t 0), []⟩, ⟨some 10, (some (8, true)), .mv (.t 3), []⟩, ⟨some 11, (some (8, true)), .ixs (.t 9) (.t 10), []⟩, ⟨some 12, (some (8, true)), .call 226 [(.t 11)], []⟩, ⟨some 13, none, .pick (.t 8) (.t 12) (.k (.bool false)), []⟩])
 (.cond (.t 13) (.skip) (.exit 0)))
 (.block 1 (.reg [] [⟨some 14, none, .mv (.t 3), []⟩, ⟨some 15, none, .bi .add .i64 (.t 14) (.k (.int .i64 1)), []⟩, ⟨some 3, none, .mv (.t 15), []⟩])))))
 (.seq (.reg [] [⟨some 16, none, .mv (.t 3), []⟩, ⟨some 2, none, .mv (.t 16), []⟩])
 (.ret))))⟩
theorem ck285 : chkFn Tryz.prog 285 ir285 = true := by kernel_rfl
def ir286 : AFn := ⟨39, 1, [.t 2], .seq (.reg [] [⟨some 2, none, .mv (.k (.int .i64 0)), []⟩])
 (.seq (.seq (.reg [] [⟨some 5, none, .mv (.t 0), []⟩, ⟨some 6, none, .bs .eql (.t 5) (.k (.str [])), []⟩, ⟨some 7, none, .mv (.t 6), []⟩, ⟨some 8, (some (7, false)), .mv (.t 0), []⟩, ⟨some 9, (some (7, false)), .ixs (.t 8) (.k (.int .i64 0)), []⟩, ⟨some 10, (some (7, false)), .bi .neq .u8 (.t 9) (.k (.int .u8 101)), []⟩, ⟨some 11, (some (7, false)), .mv (.t 10), []⟩, ⟨some 12, (some (11, true)), .mv (.t 0), []⟩, ⟨some 13, (some (11, true)), .ixs (.t 12) (.k (.int .i64 0)), []⟩, ⟨some 14, (some (11, true)), .bi .neq .u8 (.t 13) (.k (.int .u8 69)), []⟩, ⟨some 15, (some (7, false)), .pick (.t 11) (.t 14) (.k (.bool false)), []⟩, ⟨some 16, none, .pick (.t 7) (.k (.bool true)) (.t 15), []⟩])
 (.cond (.t 16) (.seq (.reg [] [⟨some 2, none, .mv (.k (.int .i64 0)), []⟩])
 (.ret)) (.skip)))
 (.seq (.reg [] [⟨some 3, none, .mv (.k (.int .i64 1)), []⟩])
 (.seq (.seq (.reg [] [⟨some 17, none, .mv (.t 0), []⟩, ⟨some 18, none, .lens (.t 17), []⟩, ⟨some 19, none, .bi .gtr .i64 (.t 18) (.k (.int .i64 1)), []⟩, ⟨some 20, none, .mv (.t 19), []⟩, ⟨some 21, (some (20, true)), .mv (.t 0), []⟩, ⟨some 22, (some (20, true)), .ixs (.t 21) (.k (.int .i64 1)), []⟩, ⟨some 23, (some (20, true)), .bi .eql .u8 (.t 22) (.k (.int .u8 43)), []⟩, ⟨some 24, (some (20, true)), .mv (.t 23), []⟩, ⟨some 25, (some (24, false)), .mv (.t 0), []⟩, ⟨some 26, (some (24, false)), .ixs (.t 25) (.k (.int .i64 1)), []⟩, ⟨some 27, (some (24, false)), .bi .eql .u8 (.t 26) (.k (.int .u8 45)), []⟩, ⟨some 28, (some (20, true)), .pick (.t 24) (.k (.bool true)) (.t 27), []⟩, ⟨some 29, none, .pick (.t 20) (.t 28) (.k (.bool false)), []⟩])
 (.cond (.t 29) (.reg [] [⟨some 3, none, .mv (.k (.int .i64 2)), []⟩]) (.skip)))
 (.seq (.reg [] [⟨some 30, none, .mv (.t 0), []⟩, ⟨some 31, none, .mv (.t 3), []⟩, ⟨some 32, none, .sls (.t 30) (some (.t 31)) none, []⟩, ⟨some 33, none, .call 285 [(.t 32)], []⟩, ⟨some 4, none, .mv (.t 33), []⟩])
 (.seq (.seq (.reg [] [⟨some 34, none, .mv (.t 4), []⟩, ⟨some 35, none, .bi .eql .i64 (.t 34) (.k (.int .i64 0)), []⟩])
 (.cond (.t 35) (.seq (.reg [] [⟨some 2, none, .mv (.k (.int .i64 0)), []⟩])
 (.ret)) (.skip)))
 (.seq (.reg [] [⟨some 36, none, .mv (.t 3), []⟩, ⟨some 37, none, .mv (.t 4), []⟩, ⟨some 38, none, .bi .add .i64 (.t 36) (.t 37), []⟩, ⟨some 2, none, .mv (.t 38), []⟩])
 (.ret)))))))⟩
theorem ck286 : chkFn Tryz.prog 286 ir286 = true := by kernel_rfl
def ir309 : AFn := ⟨23, 1, [.t 2], .seq (.reg [] [⟨some 2, none, .mv (.k (.bool false)), []⟩])
 (.seq (.reg [] [⟨some 6, none, .mv (.t 0), []⟩, ⟨some 7, none, .call 207 [(.t 6)], []⟩, ⟨some 3, none, .mv (.t 7), []⟩])
 (.seq (.reg [] [⟨some 9, none, .mv (.t 0), []⟩, ⟨some 10, none, .call 176 [(.t 9)], []⟩, ⟨some 8, none, .mv (.t 10), []⟩, ⟨some 11, none, .ext (.t 8) 0, []⟩, ⟨some 12, none, .ext (.t 8) 1, []⟩, ⟨some 4, none, .mv (.t 11), []⟩, ⟨some 5, none, .mv (.t 12), []⟩])
 (.seq (.reg [] [⟨some 13, none, .mv (.t 3), []⟩, ⟨some 14, none, .bi .eql .i64 (.t 13) (.k (.int .i64 4)), []⟩, ⟨some 15, none, .mv (.t 14), []⟩, ⟨some 16, (some (15, false)), .mv (.t 3), []⟩, ⟨some 17, (some (15, false)), .bi .eql .i64 (.t 16) (.k (.int .i64 3)), []⟩, ⟨some 18, (some (15, false)), .mv (.t 17), []⟩, ⟨some 19, (some (18, true)), .mv (.t 5), []⟩, ⟨some 20, (some (18, true)), .not (.t 19), []⟩, ⟨some 21, (some (15, false)), .pick (.t 18) (.t 20) (.k (.bool false)), []⟩, ⟨some 22, none, .pick (.t 15) (.k (.bool true)) (.t 21), []⟩, ⟨some 2, none, .mv (.t 22), []⟩])
 (.ret))))⟩
theorem ck309 : chkFn Tryz.prog 309 ir309 = true := by kernel_rfl
def ir310 : AFn := ⟨13, 1, [.t 2], .seq (.reg [] [⟨some 2, none, .mv (.k (.bool false)), []⟩])
 (.seq (.reg [] [⟨some 3, none, .mv (.t 0), []⟩, ⟨some 4, none, .bs .eql (.t 3) (.k (.str [116, 114, 117, 101])), []⟩, ⟨some 5, none, .mv (.t 4), []⟩, ⟨some 6, (some (5, false)), .mv (.t 0), []⟩, ⟨some 7, (some (5, false)), .bs .eql (.t 6) (.k (.str [102, 97, 108, 115, 101])), []⟩, ⟨some 8, none, .pick (.t 5) (.k (.bool true)) (.t 7), []⟩, ⟨some 9, none, .mv (.t 8), []⟩, ⟨some 10, (some (9, false)), .mv (.t 0), []⟩, ⟨some 11, (some (9, false)), .bs .eql (.t 10) (.k (.str [110, 117, 108, 108])), []⟩, ⟨some 12, none, .pick (.t 9) (.k (.bool true)) (.t 11), []⟩, ⟨some 2, none, .mv (.t 12), []⟩])
 (.ret))⟩
theorem ck310 : chkFn Tryz.prog 310 ir310 = true := by kernel_rfl
def ir323 : AFn := ⟨57, 1, [.t 2], .seq (.reg [] [⟨some 2, none, .mv (.k (.sl .nil 1 [])), []⟩])
 (.seq (.reg [] [⟨some 3, none, .mv (.k (.sl .nil 1 [])), []⟩])
 (.seq (.reg [] [⟨some 4, none, .mv (.k (.int .i64 0)), []⟩])
 (.seq (.seq (.reg [] [⟨some 5, none, .mv (.k (.int .i64 0)), []⟩])
 (.block 0 (.loop [0, 3, 4, 5] (.seq (.seq (.reg [] [⟨some 6, none, .mv (.t 5), []⟩, ⟨some 7, none, .mv (.t 0), []⟩, ⟨some 8, none, .lens (.t 7), []⟩, ⟨some 9, none, .bi .lss .i64 (.t 6) (.t 8), []⟩])
 (.cond (.t 9) (.skip) (.exit 0)))
 (.seq (.block 1 (.seq (.seq (.reg [] [⟨some 12, none, .mv (.t 0), []⟩, ⟨some 13, none, .mv (.t 5), []⟩, ⟨some 14, none, .ixs (.t 12) (.t 13), []⟩, ⟨some 15, none, .bi .neq .u8 (.t 14) (.k (.int .u8 10)), []⟩, ⟨some 16, none, .mv (.t 15), []⟩, ⟨some 17, (some (16, true)), .mv (.t 0), []⟩, ⟨some 18, (some (16, true)), .mv (.t 5), []⟩, ⟨some 19, (some (16, true)), .ixs (.t 17) (.t 18), []⟩, ⟨some 20, (some (16, true)), .bi .neq .u8 (.t 19) (.k (.int .u8 13)), []⟩, ⟨some 21, none, .pick (.t 16) (.t 20) (.k (.bool false)), []⟩])
 (.cond (.t 21) (.exit 1) (.skip)))
 (.seq (.reg [] [⟨some 22, none, .mv (.t 3), []⟩, ⟨some 23, none, .mv (.t 0), []⟩, ⟨some 24, none, .mv (.t 4), []⟩, ⟨some 25, none, .mv (.t 5), []⟩, ⟨some 26, none, .sls (.t 23) (some (.t 24)) (some (.t 25)), []⟩, ⟨some 27, none, .bls 1 1 [.str []] [(0, (.t 26))], []⟩, ⟨some 28, none, .appm 1 16 [.str []] (.t 22) (.t 27), []⟩, ⟨some 3, none, .mv (.t 28), []⟩])
 (.seq (.seq (.reg [] [⟨some 29, none, .mv (.t 0), []⟩, ⟨some 30, none, .mv (.t 5), []⟩, ⟨some 31, none, .ixs (.t 29) (.t 30), []⟩, ⟨some 32, none, .bi .eql .u8 (.t 31) (.k (.int .u8 13)), []⟩, ⟨some 33, none, .mv (.t 32), []⟩, ⟨some 34, (some (33, true)), .mv (.t 5), []⟩, ⟨some 35, (some (33, true)), .bi .add .i64 (.t 34) (.k (.int .i64 1)), []⟩, ⟨some 36, (some (33, true)), .mv (.t 0), []⟩, ⟨some 37, (some (33, true)), .lens (.t 36), []⟩, ⟨some 38, (some (33, true)), .bi .lss .i64 (.t 35) (.t 37), []⟩, ⟨some 39, none, .pick (.t 33) (.t 38) (.k (.bool false)), []⟩, ⟨some 40, none, .mv (.t 39), []⟩, ⟨some 41, (some (40, true)), .mv (.t 0), []⟩, ⟨some 42, (some (40, true)), .mv (.t 5), []⟩, ⟨some 43, (some (40, true)), .bi .add .i64 (.t 42) (.k (.int .i64 1)), []⟩, ⟨some 44, (some (40, true)), .ixs (.t 41) (.t 43), []⟩, ⟨some 45, (some (40, true)), .bi .eql .u8 (.t 44) (.k (.int .u8 10)), []⟩, ⟨some 46, none, .pick (.t 40) (.t 45) (.k (.bool false)), []⟩])
 (.cond (.t 46) (.reg [] [⟨some 47, none, .mv (.t 5), []⟩, ⟨some 48, none, .bi .add .i64 (.t 47) (.k (.int .i64 1)), []⟩, ⟨some 5, none, .mv (.t 48), []⟩]) (.skip)))
 (.reg [] [⟨some 49, none, .mv (.t 5), []⟩, ⟨some 50, none, .bi .add .i64 (.t 49) (.k (.int .i64 1)), []⟩, ⟨some 4, none, .mv (.t 50), []⟩])))))
 (.reg [] [⟨some 10, none, .mv (.t 5), []⟩, ⟨some 11, none, .bi .add .i64 (.t 10) (.k (.int .i64 1)), []⟩, ⟨some 5, none, .mv (.t 11), []⟩]))))))
 (.seq (.reg [] [⟨some 51, none, .mv (.t 3), []⟩, ⟨some 52, none, .mv (.t 0), []⟩, ⟨some 53, none, .mv (.t 4), []⟩, ⟨some 54, none, .sls (.t 52) (some (.t 53)) none, []⟩, ⟨some 55, none, .bls 1 1 [.str []] [(0, (.t 54))], []⟩, ⟨some 56, none, .appm 1 16 [.str []] (.t 51) (.t 55), []⟩, ⟨some 2, none, .mv (.t 56), []⟩])
 (.ret)))))⟩
theorem ck323 : chkFn Tryz.prog 323 ir323 = true := by kernel_rfl
def ir324 : AFn := ⟨36, 1, [.t 2], .seq (.reg [] [⟨some 2, none, .mv (.k (.int .i64 0)), []⟩])
 (.scope (.seq (.reg [] [⟨some 3, none, .mv (.k (.int .i64 (-1))), []⟩])
 (.seq (.skip)
 (.seq (.seq (.reg [] [⟨some 8, none, .mv (.t 0), []⟩, ⟨some 9, none, .len (.t 8), []⟩, ⟨some 10, none, .mv (.k (.int .i64 0)), []⟩])
 (.block 0 (.loop [3, 8, 9, 10] (.seq (.reg [] [⟨some 11, none, .bi .lss .i64 (.t 10) (.t 9), []⟩])
 (.seq (.cond (.t 11) (.skip) (.exit 0))
 (.seq (.block 1 (.seq (.reg [] [⟨some 12, none, .mv (.t 10), []⟩, ⟨some 13, none, .ia 1 (.t 8) (.t 10), []⟩, ⟨some 14, none, .ld 1 false (.t 13), []⟩, ⟨some 4, none, .mv (.t 12), []⟩, ⟨some 5, none, .mv (.t 14), []⟩])
 (.seq (.reg [] [⟨some 16, none, .mv (.t 5), []⟩, ⟨some 17, none, .call 345 [(.t 16)], []⟩, ⟨some 15, none, .mv (.t 17), []⟩, ⟨some 18, none, .ext (.t 15) 0, []⟩, ⟨some 19, none, .ext (.t 15) 1, []⟩, ⟨some 6, none, .mv (.t 18), []⟩, ⟨some 7, none, .mv (.t 19), []⟩])
 (.seq (.seq (.reg [] [⟨some 20, none, .mv (.t 4), []⟩, ⟨some 21, none, .bi .eql .i64 (.t 20) (.k (.int .i64 0)), []⟩, ⟨some 22, none, .mv (.t 21), []⟩, ⟨some 23, (some (22, false)), .mv (.t 7), []⟩, ⟨some 24, (some (22, false)), .not (.t 23), []⟩, ⟨some 25, none, .pick (.t 22) (.k (.bool true)) (.t 24), []⟩])
 (.cond (.t 25) (.exit 1) (.skip)))
 (.seq (.reg [] [⟨some 26, none, .mv (.t 3), []⟩, ⟨some 27, none, .bi .lss .i64 (.t 26) (.k (.int .i64 0)), []⟩, ⟨some 28, none, .mv (.t 27), []⟩, ⟨some 29, (some (28, false)), .mv (.t 6), []⟩, ⟨some 30, (some (28, false)), .mv (.t 3), []⟩, ⟨some 31, (some (28, false)), .bi .lss .i64 (.t 29) (.t 30), []⟩, ⟨some 32, none, .pick (.t 28) (.k (.bool true)) (.t 31), []⟩])
 (.cond (.t 32) (.reg [] [⟨some 33, none, .mv (.t 6), []⟩, ⟨some 3, none, .mv (.t 33), []⟩]) (.skip)))))))
 (.reg [] [⟨some 34, none, .bi .add .i64 (.t 10) (.k (.int .i64 1)), []⟩, ⟨some 10, none, .mv (.t 34), []⟩])))))))
 (.seq (.reg [] [⟨some 35, none, .mv (.t 3), []⟩, ⟨some 2, none, .mv (.t 35), []⟩])
 (.ret))))))⟩
theorem ck324 : chkFn Tryz.prog 324 ir324 = true := by kernel_rfl
def ir325 : AFn := ⟨12, 1, [.t 2], .seq (.reg [] [⟨some 2, none, .mv (.k (.bool false)), []⟩])
 (.seq (.reg [] [⟨some 6, none, .mv (.t 0), []⟩, ⟨some 7, none, .call 345 [(.t 6)], []⟩, ⟨some 5, none, .mv (.t 7), []⟩, ⟨some 8, none, .ext (.t 5) 0, []⟩, ⟨some 9, none, .ext (.t 5) 1, []⟩, ⟨some 3, none, .mv (.t 8), []⟩, ⟨some 4, none, .mv (.t 9), []⟩])
 (.seq (.reg [] [⟨some 10, none, .mv (.t 4), []⟩, ⟨some 11, none, .not (.t 10), []⟩, ⟨some 2, none, .mv (.t 11), []⟩])
 (.ret)))⟩
theorem ck325 : chkFn Tryz.prog 325 ir325 = true := by kernel_rfl
def ir326 : AFn := ⟨44, 1, [.t 2, .t 3], .seq (.reg [] [⟨some 2, none, .mv (.k (.int .i64 0)), []⟩, ⟨some 3, none, .mv (.k (.bool false)), []⟩])
 (.seq (.seq (.reg [] [⟨some 7, none, .mv (.t 0), []⟩, ⟨some 8, none, .lens (.t 7), []⟩, ⟨some 9, none, .bi .lss .i64 (.t 8) (.k (.int .i64 4)), []⟩])
 (.cond (.t 9) (.seq (.reg [] [⟨some 2, none, .mv (.k (.int .i64 0)), []⟩, ⟨some 3, none, .mv (.k (.bool false)), []⟩])
 (.ret)) (.skip)))
 (.seq (.reg [] [⟨some 4, none, .mv (.k (.int .i64 0)), []⟩])
 (.seq (.seq (.reg [] [⟨some 10, none, .mv (.k (.int .i64 0)), []⟩])
 (.block 0 (.loop [0, 4, 10] (.seq (.reg [] [⟨some 11, none, .bi .lss .i64 (.t 10) (.k (.int .i64 4)), []⟩])
 (.seq (.cond (.t 11) (.skip) (.exit 0))
 (.seq (.block 1 (.seq (.reg [] [⟨some 12, none, .mv (.t 10), []⟩, ⟨some 5, none, .mv (.t 12), []⟩])
 (.seq (.reg [] [⟨some 13, none, .mv (.t 0), []⟩, ⟨some 14, none, .mv (.t 5), []⟩, ⟨some 15, none, .ixs (.t 13) (.t 14), []⟩, ⟨some 16, none, .bi .or .u8 (.t 15) (.k (.int .u8 32)), []⟩, ⟨some 17, none, .call 222 [(.k (.str [48, 49, 50, 51, 52, 53, 54, 55, 56, 57, 97, 98, 99, 100, 101, 102])), (.t 16)], []⟩, ⟨some 6, none, .mv (.t 17), []⟩])
 (.seq (.seq (.reg [] [⟨some 18, none, .mv (.t 6), []⟩, ⟨some 19, none, .bi .lss .i64 (.t 18) (.k (.int .i64 0)), []⟩, ⟨some 20, none, .mv (.t 19), []⟩, ⟨some 21, (some (20, false)), .mv (.t 0), []⟩, ⟨some 22, (some (20, false)), .mv (.t 5), []⟩, ⟨some 23, (some (20, false)), .ixs (.t 21) (.t 22), []⟩, ⟨some 24, (some (20, false)), .bi .lss .u8 (.t 23) (.k (.int .u8 48)), []⟩, ⟨some 25, none, .pick (.t 20) (.k (.bool true)) (.t 24), []⟩, ⟨some 26, none, .mv (.t 25), []⟩, ⟨some 27, (some (26, false)), .mv (.t 0), []⟩, ⟨some 28, (some (26, false)), .mv (.t 5), []⟩, ⟨some 29, (some (26, false)), .ixs (.t 27) (.t 28), []⟩, ⟨some 30, (some (26, false)), .bi .gtr .u8 (.t 29) (.k (.int .u8 57)), []⟩, ⟨some 31, (some (26, false)), .mv (.t 30), []⟩, ⟨some 32, (some (31, true)), .mv (.t 0), []⟩, ⟨some 33, (some (31, true)), .mv (.t 5), []⟩, ⟨some 34, (some (31, true)), .ixs (.t 32) (.t 33), []⟩, ⟨some 35, (some (31, true)), .bi .lss .u8 (.t 34) (.k (.int .u8 65)), []⟩, ⟨some 36, (some (26, false)), .pick (.t 31) (.t 35) (.k (.bool false)), []⟩, ⟨some 37, none, .pick (.t 26) (.k (.bool true)) (.t 36), []⟩])
 (.cond (.t 37) (.seq (.reg [] [⟨some 2, none, .mv (.k (.int .i64 0)), []⟩, ⟨some 3, none, .mv (.k (.bool false)), []⟩])
 (.ret)) (.skip)))
 (.reg [] [⟨some 38, none, .mv (.t 4), []⟩, ⟨some 39, none, .bi .mul .i64 (.k (.int .i64 16)) (.t 38), []⟩, ⟨some 40, none, .mv (.t 6), []⟩, ⟨some 41, none, .bi .add .i64 (.t 39) (.t 40), []⟩, ⟨some 4, none, .mv (.t 41), []⟩])))))
 (.reg [] [⟨some 42, none, .bi .add .i64 (.t 10) (.k (.int .i64 1)), []⟩, ⟨some 10, none, .mv (.t 42), []⟩])))))))
 (.seq (.reg [] [⟨some 43, none, .mv (.t 4), []⟩, ⟨some 2, none, .mv (.t 43), []⟩, ⟨some 3, none, .mv (.k (.bool true)), []⟩])
 (.ret)))))⟩
theorem ck326 : chkFn Tryz.prog 326 ir326 = true := by kernel_rfl
def ir327 : AFn := ⟨75, 1, [.t 2, .t 3], .seq (.reg [] [⟨some 2, none, .mv (.k (.str [])), []⟩, ⟨some 3, none, .mv (.k (.bool false)), []⟩])
 (.seq (.reg [] [⟨some 4, none, .mv (.k (.sl .nil 1 [])), []⟩])
 (.seq (.seq (.reg [] [⟨some 5, none, .mv (.k (.int .i64 0)), []⟩])
 (.block 0 (.loop [0, 4, 5] (.seq (.seq (.reg [] [⟨some 7, none, .mv (.t 5), []⟩, ⟨some 8, none, .mv (.t 0), []⟩, ⟨some 9, none, .len (.t 8), []⟩, ⟨some 10, none, .bi .lss .i64 (.t 7) (.t 9), []⟩])
 (.cond (.t 10) (.skip) (.exit 0)))
 (.seq (.block 1 (.seq (.reg [] [⟨some 13, none, .mv (.t 0), []⟩, ⟨some 14, none, .mv (.t 5), []⟩, ⟨some 15, none, .ia 1 (.t 13) (.t 14), []⟩, ⟨some 16, none, .ld 1 false (.t 15), []⟩, ⟨some 6, none, .mv (.t 16), []⟩])
 (.seq (.block 2 (.seq (.reg [] [⟨some 18, none, .mv (.t 6), []⟩, ⟨some 19, none, .bi .lss .i64 (.t 18) (.k (.int .i64 0)), []⟩, ⟨some 20, none, .mv (.t 19), []⟩, ⟨some 21, (some (20, false)), .mv (.t 6), []⟩, ⟨some 22, (some (20, false)), .bi .gtr .i64 (.t 21) (.k (.int .i64 65535)), []⟩, ⟨some 23, none, .pick (.t 20) (.k (.bool true)) (.t 22), []⟩, ⟨some 24, none, .mv (.t 23), []⟩, ⟨some 25, (some (24, false)), .mv (.t 6), []⟩, ⟨some 26, (some (24, false)), .bi .geq .i64 (.t 25) (.k (.int .i64 56320)), []⟩, ⟨some 27, (some (24, false)), .mv (.t 26), []⟩, ⟨some 28, (some (27, true)), .mv (.t 6), []⟩, ⟨some 29, (some (27, true)), .bi .leq .i64 (.t 28) (.k (.int .i64 57343)), []⟩, ⟨some 30, (some (24, false)), .pick (.t 27) (.t 29) (.k (.bool false)), []⟩, ⟨some 31, none, .pick (.t 24) (.k (.bool true)) (.t 30), []⟩, ⟨some 17, none, .mv (.t 31), []⟩])
 (.cond (.t 17) (.seq (.reg [] [⟨some 2, none, .mv (.k (.str [])), []⟩, ⟨some 3, none, .mv (.k (.bool false)), []⟩])
 (.ret)) (.seq (.reg [] [⟨some 33, none, .mv (.t 6), []⟩, ⟨some 34, none, .bi .geq .i64 (.t 33) (.k (.int .i64 55296)), []⟩, ⟨some 35, none, .mv (.t 34), []⟩, ⟨some 36, (some (35, true)), .mv (.t 6), []⟩, ⟨some 37, (some (35, true)), .bi .lss .i64 (.t 36) (.k (.int .i64 56320)), []⟩, ⟨some 38, none, .pick (.t 35) (.t 37) (.k (.bool false)), []⟩, ⟨some 32, none, .mv (.t 38), []⟩])
 (.cond (.t 32) (.seq (.reg [] [⟨some 39, none, .mv (.t 5), []⟩, ⟨some 40, none, .bi .add .i64 (.t 39) (.k (.int .i64 1)), []⟩, ⟨some 5, none, .mv (.t 40), []⟩])
 (.seq (.seq (.reg [] [⟨some 41, none, .mv (.t 5), []⟩, ⟨some 42, none, .mv (.t 0), []⟩, ⟨some 43, none, .len (.t 42), []⟩, ⟨some 44, none, .bi .eql .i64 (.t 41) (.t 43), []⟩, ⟨some 45, none, .mv (.t 44), []⟩, ⟨some 46, (some (45, false)), .mv (.t 0), []⟩, ⟨some 47, (some (45, false)), .mv (.t 5), []⟩, ⟨some 48, (some (45, false)), .ia 1 (.t 46) (.t 47), []⟩, ⟨some 49, (some (45, false)), .ld 1 false (.t 48), []⟩, ⟨some 50, (some (45, false)), .bi .lss .i64 (.t 49) (.k (.int .i64 56320)), []⟩, ⟨some 51, none, .pick (.t 45) (.k (.bool true)) (.t 50), []⟩, ⟨some 52, none, .mv (.t 51), []⟩, ⟨some 53, (some (52, false)), .mv (.t 0), []⟩, ⟨some 54, (some (52, false)), .mv (.t 5), []⟩, ⟨some 55, (some (52, false)), .ia 1 (.t 53) (.t 54), []⟩, ⟨some 56, (some (52, false)), .ld 1 false (.t 55), []⟩, ⟨some 57, (some (52, false)), .bi .gtr .i64 (.t 56) (.k (.int .i64 57343)), []⟩, ⟨some 58, none, .pick (.t 52) (.k (.bool true)) (.t 57), []⟩])
 (.cond (.t 58) (.seq (.reg [] [⟨some 2, none, .mv (.k (.str [])), []⟩, ⟨some 3, none, .mv (.k (.bool false)), []⟩])
 (.ret)) (.skip)))
 (.reg [] [⟨some 59, none, .mv (.t 6), []⟩, ⟨some 60, none, .bi .sub .i64 (.t 59) (.k (.int .i64 55296)), []⟩, ⟨some 61, none, .bi .mul .i64 (.k (.int .i64 1024)) (.t 60), []⟩, ⟨some 62, none, .bi .add .i64 (.k (.int .i64 65536)) (.t 61), []⟩, ⟨some 63, none, .mv (.t 0), []⟩, ⟨some 64, none, .mv (.t 5), []⟩, ⟨some 65, none, .ia 1 (.t 63) (.t 64), []⟩, ⟨some 66, none, .ld 1 false (.t 65), []⟩, ⟨some 67, none, .bi .add .i64 (.t 62) (.t 66), []⟩, ⟨some 68, none, .bi .sub .i64 (.t 67) (.k (.int .i64 56320)), []⟩, ⟨some 6, none, .mv (.t 68), []⟩]))) (.skip))))))
 (.reg [] [⟨some 69, none, .mv (.t 4), []⟩, ⟨some 70, none, .mv (.t 6), []⟩, ⟨some 71, none, .cvi .i32 (.t 70), []⟩, ⟨some 72, none, .call 346 [(.t 69), (.t 71)], []⟩, ⟨some 4, none, .mv (.t 72), []⟩]))))
 (.reg [] [⟨some 11, none, .mv (.t 5), []⟩, ⟨some 12, none, .bi .add .i64 (.t 11) (.k (.int .i64 1)), []⟩, ⟨some 5, none, .mv (.t 12), []⟩]))))))
 (.seq (.reg [] [⟨some 73, none, .mv (.t 4), []⟩, ⟨some 74, none, .cvb2s (.t 73), []⟩, ⟨some 2, none, .mv (.t 74), []⟩, ⟨some 3, none, .mv (.k (.bool true)), []⟩])
 (.ret))))⟩
theorem ck327 : chkFn Tryz.prog 327 ir327 = true := by kernel_rfl
def ir345 : AFn := ⟨24, 1, [.t 2, .t 3], .seq (.reg [] [⟨some 2, none, .mv (.k (.int .i64 0)), []⟩, ⟨some 3, none, .mv (.k (.bool false)), []⟩])
 (.seq (.seq (.reg [] [⟨some 5, none, .mv (.t 0), []⟩, ⟨some 6, none, .lens (.t 5), []⟩, ⟨some 7, none, .mv (.k (.int .i64 0)), []⟩])
 (.block 0 (.loop [0, 6, 7] (.seq (.reg [] [⟨some 8, none, .bi .lss .i64 (.t 7) (.t 6), []⟩])
 (.seq (.cond (.t 8) (.skip) (.exit 0))
 (.seq (.block 1 (.seq (.reg [] [⟨some 9, none, .mv (.t 7), []⟩, ⟨some 4, none, .mv (.t 9), []⟩])
 (.seq (.reg [] [⟨some 10, none, .mv (.t 0), []⟩, ⟨some 11, none, .mv (.t 4), []⟩, ⟨some 12, none, .ixs (.t 10) (.t 11), []⟩, ⟨some 13, none, .bi .neq .u8 (.t 12) (.k (.int .u8 9)), []⟩, ⟨some 14, none, .mv (.t 13), []⟩, ⟨some 15, (some (14, true)), .mv (.t 0), []⟩, ⟨some 16, (some (14, true)), .mv (.t 4), []⟩, ⟨some 17, (some (14, true)), .ixs (.t 15) (.t 16), []⟩, ⟨some 18, (some (14, true)), .bi .neq .u8 (.t 17) (.k (.int .u8 32)), []⟩, ⟨some 19, none, .pick (.t 14) (.t 18) (.k (.bool false)), []⟩])
 (.cond (.t 19) (.seq (.reg [] [⟨some 20, none, .mv (.t 4), []⟩, ⟨some 2, none, .mv (.t 20), []⟩, ⟨some 3, none, .mv (.k (.bool true)), []⟩])
 (.ret)) (.skip)))))
 (.reg [] [⟨some 21, none, .bi .add .i64 (.t 7) (.k (.int .i64 1)), []⟩, ⟨some 7, none, .mv (.t 21), []⟩])))))))
 (.seq (.reg [] [⟨some 22, none, .mv (.t 0), []⟩, ⟨some 23, none, .lens (.t 22), []⟩, ⟨some 2, none, .mv (.t 23), []⟩, ⟨some 3, none, .mv (.k (.bool false)), []⟩])
 (.ret)))⟩
theorem ck345 : chkFn Tryz.prog 345 ir345 = true := by kernel_rfl
def ir346 : AFn := ⟨16, 2, [.t 4], .seq (.reg [] [⟨some 4, none, .mv (.k (.sl .nil 1 [])), []⟩])
 (.seq (.seq (.reg [] [⟨some 5, none, .mv (.t 1), []⟩, ⟨some 6, none, .cvi .u32 (.t 5), []⟩, ⟨some 7, none, .bi .leq .u32 (.t 6) (.k (.int .u32 127)), []⟩])
 (.cond (.t 7) (.seq (.reg [] [⟨some 8, none, .mv (.t 0), []⟩, ⟨some 9, none, .mv (.t 1), []⟩, ⟨some 10, none, .cvi .u8 (.t 9), []⟩, ⟨some 11, none, .bls 1 1 [.int .u8 0] [(0, (.t 10))], []⟩, ⟨some 12, none, .app 1 1 (.t 8) (.t 11), []⟩, ⟨some 4, none, .mv (.t 12), []⟩])
 (.ret)) (.skip)))
 (.seq (.reg [] [⟨some 13, none, .mv (.t 0), []⟩, ⟨some 14, none, .mv (.t 1), []⟩, ⟨some 15, none, .call 356 [(.t 13), (.t 14)], []⟩, ⟨some 4, none, .mv (.t 15), []⟩])
 (.ret)))⟩
theorem ck346 : chkFn Tryz.prog 346 ir346 = true := by kernel_rfl
def ir356 : AFn := ⟨78, 2, [.t 4], .seq (.reg [] [⟨some 4, none, .mv (.k (.sl .nil 1 [])), []⟩])
 (.seq (.reg [] [⟨some 6, none, .mv (.t 1), []⟩, ⟨some 7, none, .cvi .u32 (.t 6), []⟩, ⟨some 5, none, .mv (.t 7), []⟩])
 (.block 0 (.seq (.reg [] [⟨some 12, none, .mv (.t 5), []⟩, ⟨some 13, none, .bi .leq .u32 (.t 12) (.k (.int .u32 2047)), []⟩, ⟨some 11, none, .mv (.t 13), []⟩])
 (.cond (.t 11) (.seq (.reg [] [⟨some 14, none, .mv (.t 0), []⟩, ⟨some 15, none, .mv (.t 1), []⟩, ⟨some 16, none, .shf .shr (.t 15) (.k (.int .u64 6)), []⟩, ⟨some 17, none, .cvi .u8 (.t 16), []⟩, ⟨some 18, none, .bi .or .u8 (.k (.int .u8 192)) (.t 17), []⟩, ⟨some 19, none, .mv (.t 1), []⟩, ⟨some 20, none, .cvi .u8 (.t 19), []⟩, ⟨some 21, none, .bi .and .u8 (.t 20) (.k (.int .u8 63)), []⟩, ⟨some 22, none, .bi .or .u8 (.k (.int .u8 128)) (.t 21), []⟩, ⟨some 23, none, .bls 1 2 [.int .u8 0] [(0, (.t 18)), (1, (.t 22))], []⟩, ⟨some 24, none, .app 1 1 (.t 14) (.t 23), []⟩, ⟨some 4, none, .mv (.t 24), []⟩])
 (.ret)) (.seq (.seq (.reg [] [⟨some 26, none, .mv (.t 5), []⟩, ⟨some 27, none, .bi .lss .u32 (.t 26) (.k (.int .u32 55296)), []⟩, ⟨some 25, none, .mv (.t 27), []⟩])
 (.cond (.t 25) (.skip) (.reg [] [⟨some 28, none, .mv (.t 5), []⟩, ⟨some 29, none, .bi .lss .u32 (.k (.int .u32 57343)) (.t 28), []⟩, ⟨some 30, none, .mv (.t 29), []⟩, ⟨some 31, (some (30, true)), .mv (.t 5), []⟩, ⟨some 32, (some (30, true)), .bi .leq .u32 (.t 31) (.k (.int .u32 65535)), []⟩, ⟨some 33, none, .pick (.t 30) (.t 32) (.k (.bool false)), []⟩, ⟨some 25, none, .mv (.t 33), []⟩])))
 (.cond (.t 25) (.seq (.reg [] [⟨some 34, none, .mv (.t 0), []⟩, ⟨some 35, none, .mv (.t 1), []⟩, ⟨some 36, none, .shf .shr (.t 35) (.k (.int .u64 12)), []⟩, ⟨some 37, none, .cvi .u8 (.t 36), []⟩, ⟨some 38, none, .bi .or .u8 (.k (.int .u8 224)) (.t 37), []⟩, ⟨some 39, none, .mv (.t 1), []⟩, ⟨some 40, none, .shf .shr (.t 39) (.k (.int .u64 6)), []⟩, ⟨some 41, none, .cvi .u8 (.t 40), []⟩, ⟨some 42, none, .bi .and .u8 (.t 41) (.k (.int .u8 63)), []⟩, ⟨some 43, none, .bi .or .u8 (.k (.int .u8 128)) (.t 42), []⟩, ⟨some 44, none, .mv (.t 1), []⟩, ⟨some 45, none, .cvi .u8 (.t 44), []⟩, ⟨some 46, none, .bi .and .u8 (.t 45) (.k (.int .u8 63)), []⟩, ⟨some 47, none, .bi .or .u8 (.k (.int .u8 128)) (.t 46), []⟩, ⟨some 48, none, .bls 1 3 [.int .u8 0] [(0, (.t 38)), (1, (.t 43)), (2, (.t 47))], []⟩, ⟨some 49, none, .app 1 1 (.t 34) (.t 48), []⟩, ⟨some 4, none, .mv (.t 49), []⟩])
 (.ret)) (.seq (.reg [] [⟨some 51, none, .mv (.t 5), []⟩, ⟨some 52, none, .bi .gtr .u32 (.t 51) (.k (.int .u32 65535)), []⟩, ⟨some 53, none, .mv (.t 52), []⟩, ⟨some 54, (some (53, true)), .mv (.t 5), []⟩, ⟨some 55, (some (53, true)), .bi .leq .u32 (.t 54) (.k (.int .u32 1114111)), []⟩, ⟨some 56, none, .pick (.t 53) (.t 55) (.k (.bool false)), []⟩, ⟨some 50, none, .mv (.t 56), []⟩])
 (.cond (.t 50) (.seq (.reg [] [⟨some 57, none, .mv (.t 0), []⟩, ⟨some 58, none, .mv (.t 1), []⟩, ⟨some 59, none, .shf .shr (.t 58) (.k (.int .u64 18)), []⟩, ⟨some 60, none, .cvi .u8 (.t 59), []⟩, ⟨some 61, none, .bi .or .u8 (.k (.int .u8 240)) (.t 60), []⟩, ⟨some 62, none, .mv (.t 1), []⟩, ⟨some 63, none, .shf .shr (.t 62) (.k (.int .u64 12)), []⟩, ⟨some 64, none, .cvi .u8 (.t 63), []⟩, ⟨some 65, none, .bi .and .u8 (.t 64) (.k (.int .u8 63)), []⟩, ⟨some 66, none, .bi .or .u8 (.k (.int .u8 128)) (.t 65), []⟩, ⟨some 67, none, .mv (.t 1), []⟩, ⟨some 68, none, .shf .shr (.t 67) (.k (.int .u64 6)), []⟩, ⟨some 69, none, .cvi .u8 (.t 68), []⟩, ⟨some 70, none, .bi .and .u8 (.t 69) (.k (.int .u8 63)), []⟩, ⟨some 71, none, .bi .or .u8 (.k (.int .u8 128)) (.t 70), []⟩, ⟨some 72, none, .mv (.t 1), []⟩, ⟨some 73, none, .cvi .u8 (.t 72), []⟩, ⟨some 74, none, .bi .and .u8 (.t 73) (.k (.int .u8 63)), []⟩, ⟨some 75, none, .bi .or .u8 (.k (.int .u8 128)) (.t 74), []⟩, ⟨some 76, none, .bls 1 4 [.int .u8 0] [(0, (.t 61)), (1, (.t 66)), (2, (.t 71)), (3, (.t 75))], []⟩, ⟨some 77, none, .app 1 1 (.t 57) (.t 76), []⟩, ⟨some 4, none, .mv (.t 77), []⟩])
 (.ret)) (.seq (.reg [] [⟨some 8, none, .mv (.t 0), []⟩, ⟨some 9, none, .bls 1 3 [.int .u8 0] [(0, (.k (.int .u8 239))), (1, (.k (.int .u8 191))), (2, (.k (.int .u8 189)))], []⟩, ⟨some 10, none, .app 1 1 (.t 8) (.t 9), []⟩, ⟨some 4, none, .mv (.t 10), []⟩])
 (.ret))))))))))⟩
theorem ck356 : chkFn Tryz.prog 356 ir356 = true := by kernel_rfl
end Go.Proofs.YticbbfbpeimkbaaGreatDoor
namespace Go.Proofs.YticbbfbpeimkbaaGreatDoor
open Go.Ab
mutual
inductive Val where
  | mk (k n : Int) (s : List UInt8) (l : List Val) (m : List Mem)
inductive Mem where
  | mk (name : List UInt8) (v : Val)
end
mutual
def cV : Val → List AV
  | .mk k n s l m => [.int .i64 k, .int .i64 n, .str s, .sl .no 5 (cVs l), .sl .no 6 (cMs m)]
def cVs : List Val → List (List AV)
  | [] => []
  | v :: r => cV v :: cVs r
def cM : Mem → List AV
  | .mk s v => .str s :: cV v
def cMs : List Mem → List (List AV)
  | [] => []
  | x :: r => cM x :: cMs r
end
theorem cVs_map : ∀ l, cVs l = l.map cV
  | [] => rfl
  | v :: r => by rw [cVs, cVs_map r]; rfl
theorem cMs_map : ∀ l, cMs l = l.map cM
  | [] => rfl
  | v :: r => by rw [cMs, cMs_map r]; rfl
theorem cVs_len (l : List Val) : (cVs l).length = l.length := by rw [cVs_map]; simp
theorem cMs_len (l : List Mem) : (cMs l).length = l.length := by rw [cMs_map]; simp
theorem cVs_get {l a : List Val} {x : Val} {b : List Val} (h : l = a ++ x :: b) : (cVs l).getD a.length [] = cV x := by rw [cVs_map, getD_mid' h]
theorem cMs_get {l a : List Mem} {x : Mem} {b : List Mem} (h : l = a ++ x :: b) : (cMs l).getD a.length [] = cM x := by rw [cMs_map, getD_mid' h]
theorem cV_mk (k n : Int) (s : List UInt8) (l : List Val) (m : List Mem) : cV (.mk k n s l m) = [.int .i64 k, .int .i64 n, .str s, .sl .no 5 (cVs l), .sl .no 6 (cMs m)] := rfl
theorem cM_mk (s : List UInt8) (v : Val) : cM (.mk s v) = .str s :: cV v := rfl
mutual
theorem Val.ind {P : Val → Prop} (h : ∀ k n s l m, (∀ v ∈ l, P v) → (∀ s v, Mem.mk s v ∈ m → P v) → P (.mk k n s l m)) : ∀ v, P v
  | .mk k n s l m => h k n s l m (Val.indL h l) (fun s v hm => Val.indM h m s v hm)
theorem Val.indL {P : Val → Prop} (h : ∀ k n s l m, (∀ v ∈ l, P v) → (∀ s v, Mem.mk s v ∈ m → P v) → P (.mk k n s l m)) : ∀ l : List Val, ∀ v ∈ l, P v
  | [], _, hv => by cases hv
  | x :: r, v, hv => (List.mem_cons.1 hv).elim (fun e => e ▸ Val.ind h x) (Val.indL h r v)
theorem Val.ind1 {P : Val → Prop} (h : ∀ k n s l m, (∀ v ∈ l, P v) → (∀ s v, Mem.mk s v ∈ m → P v) → P (.mk k n s l m)) : ∀ m : Mem, ∀ s v, m = .mk s v → P v
  | .mk s v, s', v', e => by cases e; exact Val.ind h v
theorem Val.indM {P : Val → Prop} (h : ∀ k n s l m, (∀ v ∈ l, P v) → (∀ s v, Mem.mk s v ∈ m → P v) → P (.mk k n s l m)) : ∀ l : List Mem, ∀ s v, Mem.mk s v ∈ l → P v
  | [], _, _, hv => by cases hv
  | x :: r, s, v, hv => (List.mem_cons.1 hv).elim (fun e => Val.ind1 h x s v e.symm) (Val.indM h r s v)
end
theorem cV_len (v : Val) : (cV v).length = 5 := by cases v; rfl
theorem cM_len (x : Mem) : (cM x).length = 6 := by cases x with | mk s v => cases v; rfl
theorem cV_take (v : Val) : (cV v).take 5 = cV v := by cases v; rfl
theorem cM_take (x : Mem) : (cM x).take 6 = cM x := by cases x with | mk s v => cases v; rfl
theorem cV_splice (a b c d e : AV) (v : Val) : splice [a, b, c, d, e] 0 (cV v) = cV v := by cases v; rfl
theorem cM_splice (a b c d e f : AV) (x : Mem) : splice [a, b, c, d, e, f] 0 (cM x) = cM x := by cases x with | mk s v => cases v; rfl
mutual
def bV : Val → Nat
  | .mk _ _ s l m => 1 + s.length + bVs l + bMs m
def bVs : List Val → Nat
  | [] => 0
  | v :: r => bV v + bVs r
def bM : Mem → Nat
  | .mk s v => s.length + bV v
def bMs : List Mem → Nat
  | [] => 0
  | x :: r => bM x + bMs r
end
theorem bV_pos (v : Val) : 1 ≤ bV v := by cases v; simp only [bV]; omega
theorem bM_pos (v : Mem) : 1 ≤ bM v := by cases v with | mk s v => have := bV_pos v; simp only [bM]; omega
theorem bVs_len : ∀ l, l.length ≤ bVs l
  | [] => by simp
  | v :: r => by have := bVs_len r; have := bV_pos v; simp only [bVs, List.length_cons]; omega
theorem bMs_len : ∀ l, l.length ≤ bMs l
  | [] => by simp
  | v :: r => by have := bMs_len r; have := bM_pos v; simp only [bMs, List.length_cons]; omega
theorem bVs_mid (a : List Val) (x : Val) (b : List Val) : bVs (a ++ x :: b) = bVs a + bV x + bVs b := by
  induction a with
  | nil => simp [bVs]
  | cons y a ih => simp only [List.cons_append, bVs, ih]; omega
theorem bMs_mid (a : List Mem) (x : Mem) (b : List Mem) : bMs (a ++ x :: b) = bMs a + bM x + bMs b := by
  induction a with
  | nil => simp [bMs]
  | cons y a ih => simp only [List.cons_append, bMs, ih]; omega
abbrev Lim : Nat := 1099511627776
theorem sizeC : ∀ v, bV v ≤ Lim → Pure Tryz.prog 53 [.agg (cV v)] (.int .i64 (bV v)) := by
  refine Val.ind fun k n s l m ihl ihm hb => ?_
  refine Pure.go ir53 ck53 (Nat.le_refl _) fun KP Q hQ => ?_
  have hl := cVs_len l
  have hm := cMs_len m
  have hll := bVs_len l
  have hml := bMs_len m
  have hb' : 1 + s.length + bVs l + bMs m ≤ Lim := hb
  simp only [Lim] at hb'
  simp (disch := first | omega | assumption) only [ir53, cV_mk, wrap64, go_sem, ↓reduceIte]
  refine goL_range l 4 (fun n : Int => [(3, .int .i64 n)]) (fun done rest n H => n + bVs rest = 1 + s.length + bVs l ∧ H = Heap.emp) (1 + s.length) (by simp (disch := first | omega | assumption) only [go_sem, ↓reduceIte]) ⟨by omega, rfl⟩ ?_ ?_
  · rintro n H J ⟨hn, rfl⟩ hlt
    simp only [bVs] at hn
    simp (disch := first | omega | assumption) only [hl, hlt, go_sem, ↓reduceIte]
    refine goL_range m 5 (fun n : Int => [(3, .int .i64 n)]) (fun done rest n H => n + bMs rest = 1 + s.length + bVs l + bMs m ∧ H = Heap.emp) n (by simp (disch := first | omega | assumption) only [go_sem, ↓reduceIte]) ⟨by omega, rfl⟩ ?_ ?_
    · rintro n H J ⟨hn, rfl⟩ hlt
      simp only [bMs] at hn
      simp (disch := first | omega | assumption) only [hm, hlt, go_sem, ↓reduceIte]
      have : n = ((bV (.mk k n s l m) : Nat) : Int) := by simp only [bV]; omega
      exact hQ _ _ _ _ nofun rfl (by simp [tupOf, envOf, AV.strip, AV.strip1, bV, this])
    · rintro done x rest n H J hd hlt _ ⟨hn, rfl⟩ hJ
      have hg := cMs_get hd
      have hbm := bMs_mid done x rest
      rw [← hd] at hbm
      cases x with
      | mk t v =>
      simp only [bMs, bM] at hn hbm
      simp (disch := first | omega | assumption) only [cV_len, cV_take, cV_splice, cM_len, cM_take, cM_splice, cM_mk, hm, hlt, hg, wrap64, go_sem, ↓reduceIte]
      refine goK_pure (ihm t v (by rw [hd]; simp) (by simp only [Lim]; omega)) ?_
      simp (disch := first | omega | assumption) only [hl, hm, hlt, hg, cM_mk, wrap64, go_sem, ↓reduceIte]
      refine goJ (hJ (n + t.length + bV v) Heap.emp ⟨by omega, rfl⟩) (by simp (disch := first | omega | assumption) only [go_sem, ↓reduceIte])
  · rintro done x rest n H J hd hlt _ ⟨hn, rfl⟩ hJ
    have hg := cVs_get hd
    have hbm := bVs_mid done x rest
    rw [← hd] at hbm
    simp only [bVs] at hn
    simp (disch := first | omega | assumption) only [cV_len, cV_take, cV_splice, cM_len, cM_take, cM_splice, cM_mk, hl, hlt, hg, go_sem, ↓reduceIte]
    refine goK_pure (ihl x (by rw [hd]; simp) (by simp only [Lim]; omega)) ?_
    simp (disch := first | omega | assumption) only [wrap64, go_sem, ↓reduceIte]
    refine goJ (hJ (n + bV x) Heap.emp ⟨by omega, rfl⟩) (by simp (disch := first | omega | assumption) only [go_sem, ↓reduceIte])
noncomputable def eqd {α : Type} (a b : α) : Bool := @decide (a = b) (Classical.propDecidable _)
theorem eqd_true {α : Type} {a b : α} (h : a = b) : eqd a b = true := by simp [eqd, h]
theorem eqd_false {α : Type} {a b : α} (h : a ≠ b) : eqd a b = false := by simp [eqd, h]
def cT (l : List (List UInt8)) : List (List AV) := l.map fun k => [.str k]
theorem cT_len (l : List (List UInt8)) : (cT l).length = l.length := by simp [cT]
theorem two_mid {α : Type} {a b done rest : List α} {x : α} (h : a = done ++ x :: rest) (hl : a.length = b.length) (hp : b.take done.length = done) : ∃ y r, b = done ++ y :: r := by
  have h1 : done.length < b.length := by rw [← hl, h]; simp
  refine ⟨b[done.length], b.drop (done.length + 1), ?_⟩
  conv => lhs; rw [← List.take_append_drop done.length b, hp, List.drop_eq_getElem_cons h1]
theorem two_step {α : Type} {b done r : List α} {y : α} (h : b = done ++ y :: r) : b.take (done ++ [y]).length = done ++ [y] := by
  subst h
  have e : done ++ y :: r = (done ++ [y]) ++ r := by simp
  rw [e, List.take_left']; rfl
theorem two_end {α : Type} {a b : List α} (hl : a.length = b.length) (hp : b.take a.length = a) : a = b := by
  rw [hl, List.take_length] at hp; exact hp.symm
theorem two_ne {α : Type} {a b done rest r : List α} {x y : α} (h : a = done ++ x :: rest) (h' : b = done ++ y :: r) (hxy : x ≠ y) : a ≠ b := fun e => by
  rw [h, h'] at e
  exact hxy (List.cons.inj (List.append_cancel_left e)).1
end Go.Proofs.YticbbfbpeimkbaaGreatDoor
namespace Go.Proofs.YticbbfbpeimkbaaGreatDoor
open Go.Ab
mutual
def depthV : Val → Int
  | .mk k _ _ l m => if k = 6 then depthVs l 0 + 1 else if k = 7 then depthMs m 0 + 1 else 0
def depthVs : List Val → Int → Int
  | [], n => n
  | v :: r, n => depthVs r (mm2 true n (depthV v))
def depthM : Mem → Int
  | .mk _ v => depthV v
def depthMs : List Mem → Int → Int
  | [], n => n
  | x :: r, n => depthMs r (mm2 true n (depthM x))
end
theorem mm2_ge (a b : Int) : a ≤ mm2 true a b := by simp only [mm2, if_true]; split <;> omega
mutual
theorem depthV_le : ∀ v, 0 ≤ depthV v ∧ depthV v ≤ bV v
  | .mk k n s l m => by
    have h1 := depthVs_le l 0
    have h2 := depthMs_le m 0
    simp only [depthV, bV]
    split
    · omega
    · split <;> omega
theorem depthVs_le : ∀ l (n : Int), n ≤ depthVs l n ∧ (depthVs l n ≤ n ∨ depthVs l n ≤ bVs l)
  | [], n => by simp [depthVs, bVs]
  | v :: r, n => by
    have h1 := depthV_le v
    have h2 := depthVs_le r (mm2 true n (depthV v))
    have h3 := mm2_ge n (depthV v)
    have h4 : mm2 true n (depthV v) = n ∨ mm2 true n (depthV v) = depthV v := by simp only [mm2, if_true]; split <;> simp
    simp only [depthVs, bVs]
    omega
theorem depthM_le : ∀ x, 0 ≤ depthM x ∧ depthM x ≤ bM x
  | .mk s v => by have := depthV_le v; simp only [depthM, bM]; omega
theorem depthMs_le : ∀ l (n : Int), n ≤ depthMs l n ∧ (depthMs l n ≤ n ∨ depthMs l n ≤ bMs l)
  | [], n => by simp [depthMs, bMs]
  | v :: r, n => by
    have h1 := depthM_le v
    have h2 := depthMs_le r (mm2 true n (depthM v))
    have h3 := mm2_ge n (depthM v)
    have h4 : mm2 true n (depthM v) = n ∨ mm2 true n (depthM v) = depthM v := by simp only [mm2, if_true]; split <;> simp
    simp only [depthMs, bMs]
    omega
end
theorem depthC : ∀ v, bV v ≤ Lim → Pure Tryz.prog 116 [.agg (cV v)] (.int .i64 (depthV v)) := by
  refine Val.ind fun k n s l m ihl ihm hb => ?_
  refine Pure.go ir116 ck116 (Nat.le_refl _) fun KP Q hQ => ?_
  have hl := cVs_len l
  have hm := cMs_len m
  have hll := bVs_len l
  have hml := bMs_len m
  have hb' : 1 + s.length + bVs l + bMs m ≤ Lim := hb
  simp only [Lim] at hb'
  have d1 := depthVs_le l 0
  have d2 := depthMs_le m 0
  by_cases k6 : k = 6
  · subst k6
    simp (disch := first | omega | assumption) only [ir116, cV_mk, hl, go_sem, ↓reduceIte]
    refine goL_range l 15 (fun n : Int => [(3, .int .i64 n)]) (fun done rest n H => depthVs rest n = depthVs l 0) 0 (by simp (disch := first | omega | assumption) only [go_sem, ↓reduceIte]) rfl ?_ ?_
    · rintro n H J hn hlt
      simp only [depthVs] at hn
      simp (disch := first | omega | assumption) only [hl, hlt, wrap64, hn, go_sem, ↓reduceIte]
      exact hQ _ _ _ _ nofun rfl (by simp [tupOf, envOf, AV.strip, AV.strip1, depthV])
    · rintro done x rest n H J hd hlt _ hn hJ
      have hg := cVs_get hd
      have hbm := bVs_mid done x rest
      rw [← hd] at hbm
      simp only [depthVs] at hn
      simp (disch := first | omega | assumption) only [cV_len, cV_take, cV_splice, cM_len, cM_take, cM_splice, cM_mk, hl, hlt, hg, go_sem, ↓reduceIte]
      refine goA_intro fun b hb => ?_
      simp (disch := first | omega | assumption) only [cV_len, cV_take, cV_splice, cM_len, cM_take, cM_splice, cM_mk, go_sem, ↓reduceIte]
      refine goK_pure (ihl x (by rw [hd]; simp) (by simp only [Lim]; omega)) ?_
      simp (disch := first | omega | assumption) only [wrap64, go_sem, ↓reduceIte]
      exact goJ (hJ _ _ hn) (by simp (disch := first | omega | assumption) only [go_sem, ↓reduceIte])
  by_cases k7 : k = 7
  · subst k7
    simp (disch := first | omega | assumption) only [ir116, cV_mk, hm, go_sem, ↓reduceIte]
    refine goL_range m 29 (fun n : Int => [(3, .int .i64 n)]) (fun done rest n H => depthMs rest n = depthMs m 0) 0 (by simp (disch := first | omega | assumption) only [go_sem, ↓reduceIte]) rfl ?_ ?_
    · rintro n H J hn hlt
      simp only [depthMs] at hn
      simp (disch := first | omega | assumption) only [hm, hlt, wrap64, hn, go_sem, ↓reduceIte]
      exact hQ _ _ _ _ nofun rfl (by simp [tupOf, envOf, AV.strip, AV.strip1, depthV])
    · rintro done x rest n H J hd hlt _ hn hJ
      have hg := cMs_get hd
      have hbm := bMs_mid done x rest
      rw [← hd] at hbm
      cases x with
      | mk t v =>
      simp only [depthMs, depthM, bM] at hn hbm
      simp (disch := first | omega | assumption) only [cV_len, cV_take, cV_splice, cM_len, cM_take, cM_splice, cM_mk, hm, hlt, hg, go_sem, ↓reduceIte]
      refine goA_intro fun b hb => ?_
      simp (disch := first | omega | assumption) only [cV_len, cV_take, cV_splice, cM_len, cM_take, cM_splice, cM_mk, go_sem, ↓reduceIte]
      refine goK_pure (ihm t v (by rw [hd]; simp) (by simp only [Lim]; omega)) ?_
      simp (disch := first | omega | assumption) only [wrap64, go_sem, ↓reduceIte]
      exact goJ (hJ _ _ hn) (by simp (disch := first | omega | assumption) only [go_sem, ↓reduceIte])
  · simp (disch := first | omega | assumption) only [ir116, cV_mk, k6, k7, go_sem, ↓reduceIte]
    exact hQ _ _ _ _ nofun rfl (by simp [tupOf, envOf, AV.strip, AV.strip1, depthV, k6, k7])
end Go.Proofs.YticbbfbpeimkbaaGreatDoor
namespace Go.Proofs.YticbbfbpeimkbaaGreatDoor
open Go.Ab
structure Tok where
  k : Int
  s : List UInt8
def cK (t : Tok) : List AV := [.int .i64 t.k, .str t.s]
def cKs (l : List Tok) : List (List AV) := l.map cK
theorem cKs_len (l : List Tok) : (cKs l).length = l.length := by simp [cKs]
theorem cKs_strip (l : List Tok) : (cKs l).map (·.map AV.strip1) = cKs l := by simp [cKs, cK, AV.strip1]
theorem cKs_get {l a : List Tok} {x : Tok} {b : List Tok} (h : l = a ++ x :: b) : (cKs l).getD a.length [] = [.int .i64 x.k, .str x.s] := getD_mid' h
theorem tok_eq (x y : Tok) : (decide (x.k = y.k) && decide (x.s = y.s)) = eqd x y := by
  by_cases h : x = y
  · subst h; simp [eqd_true rfl]
  · rw [eqd_false h]
    obtain ⟨k1, s1⟩ := x
    obtain ⟨k2, s2⟩ := y
    simp only [Tok.mk.injEq, not_and] at h
    simp only [Bool.and_eq_false_iff, decide_eq_false_iff_not]
    by_cases hk : k1 = k2
    · exact .inr (h hk)
    · exact .inl hk
theorem sameTokensR (a b : List Tok) (ha : a.length ≤ Lim) : Pure Tryz.prog 29 [.sl .no 2 (cKs a), .sl .no 2 (cKs b)] (.bool (eqd a b)) := by
  refine Pure.go ir29 ck29 (Nat.le_refl _) fun KP Q hQ => ?_
  have h1 := cKs_len a
  have h2 := cKs_len b
  simp only [Lim] at ha
  by_cases hl : a.length = b.length
  case neg =>
    have hl' : ¬ ((a.length : Int) = b.length) := by omega
    have hne : a ≠ b := fun e => hl (by rw [e])
    simp (disch := first | omega | assumption) only [ir29, h1, h2, hl', go_sem, ↓reduceIte]
    exact hQ _ _ _ _ nofun rfl (by simp [tupOf, envOf, AV.strip, AV.strip1, eqd_false hne])
  have hl' : ((a.length : Int) = b.length) = True := eq_true (by omega)
  simp (disch := first | omega | assumption) only [ir29, h1, h2, hl', go_sem, ↓reduceIte]
  refine goL_range a 5 (fun _ : Unit => []) (fun done rest n H => b.take done.length = done) () (by simp (disch := first | omega | assumption) only [go_sem, ↓reduceIte]) rfl ?_ ?_
  · rintro n H J hp hlt
    simp (disch := first | omega | assumption) only [h1, hlt, go_sem, ↓reduceIte]
    exact hQ _ _ _ _ nofun rfl (by simp [tupOf, envOf, AV.strip, AV.strip1, eqd_true (two_end hl hp)])
  · rintro done x rest n H J hd hlt _ hp hJ
    obtain ⟨y, r, hb⟩ := two_mid hd hl hp
    have g1 := cKs_get hd
    have g2 := cKs_get hb
    have hlt2 : (done.length : Int) < b.length := by omega
    have hk := tok_eq x y
    by_cases hxy : x = y
    · rw [eqd_true hxy] at hk
      simp (disch := first | omega | assumption) only [h1, h2, hlt, hlt2, g1, g2, fitsAll, K1.fits, keqs, AV.keq1, Bool.and_true, Bool.true_and, hk, go_sem, ↓reduceIte]
      exact goJ (hJ () _ (by rw [hxy]; exact two_step hb)) (by simp (disch := first | omega | assumption) only [wrap64, go_sem, ↓reduceIte])
    · rw [eqd_false hxy] at hk
      simp (disch := first | omega | assumption) only [h1, h2, hlt, hlt2, g1, g2, fitsAll, K1.fits, keqs, AV.keq1, Bool.and_true, Bool.true_and, hk, go_sem, ↓reduceIte]
      exact hQ _ _ _ _ nofun rfl (by simp [tupOf, envOf, AV.strip, AV.strip1, eqd_false (two_ne hd hb hxy)])
end Go.Proofs.YticbbfbpeimkbaaGreatDoor
namespace Go.Proofs.YticbbfbpeimkbaaGreatDoor
open Go.Ab
end Go.Proofs.YticbbfbpeimkbaaGreatDoor
namespace Go.Proofs.YticbbfbpeimkbaaGreatDoor
open Go.Ab
end Go.Proofs.YticbbfbpeimkbaaGreatDoor
namespace Go.Proofs.YticbbfbpeimkbaaGreatDoor
open Go.Ab
abbrev OwnR (H : Heap) (o : Own) (sz : Nat) (xs : List (List AV)) : AV → Heap → Prop := fun v H' => ∃ o', v = .sl o' sz xs ∧ OwnS H o H' o' xs.length sz
abbrev Gives (P : Program) (f : FuncId) (args : List AV) (H : Heap) (o : Own) (sz : Nat) (xs : List (List AV)) : Prop :=
  ACalls P f args H (fun e H' => match e with | .ret v => OwnR H o sz xs v H' | .pan _ => False)
theorem goK_gives {P : Program} {KP : AV → Heap → Prop} {Q : AExit → Env → Heap → Prop} {st : List Fr} {ρ : Env} {H : Heap} {all l : List AItem} {d : Option Nat} {R : List Chk} {f : FuncId} {args : List AV} {o : Own} {sz : Nat} {xs : List (List AV)}
    (h : Gives P f args H o sz xs) (hk : ∀ o' H', OwnS H o H' o' xs.length sz → goR P KP Q all l st R (ρ.set d (.sl o' sz xs)) H') : goK P KP Q all l st d R ρ f args H :=
  goK_both (XP := fun _ _ => False) h (fun v H' ⟨o', e, hs⟩ => by subst e; exact hk o' H' hs) (fun _ _ h => h.elim)
end Go.Proofs.YticbbfbpeimkbaaGreatDoor
namespace Go.Proofs.YticbbfbpeimkbaaGreatDoor
open Go.Ab
def isD (c : UInt8) : Bool := decide (48 ≤ c.toNat) && decide (c.toNat ≤ 57)
def isL (c : UInt8) : Bool := (decide (97 ≤ c.toNat) && decide (c.toNat ≤ 122)) || ((decide (65 ≤ c.toNat) && decide (c.toNat ≤ 90)) || decide (c.toNat = 95))
theorem digitC (c : UInt8) : Pure Tryz.prog 226 [.int .u8 (c.toNat : Int)] (.bool (isD c)) := by
  refine Pure.go ir226 ck226 (Nat.le_refl _) fun KP Q hQ => ?_
  by_cases h : (48 : Int) ≤ c.toNat
  · simp (disch := first | omega | assumption) only [ir226, h, go_sem, ↓reduceIte]
    have h' : 48 ≤ c.toNat := by omega
    have e : decide ((c.toNat : Int) ≤ 57) = decide (c.toNat ≤ 57) := by rw [decide_eq_decide]; omega
    exact hQ _ _ _ _ nofun rfl (by simp [tupOf, envOf, AV.strip, AV.strip1, isD, h', e])
  · simp (disch := first | omega | assumption) only [ir226, h, go_sem, ↓reduceIte]
    have h' : ¬ 48 ≤ c.toNat := by omega
    exact hQ _ _ _ _ nofun rfl (by simp [tupOf, envOf, AV.strip, AV.strip1, isD, h'])
theorem letterC (c : UInt8) : Pure Tryz.prog 223 [.int .u8 (c.toNat : Int)] (.bool (isL c)) := by
  refine Pure.go ir223 ck223 (Nat.le_refl _) fun KP Q hQ => ?_
  have e : decide ((c.toNat : Int) = 95) = decide (c.toNat = 95) := by rw [decide_eq_decide]; omega
  by_cases h : (97 : Int) ≤ c.toNat
  · have h' : 97 ≤ c.toNat := by omega
    by_cases h2 : (c.toNat : Int) ≤ 122
    · have h2' : c.toNat ≤ 122 := by omega
      simp (disch := first | omega | assumption) only [ir223, h, h2, go_sem, ↓reduceIte]
      exact hQ _ _ _ _ nofun rfl (by simp [tupOf, envOf, AV.strip, AV.strip1, isL, h', h2'])
    · have h2' : ¬ c.toNat ≤ 122 := by omega
      have h3 : (65 : Int) ≤ c.toNat := by omega
      have h4 : ¬ (c.toNat : Int) ≤ 90 := by omega
      have h4' : ¬ c.toNat ≤ 90 := by omega
      simp (disch := first | omega | assumption) only [ir223, h, h2, h3, h4, go_sem, ↓reduceIte]
      exact hQ _ _ _ _ nofun rfl (by simp [tupOf, envOf, AV.strip, AV.strip1, isL, h', h2', h4', e])
  · have h' : ¬ 97 ≤ c.toNat := by omega
    by_cases h3 : (65 : Int) ≤ c.toNat
    · have h3' : 65 ≤ c.toNat := by omega
      by_cases h4 : (c.toNat : Int) ≤ 90
      · have h4' : c.toNat ≤ 90 := by omega
        simp (disch := first | omega | assumption) only [ir223, h, h3, h4, go_sem, ↓reduceIte]
        exact hQ _ _ _ _ nofun rfl (by simp [tupOf, envOf, AV.strip, AV.strip1, isL, h', h3', h4'])
      · have h4' : ¬ c.toNat ≤ 90 := by omega
        simp (disch := first | omega | assumption) only [ir223, h, h3, h4, go_sem, ↓reduceIte]
        exact hQ _ _ _ _ nofun rfl (by simp [tupOf, envOf, AV.strip, AV.strip1, isL, h', h3', h4', e])
    · have h3' : ¬ 65 ≤ c.toNat := by omega
      simp (disch := first | omega | assumption) only [ir223, h, h3, go_sem, ↓reduceIte]
      exact hQ _ _ _ _ nofun rfl (by simp [tupOf, envOf, AV.strip, AV.strip1, isL, h', h3', e])
def nameG : List UInt8 → Nat → Bool
  | [], _ => true
  | c :: r, i => if isL c || (decide (i ≠ 0) && isD c) then nameG r (i + 1) else false
def nameM (s : List UInt8) : Bool := nameG s 0 && decide (s ≠ [])
theorem str_get {s a : List UInt8} {x : UInt8} {b : List UInt8} (h : s = a ++ x :: b) : s.getD a.length 0 = x := by subst h; simp
theorem nameC (s : List UInt8) (hs : s.length ≤ Lim) : Pure Tryz.prog 203 [.str s] (.bool (nameM s)) := by
  refine Pure.go ir203 ck203 (Nat.le_refl _) fun KP Q hQ => ?_
  simp only [Lim] at hs
  simp (disch := first | omega | assumption) only [ir203, go_sem, ↓reduceIte]
  refine goL_range s 6 (fun _ : Unit => []) (fun done rest n H => nameG rest done.length = nameG s 0) () (by simp (disch := first | omega | assumption) only [go_sem, ↓reduceIte]) rfl ?_ ?_
  · rintro n H J hn hlt
    simp only [nameG] at hn
    simp (disch := first | omega | assumption) only [hlt, go_sem, ↓reduceIte]
    have e : (!decide (s = [])) = decide (s ≠ []) := by simp
    exact hQ _ _ _ _ nofun rfl (by simp [tupOf, envOf, AV.strip, AV.strip1, nameM, ← hn])
  · rintro done x rest n H J hd hlt _ hn hJ
    have hg := str_get hd
    simp only [nameG] at hn
    simp (disch := first | omega | assumption) only [hlt, hg, go_sem, ↓reduceIte]
    refine goK_pure (letterC x) ?_
    cases hl : isL x with
    | true =>
      simp only [hl, Bool.true_or, if_true] at hn
      simp (disch := first | omega | assumption) only [hl, go_sem, ↓reduceIte]
      exact goJ (hJ () _ (by simpa using hn)) (by simp (disch := first | omega | assumption) only [wrap64, go_sem, ↓reduceIte])
    | false =>
      by_cases h0 : done.length = 0
      · have h0' : (done.length : Int) = 0 := by omega
        simp only [hl, h0, ne_eq, not_true_eq_false, decide_false, Bool.false_and, Bool.or_false, Bool.false_eq_true, if_false] at hn
        simp (disch := first | omega | assumption) only [hl, h0', go_sem, ↓reduceIte]
        exact hQ _ _ _ _ nofun rfl (by simp [tupOf, envOf, AV.strip, AV.strip1, nameM, ← hn])
      · have h0' : ¬ (done.length : Int) = 0 := by omega
        simp (disch := first | omega | assumption) only [hl, h0', hlt, hg, go_sem, ↓reduceIte]
        refine goK_pure (digitC x) ?_
        cases hdg : isD x with
        | true =>
          simp only [hl, hdg, h0, ne_eq, not_false_eq_true, decide_true, Bool.and_self, Bool.or_true, if_true] at hn
          simp (disch := first | omega | assumption) only [hdg, go_sem, ↓reduceIte]
          exact goJ (hJ () _ (by simpa using hn)) (by simp (disch := first | omega | assumption) only [wrap64, go_sem, ↓reduceIte])
        | false =>
          simp only [hl, hdg, Bool.and_false, Bool.or_false, Bool.false_eq_true, if_false] at hn
          simp (disch := first | omega | assumption) only [hdg, go_sem, ↓reduceIte]
          exact hQ _ _ _ _ nofun rfl (by simp [tupOf, envOf, AV.strip, AV.strip1, nameM, ← hn])
def run1 : List UInt8 → Nat
  | [] => 0
  | c :: r => if isD c then run1 r + 1 else 0
theorem run1_le : ∀ l, run1 l ≤ l.length
  | [] => Nat.le_refl _
  | c :: r => by have := run1_le r; simp only [run1, List.length_cons]; split <;> omega
theorem drop_cases (s : List UInt8) (k : Nat) : (s.drop k = [] ∧ s.length ≤ k) ∨ (k < s.length ∧ s.drop k = s.getD k 0 :: s.drop (k + 1)) := by
  rcases Nat.lt_or_ge k s.length with h | h
  · right
    refine ⟨h, ?_⟩
    rw [List.drop_eq_getElem_cons h]
    simp [h]
  · left; exact ⟨List.drop_of_length_le h, h⟩
theorem digitsC (s : List UInt8) (hs : s.length ≤ Lim) : Pure Tryz.prog 285 [.str s] (.int .i64 (run1 s)) := by
  refine Pure.go ir285 ck285 (Nat.le_refl _) fun KP Q hQ => ?_
  simp only [Lim] at hs
  have hr1 := run1_le s
  simp (disch := first | omega | assumption) only [ir285, go_sem, ↓reduceIte]
  refine goL_st (fun n : Nat => [(3, .int .i64 n)]) (fun n H => run1 s = n + run1 (s.drop n) ∧ n ≤ s.length) (fun n => s.length - n) 0 (by simp (disch := first | omega | assumption) only [go_sem, ↓reduceIte]) ⟨by simp, by omega⟩ ?_
  rintro n H J ⟨hn, hle⟩ hJ
  rcases drop_cases s n with ⟨h1, h2⟩ | ⟨h1, h2⟩
  · have hlt : ¬ ((n : Int) < s.length) := by omega
    rw [h1] at hn
    simp only [run1, Nat.add_zero] at hn
    simp (disch := first | omega | assumption) only [hlt, go_sem, ↓reduceIte]
    exact hQ _ _ _ _ nofun rfl (by simp [tupOf, envOf, AV.strip, AV.strip1, hn])
  · have hlt : ((n : Int) < s.length) := by omega
    rw [h2] at hn
    simp only [run1] at hn
    simp (disch := first | omega | assumption) only [hlt, go_sem, ↓reduceIte]
    refine goK_pure (digitC (s.getD n 0)) ?_
    cases hd : isD (s.getD n 0) with
    | true =>
      simp only [hd, if_true] at hn
      simp (disch := first | omega | assumption) only [hd, go_sem, ↓reduceIte]
      exact goJ (hJ (n + 1) _ (by omega) ⟨by omega, by omega⟩) (by simp (disch := first | omega | assumption) only [wrap64, Int.natCast_add, Int.natCast_one, go_sem, ↓reduceIte])
    | false =>
      simp only [hd, Bool.false_eq_true, if_false, Nat.add_zero] at hn
      simp (disch := first | omega | assumption) only [hd, go_sem, ↓reduceIte]
      exact hQ _ _ _ _ nofun rfl (by simp [tupOf, envOf, AV.strip, AV.strip1, hn])
end Go.Proofs.YticbbfbpeimkbaaGreatDoor
namespace Go.Proofs.YticbbfbpeimkbaaGreatDoor
open Go.Ab
theorem prefix1 (c : UInt8) (s : List UInt8) : [c].isPrefixOf s = decide (s.head? = some c) := by
  cases s with
  | nil => rfl
  | cons d r =>
    by_cases h : d = c
    · subst h; simp [List.isPrefixOf]
    · have h' : ¬ c = d := fun e => h e.symm
      simp [List.isPrefixOf, h, h']
def intN (s : List UInt8) : Nat := if run1 s = 0 then 0 else if s.getD 0 0 = 48 then 1 else run1 s
def wholeN (s : List UInt8) : Nat := if s.head? = some 45 then (if run1 s.tail = 0 then 0 else 1 + intN s.tail) else intN s
theorem intN_le (s : List UInt8) : intN s ≤ s.length := by have := run1_le s; unfold intN; split <;> (try split) <;> omega
theorem wholeN_le (s : List UInt8) : wholeN s ≤ s.length := by
  have h1 := intN_le s
  have h2 := intN_le s.tail
  unfold wholeN
  split
  · rename_i h
    cases s with
    | nil => simp at h
    | cons c r =>
      simp only [List.tail_cons, List.length_cons] at h2 ⊢
      by_cases h0 : run1 r = 0 <;> simp only [h0, if_true, if_false] <;> omega
  · exact h1
theorem u8_is (a : UInt8) (n : Nat) (hn : n < 256) : decide ((a.toNat : Int) = n) = decide (a = UInt8.ofNat n) := by
  rw [decide_eq_decide]
  have : (UInt8.ofNat n).toNat = n := by simp [UInt8.toNat_ofNat']; omega
  constructor
  · intro h; apply UInt8.toNat_inj.1; rw [this]; omega
  · intro h; subst h; rw [this]
theorem wholeC (s : List UInt8) (hs : s.length ≤ Lim) : Pure Tryz.prog 284 [.str s] (.int .i64 (wholeN s)) := by
  refine Pure.go ir284 ck284 (Nat.le_refl _) fun KP Q hQ => ?_
  simp only [Lim] at hs
  simp (disch := first | omega | assumption) only [ir284, go_sem, ↓reduceIte]
  refine goK_pure (prefixC s [45]) ?_
  rw [prefix1]
  by_cases h : s.head? = some 45
  · cases s with
    | nil => simp at h
    | cons c r =>
      have hc : c = 45 := by simpa using h
      subst hc
      simp only [List.length_cons] at hs
      have h1 : (1 : Int) ≤ ((r.length + 1 : Nat) : Int) := by omega
      have h2 : (1 : Int) < ((r.length + 1 : Nat) : Int) ∨ r = [] := by cases r <;> simp; omega
      simp (disch := first | omega | assumption) only [h, h1, Int.toNat_one, go_sem, ↓reduceIte]
      refine goK_pure (digitsC r (by simp only [Lim]; omega)) ?_
      by_cases h0 : run1 r = 0
      · simp (disch := first | omega | assumption) only [h0, go_sem, ↓reduceIte]
        exact hQ _ _ _ _ nofun rfl (by simp [tupOf, envOf, AV.strip, AV.strip1, wholeN, h0])
      · have h0' : ¬ ((run1 r : Int) = 0) := by omega
        have hrl := run1_le r
        have hlt : (1 : Int) < ((r.length + 1 : Nat) : Int) := by omega
        have e := u8_is (r.getD 0 0) 48 (by omega)
        by_cases h48 : r.getD 0 0 = 48
        · have hi : intN r = 1 := by simp only [intN, h0, h48, if_false, if_true]
          simp (disch := first | omega | assumption) only [h0', hlt, Int.toNat_one, h48, UInt8.reduceToNat, wrap64, go_sem, ↓reduceIte]
          exact hQ _ _ _ _ nofun rfl (by simp [tupOf, envOf, AV.strip, AV.strip1, wholeN, h0, hi])
        · have h48' : ¬ ((r.getD 0 0).toNat : Int) = 48 := by
            intro hh
            rw [decide_eq_true (by exact hh)] at e
            exact h48 (by simpa using e.symm)
          have hi : intN r = run1 r := by simp only [intN, h0, h48, if_false]
          simp (disch := first | omega | assumption) only [h0', hlt, Int.toNat_one, h48', wrap64, go_sem, ↓reduceIte]
          exact hQ _ _ _ _ nofun rfl (by simp [tupOf, envOf, AV.strip, AV.strip1, wholeN, h0, hi])
  · simp (disch := first | omega | assumption) only [h, go_sem, ↓reduceIte]
    refine goK_pure (digitsC s (by simp only [Lim]; omega)) ?_
    by_cases h0 : run1 s = 0
    · simp (disch := first | omega | assumption) only [h0, go_sem, ↓reduceIte]
      exact hQ _ _ _ _ nofun rfl (by simp [tupOf, envOf, AV.strip, AV.strip1, wholeN, h, intN, h0])
    · have h0' : ¬ ((run1 s : Int) = 0) := by omega
      have hrl := run1_le s
      have hlt : (0 : Int) < (s.length : Int) := by omega
      have e := u8_is (s.getD 0 0) 48 (by omega)
      by_cases h48 : s.getD 0 0 = 48
      · have hi : intN s = 1 := by simp only [intN, h0, h48, if_false, if_true]
        simp (disch := first | omega | assumption) only [h0', hlt, h48, UInt8.reduceToNat, wrap64, go_sem, ↓reduceIte]
        exact hQ _ _ _ _ nofun rfl (by simp [tupOf, envOf, AV.strip, AV.strip1, wholeN, h, hi])
      · have h48' : ¬ ((s.getD 0 0).toNat : Int) = 48 := by
          intro hh
          rw [decide_eq_true (by exact hh)] at e
          exact h48 (by simpa using e.symm)
        have hi : intN s = run1 s := by simp only [intN, h0, h48, if_false]
        simp (disch := first | omega | assumption) only [h0', hlt, h48', wrap64, go_sem, ↓reduceIte]
        exact hQ _ _ _ _ nofun rfl (by simp [tupOf, envOf, AV.strip, AV.strip1, wholeN, h, hi])
def isE (c : UInt8) : Bool := decide (c = 101) || decide (c = 69)
def sgN (r : List UInt8) : Nat := if r.head? = some 43 ∨ r.head? = some 45 then 1 else 0
def powN : List UInt8 → Nat
  | [] => 0
  | c :: r => if isE c then (if run1 (r.drop (sgN r)) = 0 then 0 else 1 + sgN r + run1 (r.drop (sgN r))) else 0
theorem sgN_le (r : List UInt8) : sgN r ≤ r.length := by
  unfold sgN
  split
  · cases r <;> simp_all
  · omega
theorem powN_le : ∀ s, powN s ≤ s.length
  | [] => by simp [powN]
  | c :: r => by
    have h := run1_le (r.drop (sgN r))
    have h2 := sgN_le r
    rw [List.length_drop] at h
    simp only [powN, List.length_cons]
    split
    · split <;> omega
    · omega
theorem powerC (s : List UInt8) (hs : s.length ≤ Lim) : Pure Tryz.prog 286 [.str s] (.int .i64 (powN s)) := by
  refine Pure.go ir286 ck286 (Nat.le_refl _) fun KP Q hQ => ?_
  simp only [Lim] at hs
  cases s with
  | nil =>
    simp (disch := first | omega | assumption) only [ir286, go_sem, ↓reduceIte]
    exact hQ _ _ _ _ nofun rfl (by simp [tupOf, envOf, AV.strip, AV.strip1, powN])
  | cons c r =>
    simp only [List.length_cons] at hs
    have hne : ¬ (c :: r = []) := by simp
    have hp : (0 : Int) < ((r.length + 1 : Nat) : Int) := by omega
    have e1 := u8_is c 101 (by omega)
    have e2 := u8_is c 69 (by omega)
    have hE : ∀ (P : Prop), P → P := fun _ h => h
    by_cases hc : isE c = true
    case neg =>
      have hc1 : ¬ (c.toNat : Int) = 101 := by
        intro hh; rw [decide_eq_true (by exact hh)] at e1
        exact hc (by simp [isE, (by simpa using e1.symm : c = 101)])
      have hc2 : ¬ (c.toNat : Int) = 69 := by
        intro hh; rw [decide_eq_true (by exact hh)] at e2
        exact hc (by simp [isE, (by simpa using e2.symm : c = 69)])
      simp (disch := first | omega | assumption) only [ir286, hne, hp, hc1, hc2, go_sem, ↓reduceIte]
      have hcf : isE c = false := by simpa using hc
      exact hQ _ _ _ _ nofun rfl (by simp [tupOf, envOf, AV.strip, AV.strip1, powN, hcf])
    have fin : ∀ k : Nat, run1 (r.drop (sgN r)) = k → powN (c :: r) = if k = 0 then 0 else 1 + sgN r + k := fun k hk => by subst hk; simp only [powN, hc, if_true]
    have hcase : (c.toNat : Int) = 101 ∨ (¬ (c.toNat : Int) = 101 ∧ (c.toNat : Int) = 69) := by
      simp only [isE, Bool.or_eq_true, decide_eq_true_eq] at hc
      rcases hc with rfl | rfl
      · exact .inl rfl
      · exact .inr ⟨by decide, rfl⟩
    have hdl := run1_le (r.drop (sgN r))
    rw [List.length_drop] at hdl
    have hsl := sgN_le r
    cases r with
    | nil =>
      have k0 := fin 0 (by simp [sgN, run1])
      rcases hcase with h1 | ⟨h1, h2⟩
      · simp (disch := first | omega | assumption) only [ir286, h1, go_sem, ↓reduceIte]
        refine goK_pure (digitsC [] (by simp)) ?_
        simp (disch := first | omega | assumption) only [run1, go_sem, ↓reduceIte]
        exact hQ _ _ _ _ nofun rfl (by simp [tupOf, envOf, AV.strip, AV.strip1, k0])
      · simp (disch := first | omega | assumption) only [ir286, h1, h2, go_sem, ↓reduceIte]
        refine goK_pure (digitsC [] (by simp)) ?_
        simp (disch := first | omega | assumption) only [run1, go_sem, ↓reduceIte]
        exact hQ _ _ _ _ nofun rfl (by simp [tupOf, envOf, AV.strip, AV.strip1, k0])
    | cons d t =>
      simp only [List.length_cons] at hs
      have hl1 : (1 : Int) < ((t.length + 1 + 1 : Nat) : Int) := by omega
      have hl2 : (2 : Int) ≤ ((t.length + 1 + 1 : Nat) : Int) := by omega
      have hl3 : (1 : Int) ≤ ((t.length + 1 + 1 : Nat) : Int) := by omega
      have f1 := u8_is d 43 (by omega)
      have f2 := u8_is d 45 (by omega)
      by_cases hsg : d = 43 ∨ d = 45
      · have hsg1 : sgN (d :: t) = 1 := by simp only [sgN, List.head?_cons, Option.some.injEq, hsg, if_true]
        have k0 := fin (run1 t) (by rw [hsg1]; rfl)
        rw [hsg1] at k0 hdl
        have hd : (d.toNat : Int) = 43 ∨ (¬ (d.toNat : Int) = 43 ∧ (d.toNat : Int) = 45) := by
          rcases hsg with rfl | rfl
          · exact .inl rfl
          · exact .inr ⟨by decide, rfl⟩
        rcases hcase with h1 | ⟨h1, h2⟩ <;> rcases hd with h3 | ⟨h3, h4⟩
        all_goals
          simp only [hl1, hl2, List.length_cons, List.drop_succ_cons, List.drop_zero] at hdl
        · simp (disch := first | omega | assumption) only [ir286, h1, h3, hl1, hl2, Int.toNat_one, go_sem, ↓reduceIte]
          refine goK_pure (digitsC t (by simp only [Lim]; omega)) ?_
          by_cases hz : run1 t = 0
          · simp (disch := first | omega | assumption) only [hz, go_sem, ↓reduceIte]
            exact hQ _ _ _ _ nofun rfl (by simp [tupOf, envOf, AV.strip, AV.strip1, k0, hz])
          · have hz' : ¬ (run1 t : Int) = 0 := by omega
            simp (disch := first | omega | assumption) only [hz', wrap64, go_sem, ↓reduceIte]
            exact hQ _ _ _ _ nofun rfl (by simp [tupOf, envOf, AV.strip, AV.strip1, k0, hz])
        · simp (disch := first | omega | assumption) only [ir286, h1, h3, h4, hl1, hl2, Int.toNat_one, go_sem, ↓reduceIte]
          refine goK_pure (digitsC t (by simp only [Lim]; omega)) ?_
          by_cases hz : run1 t = 0
          · simp (disch := first | omega | assumption) only [hz, go_sem, ↓reduceIte]
            exact hQ _ _ _ _ nofun rfl (by simp [tupOf, envOf, AV.strip, AV.strip1, k0, hz])
          · have hz' : ¬ (run1 t : Int) = 0 := by omega
            simp (disch := first | omega | assumption) only [hz', wrap64, go_sem, ↓reduceIte]
            exact hQ _ _ _ _ nofun rfl (by simp [tupOf, envOf, AV.strip, AV.strip1, k0, hz])
        · simp (disch := first | omega | assumption) only [ir286, h1, h2, h3, hl1, hl2, Int.toNat_one, go_sem, ↓reduceIte]
          refine goK_pure (digitsC t (by simp only [Lim]; omega)) ?_
          by_cases hz : run1 t = 0
          · simp (disch := first | omega | assumption) only [hz, go_sem, ↓reduceIte]
            exact hQ _ _ _ _ nofun rfl (by simp [tupOf, envOf, AV.strip, AV.strip1, k0, hz])
          · have hz' : ¬ (run1 t : Int) = 0 := by omega
            simp (disch := first | omega | assumption) only [hz', wrap64, go_sem, ↓reduceIte]
            exact hQ _ _ _ _ nofun rfl (by simp [tupOf, envOf, AV.strip, AV.strip1, k0, hz])
        · simp (disch := first | omega | assumption) only [ir286, h1, h2, h3, h4, hl1, hl2, Int.toNat_one, go_sem, ↓reduceIte]
          refine goK_pure (digitsC t (by simp only [Lim]; omega)) ?_
          by_cases hz : run1 t = 0
          · simp (disch := first | omega | assumption) only [hz, go_sem, ↓reduceIte]
            exact hQ _ _ _ _ nofun rfl (by simp [tupOf, envOf, AV.strip, AV.strip1, k0, hz])
          · have hz' : ¬ (run1 t : Int) = 0 := by omega
            simp (disch := first | omega | assumption) only [hz', wrap64, go_sem, ↓reduceIte]
            exact hQ _ _ _ _ nofun rfl (by simp [tupOf, envOf, AV.strip, AV.strip1, k0, hz])
      · have hsg0 : sgN (d :: t) = 0 := by simp only [sgN, List.head?_cons, Option.some.injEq, hsg, if_false]
        have k0 := fin (run1 (d :: t)) (by rw [hsg0]; rfl)
        rw [hsg0] at k0 hdl
        have h3 : ¬ (d.toNat : Int) = 43 := by
          intro hh; rw [decide_eq_true (by exact hh)] at f1
          exact hsg (.inl (by simpa using f1.symm))
        have h4 : ¬ (d.toNat : Int) = 45 := by
          intro hh; rw [decide_eq_true (by exact hh)] at f2
          exact hsg (.inr (by simpa using f2.symm))
        simp only [List.drop_zero, List.length_cons] at hdl
        rcases hcase with h1 | ⟨h1, h2⟩
        · simp (disch := first | omega | assumption) only [ir286, h1, h3, h4, hl1, hl3, Int.toNat_one, go_sem, ↓reduceIte]
          refine goK_pure (digitsC (d :: t) (by simp only [Lim, List.length_cons]; omega)) ?_
          by_cases hz : run1 (d :: t) = 0
          · simp (disch := first | omega | assumption) only [hz, go_sem, ↓reduceIte]
            exact hQ _ _ _ _ nofun rfl (by simp [tupOf, envOf, AV.strip, AV.strip1, k0, hz])
          · have hz' : ¬ (run1 (d :: t) : Int) = 0 := by omega
            simp (disch := first | omega | assumption) only [hz', wrap64, go_sem, ↓reduceIte]
            exact hQ _ _ _ _ nofun rfl (by simp [tupOf, envOf, AV.strip, AV.strip1, k0, hz])
        · simp (disch := first | omega | assumption) only [ir286, h1, h2, h3, h4, hl1, hl3, Int.toNat_one, go_sem, ↓reduceIte]
          refine goK_pure (digitsC (d :: t) (by simp only [Lim, List.length_cons]; omega)) ?_
          by_cases hz : run1 (d :: t) = 0
          · simp (disch := first | omega | assumption) only [hz, go_sem, ↓reduceIte]
            exact hQ _ _ _ _ nofun rfl (by simp [tupOf, envOf, AV.strip, AV.strip1, k0, hz])
          · have hz' : ¬ (run1 (d :: t) : Int) = 0 := by omega
            simp (disch := first | omega | assumption) only [hz', wrap64, go_sem, ↓reduceIte]
            exact hQ _ _ _ _ nofun rfl (by simp [tupOf, envOf, AV.strip, AV.strip1, k0, hz])
end Go.Proofs.YticbbfbpeimkbaaGreatDoor
namespace Go.Proofs.YticbbfbpeimkbaaGreatDoor
open Go.Ab
def fracN (r : List UInt8) : Nat := if r.head? = some 46 ∧ 0 < run1 r.tail then 1 + run1 r.tail else 0
def numN (s : List UInt8) : Nat × Int :=
  if wholeN s = 0 then (0, 0) else
    (wholeN s + fracN (s.drop (wholeN s)) + powN (s.drop (wholeN s + fracN (s.drop (wholeN s)))), if fracN (s.drop (wholeN s)) = 0 ∧ powN (s.drop (wholeN s + fracN (s.drop (wholeN s)))) = 0 then 3 else 4)
theorem fracN_le (r : List UInt8) : fracN r ≤ r.length := by
  unfold fracN
  split
  · rename_i h
    cases r with
    | nil => simp at h
    | cons c t => have := run1_le t; simp only [List.tail_cons, List.length_cons]; omega
  · omega
theorem numberC (s : List UInt8) (hs : s.length ≤ Lim) : Pure Tryz.prog 225 [.str s] (.tup [.int .i64 (numN s).1, .int .i64 (numN s).2]) := by
  refine Pure.go ir225 ck225 (Nat.le_refl _) fun KP Q hQ => ?_
  have hs' := hs
  simp only [Lim] at hs
  simp (disch := first | omega | assumption) only [ir225, go_sem, ↓reduceIte]
  refine goK_pure (wholeC s hs') ?_
  have hw := wholeN_le s
  by_cases h0 : wholeN s = 0
  · simp (disch := first | omega | assumption) only [h0, go_sem, ↓reduceIte]
    exact hQ _ _ _ _ nofun rfl (by simp [tupOf, envOf, AV.strip, AV.strip1, numN, h0])
  have h0' : ¬ ((wholeN s : Int) = 0) := by omega
  have hwl : (wholeN s : Int) ≤ s.length := by omega
  simp (disch := first | omega | assumption) only [h0', hwl, go_sem, ↓reduceIte]
  refine goK_pure (prefixC (s.drop (wholeN s)) [46]) ?_
  rw [prefix1]
  generalize hn : wholeN s = n at *
  have fin : ∀ f p : Nat, fracN (s.drop n) = f → powN (s.drop (n + f)) = p → numN s = (n + f + p, if f = 0 ∧ p = 0 then 3 else 4) := fun f p hf hp => by
    unfold numN
    rw [hn, hf, hp]
    simp only [h0, if_false]
  have hpl := powN_le (s.drop n)
  rw [List.length_drop] at hpl
  by_cases h46 : (s.drop n).head? = some 46
  · obtain ⟨c, t, hct⟩ : ∃ c t, s.drop n = c :: t := by
      cases hx : s.drop n with
      | nil => rw [hx] at h46; simp at h46
      | cons c t => exact ⟨c, t, rfl⟩
    have hlen : s.length = n + 1 + t.length := by have := congrArg List.length hct; simp at this; omega
    have hdr : s.drop (n + 1) = t := by rw [← List.drop_drop, hct]; rfl
    have hto : ((n : Int) + 1).toNat = n + 1 := by omega
    have hn1 : (0 : Int) ≤ (n : Int) + 1 := by omega
    have hn2 : (n : Int) + 1 ≤ s.length := by omega
    have hrl := run1_le t
    simp (disch := first | omega | assumption) only [h46, wrap64, hto, hn1, hn2, hdr, go_sem, ↓reduceIte]
    refine goK_pure (digitsC t (by simp only [Lim]; omega)) ?_
    by_cases hk : (0 : Int) < run1 t
    · have hk' : 0 < run1 t := by omega
      have hfr : fracN (s.drop n) = 1 + run1 t := by unfold fracN; rw [if_pos ⟨h46, by rw [hct]; exact hk'⟩, hct]; rfl
      have hto2 : ((n : Int) + 1 + run1 t).toNat = n + (1 + run1 t) := by omega
      have hn3 : (0 : Int) ≤ (n : Int) + 1 + run1 t := by omega
      have hn4 : (n : Int) + 1 + run1 t ≤ s.length := by omega
      have hpl2 := powN_le (s.drop (n + (1 + run1 t)))
      rw [List.length_drop] at hpl2
      simp (disch := first | omega | assumption) only [hk, wrap64, hto2, hn3, hn4, go_sem, ↓reduceIte]
      refine goK_pure (powerC (s.drop (n + (1 + run1 t))) (by rw [List.length_drop]; simp only [Lim]; omega)) ?_
      have hf := fin _ _ hfr rfl
      generalize hp : powN (s.drop (n + (1 + run1 t))) = p at *
      by_cases hp0 : (0 : Int) < p
      · simp (disch := first | omega | assumption) only [hp0, wrap64, go_sem, ↓reduceIte]
        exact hQ _ _ _ _ nofun rfl (by simp [tupOf, envOf, AV.strip, AV.strip1, hf, Int.add_assoc])
      · have hp00 : p = 0 := by omega
        subst hp00
        simp (disch := first | omega | assumption) only [go_sem, ↓reduceIte]
        exact hQ _ _ _ _ nofun rfl (by simp [tupOf, envOf, AV.strip, AV.strip1, hf, Int.add_assoc])
    · have hk0 : run1 t = 0 := by omega
      have hfr : fracN (s.drop n) = 0 := by unfold fracN; exact if_neg fun hh => by have := hh.2; rw [hct] at this; simp only [List.tail_cons] at this; omega
      simp (disch := first | omega | assumption) only [hk, hwl, go_sem, ↓reduceIte]
      refine goK_pure (powerC (s.drop n) (by rw [List.length_drop]; simp only [Lim]; omega)) ?_
      have hf := fin _ _ hfr rfl
      rw [Nat.add_zero] at hf
      generalize hp : powN (s.drop n) = p at *
      by_cases hp0 : (0 : Int) < p
      · have hp1 : ¬ p = 0 := by omega
        simp (disch := first | omega | assumption) only [hp0, wrap64, go_sem, ↓reduceIte]
        exact hQ _ _ _ _ nofun rfl (by simp [tupOf, envOf, AV.strip, AV.strip1, hf, hp1])
      · have hp00 : p = 0 := by omega
        subst hp00
        simp (disch := first | omega | assumption) only [go_sem, ↓reduceIte]
        exact hQ _ _ _ _ nofun rfl (by simp [tupOf, envOf, AV.strip, AV.strip1, hf])
  · have hfr : fracN (s.drop n) = 0 := by unfold fracN; exact if_neg fun hh => h46 hh.1
    simp (disch := first | omega | assumption) only [h46, hwl, go_sem, ↓reduceIte]
    refine goK_pure (powerC (s.drop n) (by rw [List.length_drop]; simp only [Lim]; omega)) ?_
    have hf := fin _ _ hfr rfl
    rw [Nat.add_zero] at hf
    generalize hp : powN (s.drop n) = p at *
    by_cases hp0 : (0 : Int) < p
    · have hp1 : ¬ p = 0 := by omega
      simp (disch := first | omega | assumption) only [hp0, wrap64, go_sem, ↓reduceIte]
      exact hQ _ _ _ _ nofun rfl (by simp [tupOf, envOf, AV.strip, AV.strip1, hf, hp1])
    · have hp00 : p = 0 := by omega
      subst hp00
      simp (disch := first | omega | assumption) only [go_sem, ↓reduceIte]
      exact hQ _ _ _ _ nofun rfl (by simp [tupOf, envOf, AV.strip, AV.strip1, hf])
def numK (s : List UInt8) : Int := if (numN s).1 = s.length then (numN s).2 else 0
theorem NumberC (s : List UInt8) (hs : s.length ≤ Lim) : Pure Tryz.prog 207 [.str s] (.int .i64 (numK s)) := by
  refine Pure.go ir207 ck207 (Nat.le_refl _) fun KP Q hQ => ?_
  simp (disch := first | omega | assumption) only [ir207, go_sem, ↓reduceIte]
  refine goK_pure (numberC s hs) ?_
  by_cases h : (numN s).1 = s.length
  · have h' : (((numN s).1 : Int) = s.length) = True := eq_true (by omega)
    simp (disch := first | omega | assumption) only [h', go_sem, ↓reduceIte]
    exact hQ _ _ _ _ nofun rfl (by simp [tupOf, envOf, AV.strip, AV.strip1, numK, h])
  · have h' : ¬ ((numN s).1 : Int) = s.length := by omega
    simp (disch := first | omega | assumption) only [h', go_sem, ↓reduceIte]
    exact hQ _ _ _ _ nofun rfl (by simp [tupOf, envOf, AV.strip, AV.strip1, numK, h])
def okI : Lib.NumEnd Int → Bool
  | .ok _ => true
  | _ => false
def valI (s : List UInt8) : Int := match Lib.parseIntB 64 s with
  | .ok v => v
  | Lib.NumEnd.syntax => 0
  | .range => Lib.intSat 64 s
def wholeB (s : List UInt8) : Bool := okI (Lib.parseIntB 64 s) && decide (numK s = 3)
theorem WholeC (s : List UInt8) (hs : s.length ≤ Lim) : Pure Tryz.prog 176 [.str s] (.tup [.int .i64 (valI s), .bool (wholeB s)]) := by
  refine Pure.go ir176 ck176 (Nat.le_refl _) fun KP Q hQ => ?_
  simp (disch := first | omega | assumption) only [ir176, go_sem, ↓reduceIte]
  refine goK_pure (parseIntC s (by simp only [Lim] at hs; omega)) ?_
  rcases hp : Lib.parseIntB 64 s with v | _ | _
  · simp (disch := first | omega | assumption) only [parseA, hp, go_sem, ↓reduceIte]
    refine goK_pure (NumberC s hs) ?_
    simp (disch := first | omega | assumption) only [go_sem, ↓reduceIte]
    exact hQ _ _ _ _ nofun rfl (by simp [tupOf, envOf, AV.strip, AV.strip1, valI, wholeB, hp, okI])
  · simp (disch := first | omega | assumption) only [parseA, hp, go_sem, ↓reduceIte]
    exact hQ _ _ _ _ nofun rfl (by simp [tupOf, envOf, AV.strip, AV.strip1, valI, wholeB, hp, okI])
  · simp (disch := first | omega | assumption) only [parseA, hp, go_sem, ↓reduceIte]
    exact hQ _ _ _ _ nofun rfl (by simp [tupOf, envOf, AV.strip, AV.strip1, valI, wholeB, hp, okI])
def numB (s : List UInt8) : Bool := decide (numK s = 4) || (decide (numK s = 3) && !wholeB s)
theorem numC (s : List UInt8) (hs : s.length ≤ Lim) : Pure Tryz.prog 309 [.str s] (.bool (numB s)) := by
  refine Pure.go ir309 ck309 (Nat.le_refl _) fun KP Q hQ => ?_
  simp (disch := first | omega | assumption) only [ir309, go_sem, ↓reduceIte]
  refine goK_pure (NumberC s hs) ?_
  simp (disch := first | omega | assumption) only [go_sem, ↓reduceIte]
  refine goK_pure (WholeC s hs) ?_
  by_cases h4 : numK s = 4
  · simp (disch := first | omega | assumption) only [h4, go_sem, ↓reduceIte]
    exact hQ _ _ _ _ nofun rfl (by simp [tupOf, envOf, AV.strip, AV.strip1, numB, h4])
  · by_cases h3 : numK s = 3
    · simp (disch := first | omega | assumption) only [h4, h3, go_sem, ↓reduceIte]
      exact hQ _ _ _ _ nofun rfl (by simp [tupOf, envOf, AV.strip, AV.strip1, numB, h4, h3])
    · simp (disch := first | omega | assumption) only [h4, h3, go_sem, ↓reduceIte]
      exact hQ _ _ _ _ nofun rfl (by simp [tupOf, envOf, AV.strip, AV.strip1, numB, h4, h3])
def resB (s : List UInt8) : Bool := decide (s = [116, 114, 117, 101]) || (decide (s = [102, 97, 108, 115, 101]) || decide (s = [110, 117, 108, 108]))
theorem resC (s : List UInt8) : Pure Tryz.prog 310 [.str s] (.bool (resB s)) := by
  refine Pure.go ir310 ck310 (Nat.le_refl _) fun KP Q hQ => ?_
  by_cases h1 : s = [116, 114, 117, 101]
  · simp (disch := first | omega | assumption) only [ir310, h1, go_sem, ↓reduceIte]
    exact hQ _ _ _ _ nofun rfl (by simp [tupOf, envOf, AV.strip, AV.strip1, resB, h1])
  · by_cases h2 : s = [102, 97, 108, 115, 101]
    · subst h2
      have h3 : ¬ ([102, 97, 108, 115, 101] : List UInt8) = [116, 114, 117, 101] := by decide
      simp (disch := first | omega | assumption) only [ir310, h3, go_sem, ↓reduceIte]
      exact hQ _ _ _ _ nofun rfl (by simp [tupOf, envOf, AV.strip, AV.strip1, resB, h3])
    · simp (disch := first | omega | assumption) only [ir310, h1, h2, go_sem, ↓reduceIte]
      exact hQ _ _ _ _ nofun rfl (by simp [tupOf, envOf, AV.strip, AV.strip1, resB, h1, h2])
theorem goodC (s : List UInt8) (hs : s.length ≤ Lim) : Pure Tryz.prog 202 [.str s] (.bool (Lib.validD s)) := by
  refine Pure.go ir202 ck202 (Nat.le_refl _) fun KP Q hQ => ?_
  simp (disch := first | omega | assumption) only [ir202, go_sem, ↓reduceIte]
  refine goK_pure (validC s (by simp only [Lim] at hs; omega)) ?_
  simp (disch := first | omega | assumption) only [go_sem, ↓reduceIte]
  exact hQ _ _ _ _ nofun rfl (by simp [tupOf, envOf, AV.strip, AV.strip1])
def bareM (n : Int) (s : List UInt8) (l : List Val) (m : List Mem) : Bool := decide (n = 0) && (decide (s = []) && (decide (l.length = 0) && decide (m.length = 0)))
theorem bareC (k n : Int) (s : List UInt8) (l : List Val) (m : List Mem) : Pure Tryz.prog 267 [.agg (cV (.mk k n s l m))] (.bool (bareM n s l m)) := by
  refine Pure.go ir267 ck267 (Nat.le_refl _) fun KP Q hQ => ?_
  have h1 := cVs_len l
  have h2 := cMs_len m
  by_cases g1 : n = 0
  case neg =>
    simp (disch := first | omega | assumption) only [ir267, cV_mk, g1, go_sem, ↓reduceIte]
    exact hQ _ _ _ _ nofun rfl (by simp [tupOf, envOf, AV.strip, AV.strip1, bareM, g1])
  by_cases g2 : s = []
  case neg =>
    simp (disch := first | omega | assumption) only [ir267, cV_mk, g1, g2, go_sem, ↓reduceIte]
    exact hQ _ _ _ _ nofun rfl (by simp [tupOf, envOf, AV.strip, AV.strip1, bareM, g2])
  by_cases g3 : l.length = 0
  case neg =>
    simp (disch := first | omega | assumption) only [ir267, cV_mk, g1, g2, h1, g3, go_sem, ↓reduceIte]
    exact hQ _ _ _ _ nofun rfl (by simp [tupOf, envOf, AV.strip, AV.strip1, bareM, g3])
  have e : decide ((m.length : Int) = 0) = decide (m.length = 0) := by rw [decide_eq_decide]; omega
  simp (disch := first | omega | assumption) only [ir267, cV_mk, g1, g2, h1, h2, g3, go_sem, ↓reduceIte]
  exact hQ _ _ _ _ nofun rfl (by simp [tupOf, envOf, AV.strip, AV.strip1, bareM, g1, g2, g3, e])
def singleM (k n : Int) (s : List UInt8) (l : List Val) (m : List Mem) : Bool :=
  bareM 0 [] l m && (if k = 0 then decide (n = 0) && decide (s = []) else if k = 1 then (decide (n = 0) || decide (n = 1)) && decide (s = []) else if k = 2 then decide (s = [])
    else if k = 3 then decide (n = 0) && numB s else if k = 4 then decide (n = 0) && Lib.validD s else if k = 5 then decide (n = 0) && (nameM s && !resB s) else if k = 8 then decide (n = 0) && nameM s else false)
theorem singleC (k n : Int) (s : List UInt8) (l : List Val) (m : List Mem) (hs : s.length ≤ Lim) : Pure Tryz.prog 266 [.agg (cV (.mk k n s l m))] (.bool (singleM k n s l m)) := by
  refine Pure.go ir266 ck266 (Nat.le_refl _) fun KP Q hQ => ?_
  simp (disch := first | omega | assumption) only [ir266, cV_mk, go_sem, ↓reduceIte]
  refine goA_intro fun b hb => ?_
  simp (disch := first | omega | assumption) only [go_sem, ↓reduceIte]
  refine goK_pure (bareC k 0 [] l m) ?_
  cases hb : bareM 0 [] l m with
  | false =>
    simp (disch := first | omega | assumption) only [hb, go_sem, ↓reduceIte]
    exact hQ _ _ _ _ nofun rfl (by simp [tupOf, envOf, AV.strip, AV.strip1, singleM, hb])
  | true =>
    by_cases k0 : k = 0
    · by_cases n0 : n = 0
      · simp (disch := first | omega | assumption) only [hb, k0, n0, go_sem, ↓reduceIte]
        exact hQ _ _ _ _ nofun rfl (by simp [tupOf, envOf, AV.strip, AV.strip1, singleM, hb, k0, n0])
      · simp (disch := first | omega | assumption) only [hb, k0, n0, go_sem, ↓reduceIte]
        exact hQ _ _ _ _ nofun rfl (by simp [tupOf, envOf, AV.strip, AV.strip1, singleM, hb, k0, n0])
    by_cases k1 : k = 1
    · by_cases n0 : n = 0
      · simp (disch := first | omega | assumption) only [hb, k0, k1, n0, go_sem, ↓reduceIte]
        exact hQ _ _ _ _ nofun rfl (by simp [tupOf, envOf, AV.strip, AV.strip1, singleM, hb, k1, n0])
      · by_cases n1 : n = 1
        · simp (disch := first | omega | assumption) only [hb, k0, k1, n0, n1, go_sem, ↓reduceIte]
          exact hQ _ _ _ _ nofun rfl (by simp [tupOf, envOf, AV.strip, AV.strip1, singleM, hb, k1, n1])
        · simp (disch := first | omega | assumption) only [hb, k0, k1, n0, n1, go_sem, ↓reduceIte]
          exact hQ _ _ _ _ nofun rfl (by simp [tupOf, envOf, AV.strip, AV.strip1, singleM, hb, k1, n0, n1])
    by_cases k2 : k = 2
    · simp (disch := first | omega | assumption) only [hb, k0, k1, k2, go_sem, ↓reduceIte]
      exact hQ _ _ _ _ nofun rfl (by simp [tupOf, envOf, AV.strip, AV.strip1, singleM, hb, k2])
    by_cases k3 : k = 3
    · by_cases n0 : n = 0
      · simp (disch := first | omega | assumption) only [hb, k0, k1, k2, k3, n0, go_sem, ↓reduceIte]
        refine goK_pure (numC s hs) ?_
        simp (disch := first | omega | assumption) only [go_sem, ↓reduceIte]
        exact hQ _ _ _ _ nofun rfl (by simp [tupOf, envOf, AV.strip, AV.strip1, singleM, hb, k3, n0])
      · simp (disch := first | omega | assumption) only [hb, k0, k1, k2, k3, n0, go_sem, ↓reduceIte]
        exact hQ _ _ _ _ nofun rfl (by simp [tupOf, envOf, AV.strip, AV.strip1, singleM, hb, k3, n0])
    by_cases k4 : k = 4
    · by_cases n0 : n = 0
      · simp (disch := first | omega | assumption) only [hb, k0, k1, k2, k3, k4, n0, go_sem, ↓reduceIte]
        refine goK_pure (goodC s hs) ?_
        simp (disch := first | omega | assumption) only [go_sem, ↓reduceIte]
        exact hQ _ _ _ _ nofun rfl (by simp [tupOf, envOf, AV.strip, AV.strip1, singleM, hb, k4, n0])
      · simp (disch := first | omega | assumption) only [hb, k0, k1, k2, k3, k4, n0, go_sem, ↓reduceIte]
        exact hQ _ _ _ _ nofun rfl (by simp [tupOf, envOf, AV.strip, AV.strip1, singleM, hb, k4, n0])
    by_cases k5 : k = 5
    · by_cases n0 : n = 0
      · simp (disch := first | omega | assumption) only [hb, k0, k1, k2, k3, k4, k5, n0, go_sem, ↓reduceIte]
        refine goK_pure (nameC s hs) ?_
        cases hn : nameM s with
        | true =>
          simp (disch := first | omega | assumption) only [hn, go_sem, ↓reduceIte]
          refine goK_pure (resC s) ?_
          simp (disch := first | omega | assumption) only [go_sem, ↓reduceIte]
          exact hQ _ _ _ _ nofun rfl (by simp [tupOf, envOf, AV.strip, AV.strip1, singleM, hb, k5, n0, hn])
        | false =>
          simp (disch := first | omega | assumption) only [hn, go_sem, ↓reduceIte]
          exact hQ _ _ _ _ nofun rfl (by simp [tupOf, envOf, AV.strip, AV.strip1, singleM, hb, k5, n0, hn])
      · simp (disch := first | omega | assumption) only [hb, k0, k1, k2, k3, k4, k5, n0, go_sem, ↓reduceIte]
        exact hQ _ _ _ _ nofun rfl (by simp [tupOf, envOf, AV.strip, AV.strip1, singleM, hb, k5, n0])
    by_cases k8 : k = 8
    · by_cases n0 : n = 0
      · simp (disch := first | omega | assumption) only [hb, k0, k1, k2, k3, k4, k5, k8, n0, go_sem, ↓reduceIte]
        refine goK_pure (nameC s hs) ?_
        simp (disch := first | omega | assumption) only [go_sem, ↓reduceIte]
        exact hQ _ _ _ _ nofun rfl (by simp [tupOf, envOf, AV.strip, AV.strip1, singleM, hb, k8, n0])
      · simp (disch := first | omega | assumption) only [hb, k0, k1, k2, k3, k4, k5, k8, n0, go_sem, ↓reduceIte]
        exact hQ _ _ _ _ nofun rfl (by simp [tupOf, envOf, AV.strip, AV.strip1, singleM, hb, k8, n0])
    · simp (disch := first | omega | assumption) only [hb, k0, k1, k2, k3, k4, k5, k8, go_sem, ↓reduceIte]
      exact hQ _ _ _ _ nofun rfl (by simp [tupOf, envOf, AV.strip, AV.strip1, singleM, hb, k0, k1, k2, k3, k4, k5, k8])
end Go.Proofs.YticbbfbpeimkbaaGreatDoor
