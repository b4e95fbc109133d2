/- Texts joined: Shelf Lib Ir Dat Val ValB Sam ValC ValD Sep LibB Num. -/
import Derived.Shelf.Strings.Builder1
import Derived.Shelf.Strings.Builder2
import Derived.Shelf.Strings.OnBuilder
import Derived.Shelf.Small.Utf8
import Derived.Shelf.Small.Strs
import Derived.Shelf.Small.Wraps
import Derived.Shelf.Strings.BuilderF
import Derived.Shelf.Strings.BuilderK
import Derived.Shelf.Utf8.AppendRune
import Derived.Shelf.Strconv.Itoa0
import Derived.Shelf.Strconv.Itoa1
import Derived.Shelf.LaysM
import Derived.Shelf.Strconv.Itoa2
import Derived.Shelf.Strconv.Itoa3
import Derived.Shelf.Strconv.Itoa4
import Derived.Shelf.Strconv.ParseIntEmpty
import Derived.Shelf.Strconv.Clone
import Derived.Shelf.Strconv.SyntaxError
import Derived.Shelf.LaysC
import Derived.Shelf.Strconv.ToError
import Derived.Shelf.Strconv.Lower
import Derived.Shelf.Strconv.ParseUint10
import Derived.Shelf.Strconv.ParseUint10Empty
import Derived.Shelf.Strconv.ParseUint10Any
import Derived.Shelf.Strconv.ParseInt10
import Derived.Shelf.Strconv.RangeError
import Derived.Shelf.Strconv.ToErrorRange
import Derived.Shelf.Strconv.ParseUintEmpty
import Derived.Shelf.Strconv.ParseUint10b64
import Derived.Shelf.Strconv.ParseUint10b32
import Derived.Shelf.Strconv.ParseUint10b16
import Derived.Shelf.Strconv.ParseUint10b8
import Derived.Shelf.Strconv.ParseUint10At
import Derived.Shelf.Strconv.ParseInt10At64
import Derived.Shelf.Strconv.ParseInt10At32
import Derived.Shelf.Strconv.ParseInt10At16
import Derived.Shelf.Strconv.ParseInt10At8
import Derived.Shelf.Strconv.ParseInt10All
import Derived.Shelf.Strconv.ParseIntPublic10
import Derived.Shelf.Strconv.ErrVarParseInt
import Derived.Shelf.Strings.Search1
import Derived.Shelf.Strings.Search2
import Derived.Shelf.Strings.Search3
import Derived.Shelf.Strings.Shaped
import Derived.Shelf.Strconv.AppendUint10
import Derived.Shelf.Strconv.AppendInt10
import Derived.Shelf.Strconv.AppendIntPublic10
import Derived.Shelf.Strings.Prefix
import Derived.Shelf.Unicode.Decode
import Derived.Shelf.Strings.Runes
import Derived.Shelf.Strings.IndexAny
import Derived.Shelf.Strings.AsciiSet
import Derived.Shelf.Strings.IndexAnyAll
import Derived.Shelf.Unicode.DecodeSlow
import Derived.Shelf.Unicode.DecodeAny
import Derived.Test.YtpjafglhdlfnbaaGreatDoorProg
import Derived.Shelf.Unicode.ValidAny
import Derived.Test.YtpjafglhdlfnbaaGreatDoorRows
import Derived.Lib.ItoaMem
import Derived.Lib.ItoaLen
import Derived.Test.YtpjafglhdlfnbaaGreatDoorM1
import Derived.Test.YtpjafglhdlfnbaaGreatDoorM2
set_option maxRecDepth 100000
set_option linter.unusedSimpArgs false
set_option linter.unusedVariables false
namespace Go.Proofs
open Go.Shelf
def Tryz.lays137_ren : Go.Shelf.Ren := ⟨fun | 137 => 68 | 217 => 114 | 266 => 146 | n => n, fun | 9 => 9 | 5 => 5 | 3 => 3 | n => n, fun | n => n⟩
theorem Tryz.lays137 : Go.Proofs.Lays.n137 Tryz.prog Tryz.lays137_ren := {
  mixed := by kernel_rfl
  f137 := Tryz.func68.trans (congrArg some (by kernel_rfl))
  f217 := Tryz.func114.trans (congrArg some (by kernel_rfl))
  f266 := Tryz.func146.trans (congrArg some (by kernel_rfl))
  t3 := Tryz.underlying3
  a3 := Tryz.isAgg3
  z3 := Tryz.sizeOf3
  v3 := Tryz.zeroValue3
  t5 := Tryz.underlying5
  a5 := Tryz.isAgg5
  z5 := Tryz.sizeOf5
  v5 := Tryz.zeroValue5
  t9 := Tryz.underlying9
  a9 := Tryz.isAgg9
  z9 := Tryz.sizeOf9
  v9 := Tryz.zeroValue9 }
def Tryz.lays283_ren : Go.Shelf.Ren := ⟨fun | 283 => 155 | n => n, fun | 3 => 3 | 9 => 9 | 4 => 4 | n => n, fun | n => n⟩
theorem Tryz.lays283 : Go.Proofs.Lays.n283 Tryz.prog Tryz.lays283_ren := {
  mixed := by kernel_rfl
  f283 := Tryz.func155.trans (congrArg some (by kernel_rfl))
  t3 := Tryz.underlying3
  a3 := Tryz.isAgg3
  z3 := Tryz.sizeOf3
  v3 := Tryz.zeroValue3
  t4 := Tryz.underlying4
  a4 := Tryz.isAgg4
  z4 := Tryz.sizeOf4
  v4 := Tryz.zeroValue4
  t9 := Tryz.underlying9
  a9 := Tryz.isAgg9
  z9 := Tryz.sizeOf9
  v9 := Tryz.zeroValue9 }
def Tryz.laysM284_ren : Go.Shelf.Ren := ⟨fun | 284 => 156 | 129 => 174 | 317 => 173 | 318 => 175 | n => n, fun | 53 => 143 | 3 => 3 | 212 => 168 | 0 => 0 | 4 => 4 | 46 => 126 | 5 => 5 | 9 => 9 | n => n, fun | 17 => 3 | n => n⟩
theorem Tryz.laysM284 : Go.Proofs.LaysM.n284 Tryz.prog Tryz.laysM284_ren := {
  mixed := by kernel_rfl
  f129 := Tryz.func174.trans (congrArg some (by kernel_rfl))
  f284 := Tryz.func156.trans (congrArg some (by kernel_rfl))
  f317 := Tryz.func173.trans (congrArg some (by kernel_rfl))
  f318 := Tryz.func175.trans (congrArg some (by kernel_rfl))
  t0 := Tryz.underlying0
  a0 := Tryz.isAgg0
  z0 := Tryz.sizeOf0
  v0 := Tryz.zeroValue0
  t3 := Tryz.underlying3
  a3 := Tryz.isAgg3
  z3 := Tryz.sizeOf3
  v3 := Tryz.zeroValue3
  t4 := Tryz.underlying4
  a4 := Tryz.isAgg4
  z4 := Tryz.sizeOf4
  v4 := Tryz.zeroValue4
  t5 := Tryz.underlying5
  a5 := Tryz.isAgg5
  z5 := Tryz.sizeOf5
  v5 := Tryz.zeroValue5
  t9 := Tryz.underlying9
  a9 := Tryz.isAgg9
  z9 := Tryz.sizeOf9
  v9 := Tryz.zeroValue9
  t46 := Tryz.underlying126
  a46 := Tryz.isAgg126
  z46 := Tryz.sizeOf126
  v46 := Tryz.zeroValue126
  t53 := Tryz.underlying143
  a53 := Tryz.isAgg143
  z53 := Tryz.sizeOf143
  v53 := Tryz.zeroValue143
  t212 := Tryz.underlying168
  a212 := Tryz.isAgg168
  z212 := Tryz.sizeOf168
  v212 := Tryz.zeroValue168
  g17 := by kernel_rfl
  i0 := by kernel_rfl
  i3 := by kernel_rfl
  i4 := by kernel_rfl
  i5 := by kernel_rfl
  i9 := by kernel_rfl
  i46 := by kernel_rfl
  i53 := by kernel_rfl
  i212 := by kernel_rfl
  m17 := by kernel_rfl }
def Tryz.lays285_ren : Go.Shelf.Ren := ⟨fun | 285 => 157 | n => n, fun | 37 => 66 | 53 => 143 | 3 => 3 | 4 => 4 | 51 => 169 | 9 => 9 | 5 => 5 | 0 => 0 | n => n, fun | n => n⟩
theorem Tryz.lays285 : Go.Proofs.Lays.n285 Tryz.prog Tryz.lays285_ren := {
  mixed := by kernel_rfl
  f285 := Tryz.func157.trans (congrArg some (by kernel_rfl))
  t0 := Tryz.underlying0
  a0 := Tryz.isAgg0
  z0 := Tryz.sizeOf0
  v0 := Tryz.zeroValue0
  t3 := Tryz.underlying3
  a3 := Tryz.isAgg3
  z3 := Tryz.sizeOf3
  v3 := Tryz.zeroValue3
  t4 := Tryz.underlying4
  a4 := Tryz.isAgg4
  z4 := Tryz.sizeOf4
  v4 := Tryz.zeroValue4
  t5 := Tryz.underlying5
  a5 := Tryz.isAgg5
  z5 := Tryz.sizeOf5
  v5 := Tryz.zeroValue5
  t9 := Tryz.underlying9
  a9 := Tryz.isAgg9
  z9 := Tryz.sizeOf9
  v9 := Tryz.zeroValue9
  t37 := Tryz.underlying66
  a37 := Tryz.isAgg66
  z37 := Tryz.sizeOf66
  v37 := Tryz.zeroValue66
  t51 := Tryz.underlying169
  a51 := Tryz.isAgg169
  z51 := Tryz.sizeOf169
  v51 := Tryz.zeroValue169
  t53 := Tryz.underlying143
  a53 := Tryz.isAgg143
  z53 := Tryz.sizeOf143
  v53 := Tryz.zeroValue143 }
def Tryz.laysC174_ren : Go.Shelf.Ren := ⟨fun | 174 => 145 | 247 => 171 | 245 => 172 | 287 => 181 | 279 => 182 | 280 => 183 | 281 => 184 | 282 => 185 | 321 => 189 | 322 => 190 | 316 => 191 | 171 => 193 | 205 => 192 | 243 => 194 | 246 => 129 | 283 => 155 | 284 => 156 | 285 => 157 | 286 => 158 | 129 => 174 | 317 => 173 | 318 => 175 | 319 => 176 | 320 => 177 | 337 => 186 | 338 => 187 | n => n, fun | 9 => 9 | 3 => 3 | 2 => 2 | 75 => 111 | 85 => 144 | 4 => 4 | 167 => 175 | 5 => 5 | 53 => 143 | 175 => 176 | 46 => 126 | 168 => 178 | 37 => 66 | 0 => 0 | 210 => 184 | 21 => 21 | 127 => 134 | 145 => 190 | 143 => 188 | 171 => 150 | 173 => 153 | 212 => 168 | 51 => 169 | 20 => 20 | 213 => 170 | 232 => 186 | 233 => 187 | 80 => 83 | n => n, fun | 15 => 4 | 16 => 5 | 17 => 3 | 18 => 6 | 19 => 7 | n => n⟩
theorem Tryz.laysC174 : Go.Proofs.LaysC.n174 Tryz.prog Tryz.laysC174_ren := {
  mixed := by kernel_rfl
  f129 := Tryz.func174.trans (congrArg some (by kernel_rfl))
  f171 := Tryz.func193.trans (congrArg some (by kernel_rfl))
  f174 := Tryz.func145.trans (congrArg some (by kernel_rfl))
  f205 := Tryz.func192.trans (congrArg some (by kernel_rfl))
  f243 := Tryz.func194.trans (congrArg some (by kernel_rfl))
  f245 := Tryz.func172.trans (congrArg some (by kernel_rfl))
  f246 := Tryz.func129.trans (congrArg some (by kernel_rfl))
  f247 := Tryz.func171.trans (congrArg some (by kernel_rfl))
  f279 := Tryz.func182.trans (congrArg some (by kernel_rfl))
  f280 := Tryz.func183.trans (congrArg some (by kernel_rfl))
  f281 := Tryz.func184.trans (congrArg some (by kernel_rfl))
  f282 := Tryz.func185.trans (congrArg some (by kernel_rfl))
  f283 := Tryz.func155.trans (congrArg some (by kernel_rfl))
  f284 := Tryz.func156.trans (congrArg some (by kernel_rfl))
  f285 := Tryz.func157.trans (congrArg some (by kernel_rfl))
  f286 := Tryz.func158.trans (congrArg some (by kernel_rfl))
  f287 := Tryz.func181.trans (congrArg some (by kernel_rfl))
  f316 := Tryz.func191.trans (congrArg some (by kernel_rfl))
  f317 := Tryz.func173.trans (congrArg some (by kernel_rfl))
  f318 := Tryz.func175.trans (congrArg some (by kernel_rfl))
  f319 := Tryz.func176.trans (congrArg some (by kernel_rfl))
  f320 := Tryz.func177.trans (congrArg some (by kernel_rfl))
  f321 := Tryz.func189.trans (congrArg some (by kernel_rfl))
  f322 := Tryz.func190.trans (congrArg some (by kernel_rfl))
  f337 := Tryz.func186.trans (congrArg some (by kernel_rfl))
  f338 := Tryz.func187.trans (congrArg some (by kernel_rfl))
  t0 := Tryz.underlying0
  a0 := Tryz.isAgg0
  z0 := Tryz.sizeOf0
  v0 := Tryz.zeroValue0
  t2 := Tryz.underlying2
  a2 := Tryz.isAgg2
  z2 := Tryz.sizeOf2
  v2 := Tryz.zeroValue2
  t3 := Tryz.underlying3
  a3 := Tryz.isAgg3
  z3 := Tryz.sizeOf3
  v3 := Tryz.zeroValue3
  t4 := Tryz.underlying4
  a4 := Tryz.isAgg4
  z4 := Tryz.sizeOf4
  v4 := Tryz.zeroValue4
  t5 := Tryz.underlying5
  a5 := Tryz.isAgg5
  z5 := Tryz.sizeOf5
  v5 := Tryz.zeroValue5
  t9 := Tryz.underlying9
  a9 := Tryz.isAgg9
  z9 := Tryz.sizeOf9
  v9 := Tryz.zeroValue9
  t20 := Tryz.underlying20
  a20 := Tryz.isAgg20
  z20 := Tryz.sizeOf20
  v20 := Tryz.zeroValue20
  t21 := Tryz.underlying21
  a21 := Tryz.isAgg21
  z21 := Tryz.sizeOf21
  v21 := Tryz.zeroValue21
  t37 := Tryz.underlying66
  a37 := Tryz.isAgg66
  z37 := Tryz.sizeOf66
  v37 := Tryz.zeroValue66
  t46 := Tryz.underlying126
  a46 := Tryz.isAgg126
  z46 := Tryz.sizeOf126
  v46 := Tryz.zeroValue126
  t51 := Tryz.underlying169
  a51 := Tryz.isAgg169
  z51 := Tryz.sizeOf169
  v51 := Tryz.zeroValue169
  t53 := Tryz.underlying143
  a53 := Tryz.isAgg143
  z53 := Tryz.sizeOf143
  v53 := Tryz.zeroValue143
  t75 := Tryz.underlying111
  a75 := Tryz.isAgg111
  z75 := Tryz.sizeOf111
  v75 := Tryz.zeroValue111
  t85 := Tryz.underlying144
  a85 := Tryz.isAgg144
  z85 := Tryz.sizeOf144
  v85 := Tryz.zeroValue144
  t127 := Tryz.underlying134
  a127 := Tryz.isAgg134
  z127 := Tryz.sizeOf134
  v127 := Tryz.zeroValue134
  t143 := Tryz.underlying188
  a143 := Tryz.isAgg188
  z143 := Tryz.sizeOf188
  v143 := Tryz.zeroValue188
  t145 := Tryz.underlying190
  a145 := Tryz.isAgg190
  z145 := Tryz.sizeOf190
  v145 := Tryz.zeroValue190
  t167 := Tryz.underlying175
  a167 := Tryz.isAgg175
  z167 := Tryz.sizeOf175
  v167 := Tryz.zeroValue175
  t168 := Tryz.underlying178
  a168 := Tryz.isAgg178
  z168 := Tryz.sizeOf178
  v168 := Tryz.zeroValue178
  t171 := Tryz.underlying150
  a171 := Tryz.isAgg150
  z171 := Tryz.sizeOf150
  v171 := Tryz.zeroValue150
  t173 := Tryz.underlying153
  a173 := Tryz.isAgg153
  z173 := Tryz.sizeOf153
  v173 := Tryz.zeroValue153
  t175 := Tryz.underlying176
  a175 := Tryz.isAgg176
  z175 := Tryz.sizeOf176
  v175 := Tryz.zeroValue176
  t210 := Tryz.underlying184
  a210 := Tryz.isAgg184
  z210 := Tryz.sizeOf184
  v210 := Tryz.zeroValue184
  t212 := Tryz.underlying168
  a212 := Tryz.isAgg168
  z212 := Tryz.sizeOf168
  v212 := Tryz.zeroValue168
  t213 := Tryz.underlying170
  a213 := Tryz.isAgg170
  z213 := Tryz.sizeOf170
  t232 := Tryz.underlying186
  a232 := Tryz.isAgg186
  z232 := Tryz.sizeOf186
  v232 := Tryz.zeroValue186
  t233 := Tryz.underlying187
  a233 := Tryz.isAgg187
  z233 := Tryz.sizeOf187
  v233 := Tryz.zeroValue187
  g15 := by kernel_rfl
  g16 := by kernel_rfl
  g17 := by kernel_rfl
  g18 := by kernel_rfl
  g19 := by kernel_rfl
  t80 := Tryz.underlying83
  a80 := Tryz.isAgg83
  z80 := Tryz.sizeOf83
  v80 := Tryz.zeroValue83
  i0 := by kernel_rfl
  i2 := by kernel_rfl
  i3 := by kernel_rfl
  i4 := by kernel_rfl
  i5 := by kernel_rfl
  i9 := by kernel_rfl
  i20 := by kernel_rfl
  i21 := by kernel_rfl
  i37 := by kernel_rfl
  i46 := by kernel_rfl
  i51 := by kernel_rfl
  i53 := by kernel_rfl
  i75 := by kernel_rfl
  i80 := by kernel_rfl
  i85 := by kernel_rfl
  i127 := by kernel_rfl
  i143 := by kernel_rfl
  i145 := by kernel_rfl
  i167 := by kernel_rfl
  i168 := by kernel_rfl
  i171 := by kernel_rfl
  i173 := by kernel_rfl
  i175 := by kernel_rfl
  i210 := by kernel_rfl
  i212 := by kernel_rfl
  i232 := by kernel_rfl
  i233 := by kernel_rfl
  m15 := by kernel_rfl
  m16 := by kernel_rfl
  m17 := by kernel_rfl
  m18 := by kernel_rfl
  m19 := by kernel_rfl
  c0 := by kernel_rfl
  c2 := by kernel_rfl
  c3 := by kernel_rfl
  c4 := by kernel_rfl
  c5 := by kernel_rfl
  c9 := by kernel_rfl
  c20 := by kernel_rfl
  c21 := by kernel_rfl
  c37 := by kernel_rfl
  c46 := by kernel_rfl
  c51 := by kernel_rfl
  c53 := by kernel_rfl
  c75 := by kernel_rfl
  c80 := by kernel_rfl
  c85 := by kernel_rfl
  c127 := by kernel_rfl
  c143 := by kernel_rfl
  c145 := by kernel_rfl
  c167 := by kernel_rfl
  c168 := by kernel_rfl
  c171 := by kernel_rfl
  c173 := by kernel_rfl
  c175 := by kernel_rfl
  c210 := by kernel_rfl
  c212 := by kernel_rfl
  c213 := by kernel_rfl
  c232 := by kernel_rfl
  c233 := by kernel_rfl }
def Tryz.lays144_ren : Go.Shelf.Ren := ⟨fun | 144 => 64 | 143 => 111 | 219 => 144 | 217 => 114 | 225 => 164 | 224 => 163 | 267 => 170 | 266 => 146 | 314 => 180 | n => n, fun | 9 => 9 | 4 => 4 | 3 => 3 | 5 => 5 | 46 => 126 | 146 => 173 | 51 => 169 | n => n, fun | 1 => 2 | n => n⟩
theorem Tryz.lays144 : Go.Proofs.Lays.n144 Tryz.prog Tryz.lays144_ren := {
  mixed := by kernel_rfl
  f143 := Tryz.func111.trans (congrArg some (by kernel_rfl))
  f144 := Tryz.func64.trans (congrArg some (by kernel_rfl))
  f217 := Tryz.func114.trans (congrArg some (by kernel_rfl))
  f219 := Tryz.func144.trans (congrArg some (by kernel_rfl))
  f224 := Tryz.func163.trans (congrArg some (by kernel_rfl))
  f225 := Tryz.func164.trans (congrArg some (by kernel_rfl))
  f266 := Tryz.func146.trans (congrArg some (by kernel_rfl))
  f267 := Tryz.func170.trans (congrArg some (by kernel_rfl))
  f314 := Tryz.func180.trans (congrArg some (by kernel_rfl))
  t3 := Tryz.underlying3
  a3 := Tryz.isAgg3
  z3 := Tryz.sizeOf3
  v3 := Tryz.zeroValue3
  t4 := Tryz.underlying4
  a4 := Tryz.isAgg4
  z4 := Tryz.sizeOf4
  v4 := Tryz.zeroValue4
  t5 := Tryz.underlying5
  a5 := Tryz.isAgg5
  z5 := Tryz.sizeOf5
  v5 := Tryz.zeroValue5
  t9 := Tryz.underlying9
  a9 := Tryz.isAgg9
  z9 := Tryz.sizeOf9
  v9 := Tryz.zeroValue9
  t46 := Tryz.underlying126
  a46 := Tryz.isAgg126
  z46 := Tryz.sizeOf126
  v46 := Tryz.zeroValue126
  t51 := Tryz.underlying169
  a51 := Tryz.isAgg169
  z51 := Tryz.sizeOf169
  v51 := Tryz.zeroValue169
  t146 := Tryz.underlying173
  a146 := Tryz.isAgg173
  z146 := Tryz.sizeOf173
  v146 := Tryz.zeroValue173
  g1 := by kernel_rfl }
def Tryz.lays99_ren : Go.Shelf.Ren := ⟨fun | 99 => 99 | 206 => 133 | n => n, fun | 9 => 9 | 4 => 4 | 3 => 3 | n => n, fun | n => n⟩
theorem Tryz.lays99 : Go.Proofs.Lays.n99 Tryz.prog Tryz.lays99_ren := {
  mixed := by kernel_rfl
  f99 := Tryz.func99.trans (congrArg some (by kernel_rfl))
  f206 := Tryz.func133.trans (congrArg some (by kernel_rfl))
  t3 := Tryz.underlying3
  a3 := Tryz.isAgg3
  z3 := Tryz.sizeOf3
  v3 := Tryz.zeroValue3
  t4 := Tryz.underlying4
  a4 := Tryz.isAgg4
  z4 := Tryz.sizeOf4
  v4 := Tryz.zeroValue4
  t9 := Tryz.underlying9
  a9 := Tryz.isAgg9
  z9 := Tryz.sizeOf9
  v9 := Tryz.zeroValue9 }
open Go.RowKit in
theorem Tryz.strings_IndexByte (s : ByteArray) (c : Int) (w : World) :
    Calls Tryz.prog 68 #[.string s, .int .u8 c] w fun e w' => e = .returned (.int .i64 (Lib.indexByte s.data.toList c.toNat.toUInt8)) ∧ w' = w := Any.strings_IndexByte Tryz.lays137 s c w
open Go.Lib in
theorem Tryz.internal_strconv_small (i : Nat) (h : i < 100) (w : World) :
    Calls Tryz.prog 155 #[.int .i64 i] w fun e w' => e = .returned (.string ⟨(Lib.decDigits i).toArray⟩) ∧ w' = w := Any.internal_strconv_small Tryz.lays283 i h w
open Go.Lib in
theorem Tryz.internal_strconv_numDigits (u : Nat) (h1 : 1 ≤ u) (h2 : u < 18446744073709551616) (w : World) (htab : Lib.TabIs Tryz.prog w "internal/strconv.uint64pow10" .u64 Lib.pow10Tab) :
    Calls Tryz.prog 156 #[.int .u64 u] w fun e w' => e = .returned (.int .i64 (Lib.nDigits u)) ∧ w' = w := Any.internal_strconv_numDigits Tryz.laysM284 u h1 h2 w htab
open Go.RowKit Go.Sort Go.Lib in
theorem Tryz.internal_strconv_formatBase10 (blk off cap : Nat) (u : Nat) (d : Array UInt8) (w : World) (hH : Holds (fun (b : UInt8) => Value.int .u8 (b.toNat : Int)) w blk off d) (hu : u < 10 ^ d.size) (hu64 : u < 18446744073709551616) (hsz : d.size < 4611686018427387904) :
    Calls Tryz.prog 157 #[.slice (some ⟨blk, off, none⟩) d.size cap, .int .u64 u] w fun e w' =>
      e = .returned (.tuple #[]) ∧ ∃ (n v' : Nat) (dk : Array UInt8), w' = (putRow (fun (b : UInt8) => Value.int .u8 (b.toNat : Int)) w blk off dk).drewN n ∧ FmtInv d.size u 0 v' dk := Any.internal_strconv_formatBase10 Tryz.lays285 blk off cap u d w hH hu hu64 hsz
open Go.RowKit in
theorem Tryz.strconv_ParseInt_10_at64_ok (s : ByteArray) (hmax : s.size ≤ 9223372036854775806) (v : Int) (h : Lib.parseIntB 64 s.data.toList = .ok v) (w : World) :
    Calls Tryz.prog 145 #[.string s, .int .i64 10, .int .i64 64] w fun e w' => e = .returned (.tuple #[.int .i64 v, .nilIface]) ∧ (w' = w ∨ ∃ t, w' = Lib.bytesWorld w 5 t) := Any.strconv_ParseInt_10_at64_ok Tryz.laysC174 s hmax v h w
open Go.RowKit in
theorem Tryz.strconv_ParseInt_10_at64_syntax (s : ByteArray) (hlim : s.size ≤ 281474976710656) (h : Lib.parseIntB 64 s.data.toList = Lib.NumEnd.syntax) (ev : Value) (w : World) (hv : w.cell? ⟨4, 0, none⟩ = some ev) (hev : ev = .nilIface ∨ ∃ te pe, ev = .iface te pe) :
    Calls Tryz.prog 145 #[.string s, .int .i64 10, .int .i64 64] w fun e w' => ∃ N, e = .returned (.tuple #[.int .i64 (0), .iface 178 (.pointer (some ⟨N, 0, none⟩))]) ∧ w.heap.size ≤ N ∧ w'.heap[N]? = some (.cells #[.string ⟨#[80, 97, 114, 115, 101, 73, 110, 116]⟩, .string s, ev] 184 (0, 0)) ∧ Below w.heap.size w w' := Any.strconv_ParseInt_10_at64_syntax Tryz.laysC174 s hlim h ev w hv hev
open Go.RowKit in
theorem Tryz.strconv_ParseInt_10_at64_range (s : ByteArray) (hlim : s.size ≤ 281474976710656) (h : Lib.parseIntB 64 s.data.toList = .range) (ev : Value) (w : World) (hv : w.cell? ⟨5, 0, none⟩ = some ev) (hev : ev = .nilIface ∨ ∃ te pe, ev = .iface te pe) :
    Calls Tryz.prog 145 #[.string s, .int .i64 10, .int .i64 64] w fun e w' => ∃ N, e = .returned (.tuple #[.int .i64 (Lib.intSat 64 s.data.toList), .iface 178 (.pointer (some ⟨N, 0, none⟩))]) ∧ w.heap.size ≤ N ∧ w'.heap[N]? = some (.cells #[.string ⟨#[80, 97, 114, 115, 101, 73, 110, 116]⟩, .string s, ev] 184 (0, 0)) ∧ Below w.heap.size w w' := Any.strconv_ParseInt_10_at64_range Tryz.laysC174 s hlim h ev w hv hev
open Go.RowKit Go.Lib in
theorem Tryz.strings_Contains_one (s : ByteArray) (c : UInt8) (w : World) :
    Calls Tryz.prog 64 #[.string s, .string ⟨#[c]⟩] w fun e w' => e = .returned (.bool (decide (0 ≤ Lib.indexByte s.data.toList c))) ∧ w' = w := Any.strings_Contains_one Tryz.lays144 s c w
open Go.RowKit Go.Lib in
theorem Tryz.strings_HasPrefix (s p : ByteArray) (w : World) :
    Calls Tryz.prog 99 #[.string s, .string p] w fun e w' => e = .returned (.bool (Lib.hasPrefix s.data.toList p.data.toList)) ∧ w' = w := Any.strings_HasPrefix Tryz.lays99 s p w
def Tryz.lays196_ren : Go.Shelf.Ren := ⟨fun | 196 => 58 | 259 => 108 | n => n, fun | 9 => 9 | 4 => 4 | 3 => 3 | 5 => 5 | 12 => 12 | 119 => 122 | 0 => 0 | 46 => 126 | 139 => 125 | 138 => 124 | 53 => 143 | n => n, fun | 3 => 0 | 4 => 1 | n => n⟩
theorem Tryz.lays196 : Go.Proofs.Lays.n196 Tryz.prog Tryz.lays196_ren := {
  mixed := by kernel_rfl
  f196 := Tryz.func58.trans (congrArg some (by kernel_rfl))
  f259 := Tryz.func108.trans (congrArg some (by kernel_rfl))
  t0 := Tryz.underlying0
  a0 := Tryz.isAgg0
  z0 := Tryz.sizeOf0
  v0 := Tryz.zeroValue0
  t3 := Tryz.underlying3
  a3 := Tryz.isAgg3
  z3 := Tryz.sizeOf3
  v3 := Tryz.zeroValue3
  t4 := Tryz.underlying4
  a4 := Tryz.isAgg4
  z4 := Tryz.sizeOf4
  v4 := Tryz.zeroValue4
  t5 := Tryz.underlying5
  a5 := Tryz.isAgg5
  z5 := Tryz.sizeOf5
  v5 := Tryz.zeroValue5
  t9 := Tryz.underlying9
  a9 := Tryz.isAgg9
  z9 := Tryz.sizeOf9
  v9 := Tryz.zeroValue9
  t12 := Tryz.underlying12
  a12 := Tryz.isAgg12
  z12 := Tryz.sizeOf12
  v12 := Tryz.zeroValue12
  t46 := Tryz.underlying126
  a46 := Tryz.isAgg126
  z46 := Tryz.sizeOf126
  v46 := Tryz.zeroValue126
  t53 := Tryz.underlying143
  a53 := Tryz.isAgg143
  z53 := Tryz.sizeOf143
  v53 := Tryz.zeroValue143
  t119 := Tryz.underlying122
  a119 := Tryz.isAgg122
  z119 := Tryz.sizeOf122
  t138 := Tryz.underlying124
  a138 := Tryz.isAgg124
  z138 := Tryz.sizeOf124
  v138 := Tryz.zeroValue124
  t139 := Tryz.underlying125
  a139 := Tryz.isAgg125
  z139 := Tryz.sizeOf125
  v139 := Tryz.zeroValue125
  g3 := by kernel_rfl
  g4 := by kernel_rfl }
end Go.Proofs
namespace Go.Proofs.YtpjafglhdlfnbaaGreatDoor
open Go.Ab Go.RowKit Go.Sort Go.Lib
theorem ext_below {γ : Gh} {w w' : World} (h : Below w.heap.size w w') : Ext (fun _ => False) γ w γ w' := by
  refine ⟨⟨h.size, fun b o v hc hp => ⟨hp, ?_⟩, fun b arr E fr hb => ⟨arr, ?_, rfl⟩⟩, h.os, h.output, fun a ha => ?_, fun b hb _ => ⟨rfl, h.block b hb⟩⟩
  · have hlt := World.block_lt_of_cell? w _ hc
    unfold World.cell? at hc ⊢
    rw [h.block _ hlt]; exact hc
  · have hlt := (Array.getElem?_eq_some_iff.1 hb).1
    rw [h.block b hlt]; exact hb
  · exact World.frozen?_of_block (h.block _ ha)
theorem Pure.of_below {P : Program} {f : FuncId} {args : List AV} {r : AV} (h : ∀ (γ : Gh) (w : World) (vs : List Value), TabOk γ w → RepAll γ w args vs → Calls P f vs.toArray w fun e w' => Below w.heap.size w w' ∧ ∃ v, e = .returned v ∧ Rep γ w' r v) : Pure P f args r := by
  intro γ w vs ht _ hv
  refine (h γ w vs ht hv).mono fun e w' ⟨hw, v, he, hr⟩ => ?_
  subst he
  exact ⟨γ, Heap.emp, .ret r, (ext_below hw).weaken fun _ f => f.elim, fun b o hb => by simp [Heap.emp] at hb, fun b hb => by simp [Heap.emp] at hb, hr, rfl, rfl⟩
theorem below_bytes (w : World) (e : TypeId) (t : ByteArray) : Below w.heap.size w (Lib.bytesWorld w e t) := by
  have h1 : Below w.heap.size w (w.drew.alloc (.cells (bytesCells w e t) e)) := (Below.refl _ w).drew.alloc (Nat.le_refl _) _
  unfold Lib.bytesWorld World.freeze
  simp only [Nat.one_ne_zero, if_false]
  refine ⟨h1.os, h1.tape, h1.output, ?_, fun i hi => ?_⟩
  · rw [Array.size_modify]; exact h1.size
  · rw [Array.getElem?_modify]
    have : ¬ (w.heap.size = i) := by omega
    simp only [this, if_false]
    exact h1.block i hi
theorem tab_at {γ : Gh} {w : World} (h : TabOk γ w) {i b : Nat} {ps : List (Value → Prop)} (hi : tabL[i]? = some (b, ps)) {j : Nat} {p : Value → Prop} (hj : ps[j]? = some p) : ∃ v, w.cell? ⟨b, j, none⟩ = some v ∧ p v := by
  obtain ⟨v, h1, h2⟩ := (h _ (List.mem_of_getElem? hi)).2 j p hj
  exact ⟨v, h1.1, h2⟩
theorem first_at : ∀ c : Fin 256, Go.Pinned.utf8FirstZ[c.val]? = some (Lib.firstT c.val) := by decide +kernel
def accZ : List Nat := [128, 191, 160, 191, 128, 159, 144, 191, 128, 143, 0, 0, 0, 0, 0, 0, 0, 0, 0, 0, 0, 0, 0, 0, 0, 0, 0, 0, 0, 0, 0, 0]
theorem acc_at : ∀ c : Fin 16, accZ[2 * c.val]? = some (Lib.accLo c.val) ∧ accZ[2 * c.val + 1]? = some (Lib.accHi c.val) := by decide +kernel
theorem utf8Tabs {γ : Gh} {w : World} (h : TabOk γ w) : Lib.Utf8Tabs 0 1 w := by
  refine ⟨fun c hc => ?_, fun c hc => ?_⟩
  · have hf := first_at ⟨c, hc⟩
    obtain ⟨v, h1, h2⟩ := tab_at h (i := 0) rfl (j := c) (p := fun v => v = .int .u8 (Lib.firstT c)) (by rw [List.getElem?_map, hf]; rfl)
    rw [h1, h2]
  · obtain ⟨g1, g2⟩ := acc_at ⟨c, hc⟩
    have hi : tabL[1]? = some (1, accZ.map fun (n : Nat) (v : Value) => v = .int .u8 n) := rfl
    obtain ⟨v, h1, h2⟩ := tab_at h hi (j := 2 * c) (p := fun v => v = .int .u8 (Lib.accLo c)) (by rw [List.getElem?_map, g1]; rfl)
    obtain ⟨u, h3, h4⟩ := tab_at h hi (j := 2 * c + 1) (p := fun v => v = .int .u8 (Lib.accHi c)) (by rw [List.getElem?_map, g2]; rfl)
    exact ⟨by rw [h1, h2], by rw [h3, h4]⟩
theorem arg_str {γ : Gh} {w : World} {s : List UInt8} {vs : List Value} (h : RepAll γ w [.str s] vs) : vs = [.string ⟨s.toArray⟩] := by
  obtain ⟨hl, hr⟩ := h
  match vs, hl with
  | [v], _ => cases hr 0 _ _ rfl rfl; rfl
theorem validC (s : List UInt8) (hs : s.length ≤ 9223372036854775807) : Pure Tryz.prog 58 [.str s] (.bool (Lib.validD s)) := by
  refine Pure.of_below fun γ w vs ht hv => ?_
  rw [arg_str hv]
  have h := Any.utf8_ValidString Tryz.lays196 ⟨s.toArray⟩ w (by simpa [ByteArray.size] using hs) (utf8Tabs ht)
  refine Calls.mono h fun e w' ⟨he, hb⟩ => ⟨hb, _, he, .bool _⟩
theorem prefixC (s p : List UInt8) : Pure Tryz.prog 99 [.str s, .str p] (.bool (p.isPrefixOf s)) := by
  refine Pure.of_below fun γ w vs ht hv => ?_
  obtain ⟨hl, hr⟩ := hv
  match vs, hl with
  | [v, u], _ =>
    cases hr 0 _ _ rfl rfl
    cases hr 1 _ _ rfl rfl
    exact (Tryz.strings_HasPrefix ⟨s.toArray⟩ ⟨p.toArray⟩ w).mono fun e w' ⟨he, hw⟩ => ⟨by rw [hw]; exact Below.refl _ _, _, he, .bool _⟩
def powZ : List Nat := [1, 10, 100, 1000, 10000, 100000, 1000000, 10000000, 100000000, 1000000000, 10000000000, 100000000000, 1000000000000, 10000000000000, 100000000000000, 1000000000000000, 10000000000000000, 100000000000000000, 1000000000000000000, 10000000000000000000]
theorem powZ_len : powZ.length = 20 := rfl
theorem pow10_at : Lib.pow10Tab = powZ.map fun (n : Nat) => (n : Int) := by decide +kernel
theorem powTab {γ : Gh} {w : World} (ht : TabOk γ w) : Lib.TabIs Tryz.prog w "internal/strconv.uint64pow10" .u64 Lib.pow10Tab := by
  have hmem : tabL[3]? = some (3, powZ.map fun (n : Nat) (v : Value) => v = .int .u64 n) := rfl
  obtain ⟨⟨arr, E, fr, g1, g2⟩, g3⟩ := ht _ (List.mem_of_getElem? hmem)
  have hg : Tryz.prog.globalNamed "internal/strconv.uint64pow10" = some 3 := by kernel_rfl
  unfold Lib.TabIs World.var?
  rw [hg]
  simp only [Option.bind_some]
  rw [show w.heap[3]? = _ from g1]
  simp only [Option.some.injEq]
  refine Array.ext_getElem? fun j => ?_
  simp only [List.length_map] at g2
  by_cases hj : j < 20
  · have hj' : j < powZ.length := hj
    obtain ⟨v, h1, h2⟩ := g3 j (fun v => v = .int .u64 ((powZ[j] : Nat) : Int)) (by rw [List.getElem?_map, List.getElem?_eq_getElem hj']; rfl)
    have h3 := h1.1
    simp only [World.cell?] at h3
    rw [show w.heap[3]? = _ from g1] at h3
    have h4 : arr[j]? = some v := by simpa using h3
    rw [h4, h2, pow10_at]
    simp only [List.map_map, List.getElem?_toArray, List.getElem?_map, List.getElem?_eq_getElem hj', Option.map_some, Function.comp]
  · rw [Array.getElem?_eq_none (by rw [g2, powZ_len]; omega), Array.getElem?_eq_none (by simp [pow10_at, powZ_len]; omega)]
theorem errRange_at {γ : Gh} {w : World} (h : TabOk γ w) : ∃ v, w.cell? ⟨5, 0, none⟩ = some v ∧ ∃ te pe, v = .iface te pe := tab_at h (i := 5) rfl (j := 0) rfl
theorem errSyntax_at {γ : Gh} {w : World} (h : TabOk γ w) : ∃ v, w.cell? ⟨4, 0, none⟩ = some v ∧ ∃ te pe, v = .iface te pe := tab_at h (i := 4) rfl (j := 0) rfl
def parseA (s : List UInt8) : AV :=
  match Lib.parseIntB 64 s with
  | .ok v => .tup [.int .i64 v, .oth .nilIface]
  | Lib.NumEnd.syntax => .tup [.int .i64 0, .ifc 178 .any]
  | .range => .tup [.int .i64 (Lib.intSat 64 s), .ifc 178 .any]
theorem rep_two {γ : Gh} {w : World} {a b : AV} {v u : Value} (h1 : Rep γ w a v) (h2 : Rep γ w b u) : Rep γ w (.tup [a, b]) (.tuple #[v, u]) := .tup _ [v, u] rfl (RepAll.cons h1 (RepAll.cons h2 RepAll.nil)).2
theorem parseIntC (s : List UInt8) (hs : s.length ≤ 281474976710656) : Pure Tryz.prog 145 [.str s, .int .i64 10, .int .i64 64] (parseA s) := by
  refine Pure.of_below fun γ w vs ht hv => ?_
  obtain ⟨hl, hr⟩ := hv
  match vs, hl with
  | [v, u, x], _ =>
    cases hr 0 _ _ rfl rfl
    cases hr 1 _ _ rfl rfl
    cases hr 2 _ _ rfl rfl
    have hsz : (⟨s.toArray⟩ : ByteArray).size = s.length := rfl
    unfold parseA
    rcases hp : Lib.parseIntB 64 s with v | _ | _
    · refine (Tryz.strconv_ParseInt_10_at64_ok ⟨s.toArray⟩ (by rw [hsz]; omega) v hp w).mono fun e w' ⟨he, hw⟩ => ⟨?_, _, he, rep_two (.int _ _) (.oth _)⟩
      rcases hw with rfl | ⟨t, rfl⟩
      · exact Below.refl _ _
      · exact below_bytes _ _ _
    · obtain ⟨ev, h1, h2⟩ := errSyntax_at ht
      exact (Tryz.strconv_ParseInt_10_at64_syntax ⟨s.toArray⟩ (by rw [hsz]; omega) hp ev w h1 (.inr h2)).mono fun e w' ⟨N, he, _, _, hb⟩ => ⟨hb, _, he, rep_two (.int _ _) (.ifc _ _ _ (.any _))⟩
    · obtain ⟨ev, h1, h2⟩ := errRange_at ht
      exact (Tryz.strconv_ParseInt_10_at64_range ⟨s.toArray⟩ (by rw [hsz]; omega) hp ev w h1 (.inr h2)).mono fun e w' ⟨N, he, _, _, hb⟩ => ⟨hb, _, he, rep_two (.int _ _) (.ifc _ _ _ (.any _))⟩
end Go.Proofs.YtpjafglhdlfnbaaGreatDoor
namespace Go.Proofs.YtpjafglhdlfnbaaGreatDoor
open Go.Ab
def ir11 : AFn := ⟨42, 2, [.t 4], .seq (.reg [] [⟨some 4, none, .mv (.k (.bool false)), []⟩])
 (.seq (.seq (.reg [] [⟨some 6, none, .mv (.t 0), []⟩, ⟨some 7, none, .len (.t 6), []⟩, ⟨some 8, none, .mv (.t 1), []⟩, ⟨some 9, none, .len (.t 8), []⟩, ⟨some 10, none, .bi .neq .i64 (.t 7) (.t 9), []⟩])
 (.cond (.t 10) (.seq (.reg [] [⟨some 4, none, .mv (.k (.bool false)), []⟩])
 (.ret)) (.skip)))
 (.seq (.seq (.reg [] [⟨some 5, none, .mv (.k (.int .i64 0)), []⟩])
 (.block 0 (.loop [0, 1, 5] (.seq (.seq (.reg [] [⟨some 11, none, .mv (.t 5), []⟩, ⟨some 12, none, .mv (.t 0), []⟩, ⟨some 13, none, .len (.t 12), []⟩, ⟨some 14, none, .bi .lss .i64 (.t 11) (.t 13), []⟩])
 (.cond (.t 14) (.skip) (.exit 0)))
 (.seq (.block 1 (.seq (.reg [0, 1, 2, 3, 4, 5, 6, 7, 8, 9, 10, 11, 12, 13, 14, 15, 16, 17, 18, 19, 20, 21, 22, 23, 24] [⟨some 17, none, .mv (.t 0), []⟩, ⟨some 18, none, .mv (.t 5), []⟩, ⟨some 19, none, .ia 6 (.t 17) (.t 18), []⟩, ⟨some 20, none, .fa 0 (.t 19), []⟩, ⟨some 21, none, .ld 1 false (.t 20), []⟩, ⟨some 22, none, .mv (.t 1), []⟩, ⟨some 23, none, .mv (.t 5), []⟩, ⟨some 24, none, .ia 6 (.t 22) (.t 23), []⟩, ⟨some 25, none, .fa 0 (.t 24), []⟩, ⟨some 26, none, .ld 1 false (.t 25), []⟩, ⟨some 27, none, .bs .neq (.t 21) (.t 26), []⟩, ⟨some 28, none, .mv (.t 27), []⟩, ⟨some 29, (some (28, false)), .mv (.t 0), []⟩, ⟨some 30, (some (28, false)), .mv (.t 5), []⟩, ⟨some 31, (some (28, false)), .ia 6 (.t 29) (.t 30), []⟩, ⟨some 32, (some (28, false)), .fa 1 (.t 31), []⟩, ⟨some 33, (some (28, false)), .ld 5 true (.t 32), []⟩, ⟨some 34, (some (28, false)), .mv (.t 1), []⟩, ⟨some 35, (some (28, false)), .mv (.t 5), []⟩, ⟨some 36, (some (28, false)), .ia 6 (.t 34) (.t 35), []⟩, ⟨some 37, (some (28, false)), .fa 1 (.t 36), []⟩, ⟨some 38, (some (28, false)), .ld 5 true (.t 37), []⟩, ⟨some 39, (some (28, false)), .call 15 [(.t 33), (.t 38)], []⟩, ⟨some 40, (some (28, false)), .not (.t 39), []⟩, ⟨some 41, none, .pick (.t 28) (.k (.bool true)) (.t 40), []⟩])
 (.cond (.t 41) (.seq (.reg [] [⟨some 4, none, .mv (.k (.bool false)), []⟩])
 (.ret)) (.skip))))
 (.reg [] [⟨some 15, none, .mv (.t 5), []⟩, ⟨some 16, none, .bi .add .i64 (.t 15) (.k (.int .i64 1)), []⟩, ⟨some 5, none, .mv (.t 16), []⟩]))))))
 (.seq (.reg [] [⟨some 4, none, .mv (.k (.bool true)), []⟩])
 (.ret))))⟩
theorem ck11 : chkFn Tryz.prog 11 ir11 = true := by kernel_rfl
def ir15 : AFn := ⟨58, 2, [.t 4], .seq (.reg [] [⟨some 2, none, .boxv (.t 0), []⟩, ⟨some 3, none, .boxv (.t 1), []⟩, ⟨some 4, none, .mv (.k (.bool false)), []⟩])
 (.seq (.seq (.reg [] [⟨some 6, none, .fa 0 (.t 2), []⟩, ⟨some 7, none, .ld 1 false (.t 6), []⟩, ⟨some 8, none, .fa 0 (.t 3), []⟩, ⟨some 9, none, .ld 1 false (.t 8), []⟩, ⟨some 10, none, .bi .neq .i64 (.t 7) (.t 9), []⟩, ⟨some 11, none, .mv (.t 10), []⟩, ⟨some 12, (some (11, false)), .fa 1 (.t 2), []⟩, ⟨some 13, (some (11, false)), .ld 1 false (.t 12), []⟩, ⟨some 14, (some (11, false)), .fa 1 (.t 3), []⟩, ⟨some 15, (some (11, false)), .ld 1 false (.t 14), []⟩, ⟨some 16, (some (11, false)), .bi .neq .i64 (.t 13) (.t 15), []⟩, ⟨some 17, none, .pick (.t 11) (.k (.bool true)) (.t 16), []⟩, ⟨some 18, none, .mv (.t 17), []⟩, ⟨some 19, (some (18, false)), .fa 2 (.t 2), []⟩, ⟨some 20, (some (18, false)), .ld 1 false (.t 19), []⟩, ⟨some 21, (some (18, false)), .fa 2 (.t 3), []⟩, ⟨some 22, (some (18, false)), .ld 1 false (.t 21), []⟩, ⟨some 23, (some (18, false)), .bs .neq (.t 20) (.t 22), []⟩, ⟨some 24, none, .pick (.t 18) (.k (.bool true)) (.t 23), []⟩, ⟨some 25, none, .mv (.t 24), []⟩, ⟨some 26, (some (25, false)), .fa 3 (.t 2), []⟩, ⟨some 27, (some (25, false)), .ld 1 false (.t 26), []⟩, ⟨some 28, (some (25, false)), .len (.t 27), []⟩, ⟨some 29, (some (25, false)), .fa 3 (.t 3), []⟩, ⟨some 30, (some (25, false)), .ld 1 false (.t 29), []⟩, ⟨some 31, (some (25, false)), .len (.t 30), []⟩, ⟨some 32, (some (25, false)), .bi .neq .i64 (.t 28) (.t 31), []⟩, ⟨some 33, none, .pick (.t 25) (.k (.bool true)) (.t 32), []⟩])
 (.cond (.t 33) (.seq (.reg [] [⟨some 4, none, .mv (.k (.bool false)), []⟩])
 (.ret)) (.skip)))
 (.seq (.seq (.reg [] [⟨some 5, none, .mv (.k (.int .i64 0)), []⟩])
 (.block 0 (.loop [2, 3, 5] (.seq (.seq (.reg [] [⟨some 34, none, .mv (.t 5), []⟩, ⟨some 35, none, .fa 3 (.t 2), []⟩, ⟨some 36, none, .ld 1 false (.t 35), []⟩, ⟨some 37, none, .len (.t 36), []⟩, ⟨some 38, none, .bi .lss .i64 (.t 34) (.t 37), []⟩])
 (.cond (.t 38) (.skip) (.exit 0)))
 (.seq (.block 1 (.seq (.reg [0, 1, 2, 3, 4, 5, 6, 7, 8, 9, 10, 11] [⟨some 41, none, .fa 3 (.t 2), []⟩, ⟨some 42, none, .ld 1 false (.t 41), []⟩, ⟨some 43, none, .mv (.t 5), []⟩, ⟨some 44, none, .ia 5 (.t 42) (.t 43), []⟩, ⟨some 45, none, .ld 5 true (.t 44), []⟩, ⟨some 46, none, .fa 3 (.t 3), []⟩, ⟨some 47, none, .ld 1 false (.t 46), []⟩, ⟨some 48, none, .mv (.t 5), []⟩, ⟨some 49, none, .ia 5 (.t 47) (.t 48), []⟩, ⟨some 50, none, .ld 5 true (.t 49), []⟩, ⟨some 51, none, .call 15 [(.t 45), (.t 50)], []⟩, ⟨some 52, none, .not (.t 51), []⟩])
 (.cond (.t 52) (.seq (.reg [] [⟨some 4, none, .mv (.k (.bool false)), []⟩])
 (.ret)) (.skip))))
 (.reg [] [⟨some 39, none, .mv (.t 5), []⟩, ⟨some 40, none, .bi .add .i64 (.t 39) (.k (.int .i64 1)), []⟩, ⟨some 5, none, .mv (.t 40), []⟩]))))))
 (.seq (.reg [] [⟨some 53, none, .fa 4 (.t 2), []⟩, ⟨some 54, none, .ld 1 false (.t 53), []⟩, ⟨some 55, none, .fa 4 (.t 3), []⟩, ⟨some 56, none, .ld 1 false (.t 55), []⟩, ⟨some 57, none, .call 11 [(.t 54), (.t 56)], []⟩, ⟨some 4, none, .mv (.t 57), []⟩])
 (.ret))))⟩
theorem ck15 : chkFn Tryz.prog 15 ir15 = true := by kernel_rfl
def ir16 : AFn := ⟨50, 1, [.t 2], .seq (.reg [] [⟨some 1, none, .boxv (.t 0), []⟩, ⟨some 2, none, .mv (.k (.int .i64 0)), []⟩])
 (.seq (.reg [] [⟨some 6, none, .fa 2 (.t 1), []⟩, ⟨some 7, none, .ld 1 false (.t 6), []⟩, ⟨some 8, none, .lens (.t 7), []⟩, ⟨some 9, none, .bi .add .i64 (.k (.int .i64 1)) (.t 8), []⟩, ⟨some 3, none, .mv (.t 9), []⟩])
 (.seq (.seq (.reg [] [⟨some 4, none, .mv (.k (.int .i64 0)), []⟩])
 (.block 0 (.loop [1, 3, 4] (.seq (.seq (.reg [] [⟨some 10, none, .mv (.t 4), []⟩, ⟨some 11, none, .fa 3 (.t 1), []⟩, ⟨some 12, none, .ld 1 false (.t 11), []⟩, ⟨some 13, none, .len (.t 12), []⟩, ⟨some 14, none, .bi .lss .i64 (.t 10) (.t 13), []⟩])
 (.cond (.t 14) (.skip) (.exit 0)))
 (.seq (.block 1 (.reg [] [⟨some 17, none, .mv (.t 3), []⟩, ⟨some 18, none, .fa 3 (.t 1), []⟩, ⟨some 19, none, .ld 1 false (.t 18), []⟩, ⟨some 20, none, .mv (.t 4), []⟩, ⟨some 21, none, .ia 5 (.t 19) (.t 20), []⟩, ⟨some 22, none, .ld 5 true (.t 21), []⟩, ⟨some 23, none, .call 16 [(.t 22)], []⟩, ⟨some 24, none, .bi .add .i64 (.t 17) (.t 23), []⟩, ⟨some 3, none, .mv (.t 24), []⟩]))
 (.reg [] [⟨some 15, none, .mv (.t 4), []⟩, ⟨some 16, none, .bi .add .i64 (.t 15) (.k (.int .i64 1)), []⟩, ⟨some 4, none, .mv (.t 16), []⟩]))))))
 (.seq (.seq (.reg [] [⟨some 5, none, .mv (.k (.int .i64 0)), []⟩])
 (.block 2 (.loop [1, 3, 5] (.seq (.seq (.reg [] [⟨some 25, none, .mv (.t 5), []⟩, ⟨some 26, none, .fa 4 (.t 1), []⟩, ⟨some 27, none, .ld 1 false (.t 26), []⟩, ⟨some 28, none, .len (.t 27), []⟩, ⟨some 29, none, .bi .lss .i64 (.t 25) (.t 28), []⟩])
 (.cond (.t 29) (.skip) (.exit 2)))
 (.seq (.block 3 (.reg [0, 1, 2, 3, 4, 5, 6, 7, 8, 9, 10, 11, 12, 13, 14, 15, 16, 17] [⟨some 32, none, .mv (.t 3), []⟩, ⟨some 33, none, .fa 4 (.t 1), []⟩, ⟨some 34, none, .ld 1 false (.t 33), []⟩, ⟨some 35, none, .mv (.t 5), []⟩, ⟨some 36, none, .ia 6 (.t 34) (.t 35), []⟩, ⟨some 37, none, .fa 0 (.t 36), []⟩, ⟨some 38, none, .ld 1 false (.t 37), []⟩, ⟨some 39, none, .lens (.t 38), []⟩, ⟨some 40, none, .bi .add .i64 (.t 32) (.t 39), []⟩, ⟨some 41, none, .fa 4 (.t 1), []⟩, ⟨some 42, none, .ld 1 false (.t 41), []⟩, ⟨some 43, none, .mv (.t 5), []⟩, ⟨some 44, none, .ia 6 (.t 42) (.t 43), []⟩, ⟨some 45, none, .fa 1 (.t 44), []⟩, ⟨some 46, none, .ld 5 true (.t 45), []⟩, ⟨some 47, none, .call 16 [(.t 46)], [2, 6]⟩, ⟨some 48, none, .bi .add .i64 (.t 40) (.t 47), []⟩, ⟨some 3, none, .mv (.t 48), []⟩]))
 (.reg [] [⟨some 30, none, .mv (.t 5), []⟩, ⟨some 31, none, .bi .add .i64 (.t 30) (.k (.int .i64 1)), []⟩, ⟨some 5, none, .mv (.t 31), []⟩]))))))
 (.seq (.reg [] [⟨some 49, none, .mv (.t 3), []⟩, ⟨some 2, none, .mv (.t 49), []⟩])
 (.ret)))))⟩
theorem ck16 : chkFn Tryz.prog 16 ir16 = true := by kernel_rfl
def ir17 : AFn := ⟨28, 1, [.c 2 5 true], .seq (.reg [] [⟨some 1, none, .box (.t 0), []⟩, ⟨some 2, none, .alloc [.int .i64 0, .int .i64 0, .str [], .sl .nil 5 [], .sl .nil 6 []], []⟩])
 (.seq (.reg [] [⟨some 3, none, .mv (.k (.sl .nil 5 [])), []⟩])
 (.seq (.seq (.reg [] [⟨some 4, none, .mv (.k (.int .i64 0)), []⟩])
 (.block 0 (.loop [1, 2, 3, 4] (.seq (.seq (.reg [] [⟨some 5, none, .mv (.t 4), []⟩, ⟨some 6, none, .fa 3 (.t 1), []⟩, ⟨some 7, none, .ld 1 false (.t 6), []⟩, ⟨some 8, none, .len (.t 7), []⟩, ⟨some 9, none, .bi .lss .i64 (.t 5) (.t 8), []⟩])
 (.cond (.t 9) (.skip) (.exit 0)))
 (.seq (.block 1 (.reg [] [⟨some 12, none, .mv (.t 3), []⟩, ⟨some 13, none, .fa 3 (.t 1), []⟩, ⟨some 14, none, .ld 1 false (.t 13), []⟩, ⟨some 15, none, .mv (.t 4), []⟩, ⟨some 16, none, .ia 5 (.t 14) (.t 15), []⟩, ⟨some 17, none, .ld 5 true (.t 16), []⟩, ⟨some 18, none, .call 17 [(.t 17)], []⟩, ⟨some 19, none, .bls 5 1 [.int .i64 0, .int .i64 0, .str [], .sl .nil 5 [], .sl .nil 6 []] [(0, (.t 18))], []⟩, ⟨some 20, none, .app 5 80 (.t 12) (.t 19), []⟩, ⟨some 3, none, .mv (.t 20), []⟩]))
 (.reg [] [⟨some 10, none, .mv (.t 4), []⟩, ⟨some 11, none, .bi .add .i64 (.t 10) (.k (.int .i64 1)), []⟩, ⟨some 4, none, .mv (.t 11), []⟩]))))))
 (.seq (.reg [] [⟨some 21, none, .mv (.t 3), []⟩, ⟨some 22, none, .fa 4 (.t 1), []⟩, ⟨some 23, none, .ld 1 false (.t 22), []⟩, ⟨some 24, none, .call 40 [(.t 23)], []⟩, ⟨some 25, none, .fa 3 (.t 1), []⟩, ⟨none, none, .st 1 (.t 25) (.t 21), []⟩, ⟨some 26, none, .fa 4 (.t 1), []⟩, ⟨none, none, .st 1 (.t 26) (.t 24), []⟩])
 (.seq (.reg [] [⟨some 27, none, .ld 5 true (.t 1), []⟩, ⟨none, none, .st 5 (.t 2) (.t 27), []⟩])
 (.ret)))))⟩
theorem ck17 : chkFn Tryz.prog 17 ir17 = true := by kernel_rfl
def ir22 : AFn := ⟨41, 1, [.t 2], .seq (.reg [] [⟨some 1, none, .boxv (.t 0), []⟩, ⟨some 2, none, .mv (.k (.int .i64 0)), []⟩])
 (.seq (.reg [] [⟨some 3, none, .mv (.k (.int .i64 0)), []⟩])
 (.seq (.seq (.reg [] [⟨some 8, none, .fa 0 (.t 1), []⟩, ⟨some 9, none, .ld 1 false (.t 8), []⟩])
 (.block 0 (.seq (.reg [] [⟨some 11, none, .bi .eql .i64 (.t 9) (.k (.int .i64 6)), []⟩, ⟨some 10, none, .mv (.t 11), []⟩])
 (.cond (.t 10) (.seq (.reg [] [⟨some 12, none, .fa 3 (.t 1), []⟩, ⟨some 13, none, .ld 1 false (.t 12), []⟩, ⟨some 14, none, .len (.t 13), []⟩, ⟨some 15, none, .mv (.k (.int .i64 0)), []⟩])
 (.block 1 (.loop [3, 13, 14, 15] (.seq (.reg [] [⟨some 16, none, .bi .lss .i64 (.t 15) (.t 14), []⟩])
 (.seq (.cond (.t 16) (.skip) (.exit 1))
 (.seq (.block 2 (.seq (.reg [] [⟨some 17, none, .ia 5 (.t 13) (.t 15), []⟩, ⟨some 18, none, .ld 5 true (.t 17), []⟩, ⟨some 5, none, .alloc [.int .i64 0, .int .i64 0, .str [], .sl .nil 5 [], .sl .nil 6 []], []⟩, ⟨none, none, .st 5 (.t 5) (.t 18), []⟩])
 (.reg [] [⟨some 19, none, .mv (.t 3), []⟩, ⟨some 20, none, .ld 5 true (.t 5), []⟩, ⟨some 21, none, .call 22 [(.t 20)], []⟩, ⟨some 22, none, .mm true (.t 19) [(.t 21)], []⟩, ⟨some 3, none, .mv (.t 22), []⟩])))
 (.reg [] [⟨some 23, none, .bi .add .i64 (.t 15) (.k (.int .i64 1)), []⟩, ⟨some 15, none, .mv (.t 23), []⟩]))))))) (.seq (.reg [] [⟨some 25, none, .bi .eql .i64 (.t 9) (.k (.int .i64 7)), []⟩, ⟨some 24, none, .mv (.t 25), []⟩])
 (.cond (.t 24) (.seq (.reg [] [⟨some 26, none, .fa 4 (.t 1), []⟩, ⟨some 27, none, .ld 1 false (.t 26), []⟩, ⟨some 28, none, .len (.t 27), []⟩, ⟨some 29, none, .mv (.k (.int .i64 0)), []⟩])
 (.block 3 (.loop [3, 27, 28, 29] (.seq (.reg [] [⟨some 30, none, .bi .lss .i64 (.t 29) (.t 28), []⟩])
 (.seq (.cond (.t 30) (.skip) (.exit 3))
 (.seq (.block 4 (.seq (.reg [] [⟨some 31, none, .ia 6 (.t 27) (.t 29), []⟩, ⟨some 32, none, .ld 6 true (.t 31), []⟩, ⟨some 7, none, .alloc [.str [], .int .i64 0, .int .i64 0, .str [], .sl .nil 5 [], .sl .nil 6 []], []⟩, ⟨none, none, .st 6 (.t 7) (.t 32), []⟩])
 (.reg [] [⟨some 33, none, .mv (.t 3), []⟩, ⟨some 34, none, .fa 1 (.t 7), []⟩, ⟨some 35, none, .ld 5 true (.t 34), []⟩, ⟨some 36, none, .call 22 [(.t 35)], []⟩, ⟨some 37, none, .mm true (.t 33) [(.t 36)], []⟩, ⟨some 3, none, .mv (.t 37), []⟩])))
 (.reg [] [⟨some 38, none, .bi .add .i64 (.t 29) (.k (.int .i64 1)), []⟩, ⟨some 29, none, .mv (.t 38), []⟩]))))))) (.seq (.reg [] [⟨some 2, none, .mv (.k (.int .i64 0)), []⟩])
 (.ret))))))))
 (.seq (.reg [] [⟨some 39, none, .mv (.t 3), []⟩, ⟨some 40, none, .bi .add .i64 (.t 39) (.k (.int .i64 1)), []⟩, ⟨some 2, none, .mv (.t 40), []⟩])
 (.ret))))⟩
theorem ck22 : chkFn Tryz.prog 22 ir22 = true := by kernel_rfl
def ir23 : AFn := ⟨38, 2, [.t 4], .seq (.reg [] [⟨some 2, none, .boxv (.t 0), []⟩, ⟨some 3, none, .boxv (.t 1), []⟩, ⟨some 4, none, .mv (.k (.bool false)), []⟩])
 (.seq (.reg [] [⟨some 5, none, .fa 0 (.t 2), []⟩, ⟨some 6, none, .ld 1 false (.t 5), []⟩, ⟨some 7, none, .fa 0 (.t 3), []⟩, ⟨some 8, none, .ld 1 false (.t 7), []⟩, ⟨some 9, none, .bi .eql .i64 (.t 6) (.t 8), []⟩, ⟨some 10, none, .mv (.t 9), []⟩, ⟨some 11, (some (10, true)), .fa 1 (.t 2), []⟩, ⟨some 12, (some (10, true)), .ld 1 false (.t 11), []⟩, ⟨some 13, (some (10, true)), .fa 1 (.t 3), []⟩, ⟨some 14, (some (10, true)), .ld 1 false (.t 13), []⟩, ⟨some 15, (some (10, true)), .bi .eql .i64 (.t 12) (.t 14), []⟩, ⟨some 16, none, .pick (.t 10) (.t 15) (.k (.bool false)), []⟩, ⟨some 17, none, .mv (.t 16), []⟩, ⟨some 18, (some (17, true)), .fa 2 (.t 2), []⟩, ⟨some 19, (some (17, true)), .ld 1 false (.t 18), []⟩, ⟨some 20, (some (17, true)), .fa 2 (.t 3), []⟩, ⟨some 21, (some (17, true)), .ld 1 false (.t 20), []⟩, ⟨some 22, (some (17, true)), .bs .eql (.t 19) (.t 21), []⟩, ⟨some 23, none, .pick (.t 17) (.t 22) (.k (.bool false)), []⟩, ⟨some 24, none, .mv (.t 23), []⟩, ⟨some 25, (some (24, true)), .fa 3 (.t 2), []⟩, ⟨some 26, (some (24, true)), .ld 1 false (.t 25), []⟩, ⟨some 27, (some (24, true)), .fa 3 (.t 3), []⟩, ⟨some 28, (some (24, true)), .ld 1 false (.t 27), []⟩, ⟨some 29, (some (24, true)), .call 47 [(.t 26), (.t 28), (.k (.clo 23 [] []))], []⟩, ⟨some 30, none, .pick (.t 24) (.t 29) (.k (.bool false)), []⟩, ⟨some 31, none, .mv (.t 30), []⟩, ⟨some 32, (some (31, true)), .fa 4 (.t 2), []⟩, ⟨some 33, (some (31, true)), .ld 1 false (.t 32), []⟩, ⟨some 34, (some (31, true)), .fa 4 (.t 3), []⟩, ⟨some 35, (some (31, true)), .ld 1 false (.t 34), []⟩, ⟨some 36, (some (31, true)), .call 48 [(.t 33), (.t 35), (.k (.clo 49 [] []))], []⟩, ⟨some 37, none, .pick (.t 31) (.t 36) (.k (.bool false)), []⟩, ⟨some 4, none, .mv (.t 37), []⟩])
 (.ret))⟩
theorem ck23 : chkFn Tryz.prog 23 ir23 = true := by kernel_rfl
def ir29 : AFn := ⟨22, 2, [.c 4 5 true, .t 5], .seq (.reg [] [⟨some 4, none, .alloc [.int .i64 0, .int .i64 0, .str [], .sl .nil 5 [], .sl .nil 6 []], []⟩, ⟨some 5, none, .mv (.k (.bool false)), []⟩])
 (.seq (.seq (.reg [] [⟨some 8, none, .mv (.t 1), []⟩, ⟨some 9, none, .len (.t 8), []⟩, ⟨some 10, none, .mv (.k (.int .i64 0)), []⟩])
 (.block 0 (.loop [0, 4, 8, 9, 10] (.seq (.reg [] [⟨some 11, none, .bi .lss .i64 (.t 10) (.t 9), []⟩])
 (.seq (.cond (.t 11) (.skip) (.exit 0))
 (.seq (.block 1 (.seq (.reg [] [⟨some 12, none, .ia 6 (.t 8) (.t 10), []⟩, ⟨some 13, none, .ld 6 true (.t 12), []⟩, ⟨some 7, none, .alloc [.str [], .int .i64 0, .int .i64 0, .str [], .sl .nil 5 [], .sl .nil 6 []], []⟩, ⟨none, none, .st 6 (.t 7) (.t 13), []⟩])
 (.seq (.reg [] [⟨some 14, none, .fa 0 (.t 7), []⟩, ⟨some 15, none, .ld 1 false (.t 14), []⟩, ⟨some 16, none, .mv (.t 0), []⟩, ⟨some 17, none, .bs .eql (.t 15) (.t 16), []⟩])
 (.cond (.t 17) (.seq (.reg [] [⟨some 18, none, .fa 1 (.t 7), []⟩, ⟨some 19, none, .ld 5 true (.t 18), []⟩, ⟨none, none, .st 5 (.t 4) (.t 19), []⟩, ⟨some 5, none, .mv (.k (.bool true)), []⟩])
 (.ret)) (.skip)))))
 (.reg [] [⟨some 20, none, .bi .add .i64 (.t 10) (.k (.int .i64 1)), []⟩, ⟨some 10, none, .mv (.t 20), []⟩])))))))
 (.seq (.reg [] [⟨some 21, none, .bld [.int .i64 0, .int .i64 0, .str [], .sl .nil 5 [], .sl .nil 6 []] [], []⟩, ⟨none, none, .st 5 (.t 4) (.t 21), []⟩, ⟨some 5, none, .mv (.k (.bool false)), []⟩])
 (.ret)))⟩
theorem ck29 : chkFn Tryz.prog 29 ir29 = true := by kernel_rfl
def ir30 : AFn := ⟨26, 2, [.c 4 5 true, .t 5], .seq (.reg [] [⟨some 4, none, .alloc [.int .i64 0, .int .i64 0, .str [], .sl .nil 5 [], .sl .nil 6 []], []⟩, ⟨some 5, none, .mv (.k (.bool false)), []⟩])
 (.seq (.seq (.reg [] [⟨some 6, none, .mv (.k (.int .i64 0)), []⟩])
 (.block 0 (.loop [0, 1, 4, 6] (.seq (.seq (.reg [] [⟨some 7, none, .mv (.t 6), []⟩, ⟨some 8, none, .mv (.t 1), []⟩, ⟨some 9, none, .len (.t 8), []⟩, ⟨some 10, none, .bi .lss .i64 (.t 7) (.t 9), []⟩])
 (.cond (.t 10) (.skip) (.exit 0)))
 (.seq (.block 1 (.seq (.reg [] [⟨some 13, none, .mv (.t 1), []⟩, ⟨some 14, none, .mv (.t 6), []⟩, ⟨some 15, none, .ia 6 (.t 13) (.t 14), []⟩, ⟨some 16, none, .fa 0 (.t 15), []⟩, ⟨some 17, none, .ld 1 false (.t 16), []⟩, ⟨some 18, none, .mv (.t 0), []⟩, ⟨some 19, none, .bs .eql (.t 17) (.t 18), []⟩])
 (.cond (.t 19) (.seq (.reg [] [⟨some 20, none, .mv (.t 1), []⟩, ⟨some 21, none, .mv (.t 6), []⟩, ⟨some 22, none, .ia 6 (.t 20) (.t 21), []⟩, ⟨some 23, none, .fa 1 (.t 22), []⟩, ⟨some 24, none, .ld 5 true (.t 23), []⟩, ⟨none, none, .st 5 (.t 4) (.t 24), []⟩, ⟨some 5, none, .mv (.k (.bool true)), []⟩])
 (.ret)) (.skip))))
 (.reg [] [⟨some 11, none, .mv (.t 6), []⟩, ⟨some 12, none, .bi .add .i64 (.t 11) (.k (.int .i64 1)), []⟩, ⟨some 6, none, .mv (.t 12), []⟩]))))))
 (.seq (.reg [] [⟨some 25, none, .bld [.int .i64 0, .int .i64 0, .str [], .sl .nil 5 [], .sl .nil 6 []] [], []⟩, ⟨none, none, .st 5 (.t 4) (.t 25), []⟩, ⟨some 5, none, .mv (.k (.bool false)), []⟩])
 (.ret)))⟩
theorem ck30 : chkFn Tryz.prog 30 ir30 = true := by kernel_rfl
def ir31 : AFn := ⟨5, 1, [.t 2], .seq (.reg [] [⟨some 2, none, .mv (.k (.bool false)), []⟩])
 (.seq (.reg [] [⟨some 3, none, .mv (.t 0), []⟩, ⟨some 4, none, .call 58 [(.t 3)], []⟩, ⟨some 2, none, .mv (.t 4), []⟩])
 (.ret))⟩
theorem ck31 : chkFn Tryz.prog 31 ir31 = true := by kernel_rfl
def ir36 : AFn := ⟨11, 1, [.t 2], .seq (.reg [] [⟨some 2, none, .mv (.k (.bool false)), []⟩])
 (.seq (.reg [] [⟨some 6, none, .mv (.t 0), []⟩, ⟨some 7, none, .call 69 [(.t 6)], []⟩, ⟨some 5, none, .mv (.t 7), []⟩, ⟨some 8, none, .ext (.t 5) 0, []⟩, ⟨some 9, none, .ext (.t 5) 1, []⟩, ⟨some 3, none, .mv (.t 8), []⟩, ⟨some 4, none, .mv (.t 9), []⟩])
 (.seq (.reg [] [⟨some 10, none, .mv (.t 4), []⟩, ⟨some 2, none, .mv (.t 10), []⟩])
 (.ret)))⟩
theorem ck36 : chkFn Tryz.prog 36 ir36 = true := by kernel_rfl
def ir40 : AFn := ⟨27, 1, [.t 2], .seq (.reg [] [⟨some 2, none, .mv (.k (.sl .nil 6 [])), []⟩])
 (.seq (.reg [] [⟨some 3, none, .mv (.k (.sl .nil 6 [])), []⟩])
 (.seq (.seq (.reg [] [⟨some 4, none, .mv (.k (.int .i64 0)), []⟩])
 (.block 0 (.loop [0, 3, 4] (.seq (.seq (.reg [] [⟨some 5, none, .mv (.t 4), []⟩, ⟨some 6, none, .mv (.t 0), []⟩, ⟨some 7, none, .len (.t 6), []⟩, ⟨some 8, none, .bi .lss .i64 (.t 5) (.t 7), []⟩])
 (.cond (.t 8) (.skip) (.exit 0)))
 (.seq (.block 1 (.reg [0, 1, 2, 3, 4, 5, 6, 7, 8, 9, 10, 11, 12, 13, 14, 15] [⟨some 11, none, .mv (.t 3), []⟩, ⟨some 12, none, .mv (.t 0), []⟩, ⟨some 13, none, .mv (.t 4), []⟩, ⟨some 14, none, .ia 6 (.t 12) (.t 13), []⟩, ⟨some 15, none, .fa 0 (.t 14), []⟩, ⟨some 16, none, .ld 1 false (.t 15), []⟩, ⟨some 17, none, .mv (.t 0), []⟩, ⟨some 18, none, .mv (.t 4), []⟩, ⟨some 19, none, .ia 6 (.t 17) (.t 18), []⟩, ⟨some 20, none, .fa 1 (.t 19), []⟩, ⟨some 21, none, .ld 5 true (.t 20), []⟩, ⟨some 22, none, .call 17 [(.t 21)], [5]⟩, ⟨some 23, none, .bld [.str [], .int .i64 0, .int .i64 0, .str [], .sl .nil 5 [], .sl .nil 6 []] [(0, 1, (.t 16)), (1, 5, (.t 22))], []⟩, ⟨some 24, none, .bls 6 1 [.str [], .int .i64 0, .int .i64 0, .str [], .sl .nil 5 [], .sl .nil 6 []] [(0, (.t 23))], []⟩, ⟨some 25, none, .app 6 96 (.t 11) (.t 24), []⟩, ⟨some 3, none, .mv (.t 25), []⟩]))
 (.reg [] [⟨some 9, none, .mv (.t 4), []⟩, ⟨some 10, none, .bi .add .i64 (.t 9) (.k (.int .i64 1)), []⟩, ⟨some 4, none, .mv (.t 10), []⟩]))))))
 (.seq (.reg [] [⟨some 26, none, .mv (.t 3), []⟩, ⟨some 2, none, .mv (.t 26), []⟩])
 (.ret))))⟩
theorem ck40 : chkFn Tryz.prog 40 ir40 = true := by kernel_rfl
def ir43 : AFn := ⟨5, 1, [.t 2], .seq (.reg [] [⟨some 1, none, .boxv (.t 0), []⟩, ⟨some 2, none, .mv (.k (.bool false)), []⟩])
 (.seq (.reg [] [⟨some 3, none, .ld 5 true (.t 1), []⟩, ⟨some 4, none, .call 82 [(.t 3), (.k (.clo 31 [] []))], []⟩, ⟨some 2, none, .mv (.t 4), []⟩])
 (.ret))⟩
theorem ck43 : chkFn Tryz.prog 43 ir43 = true := by kernel_rfl
def ir45 : AFn := ⟨183, 1, [.t 2], .seq (.reg [] [⟨some 1, none, .boxv (.t 0), []⟩, ⟨some 2, none, .mv (.k (.bool false)), []⟩])
 (.seq (.seq (.reg [] [⟨some 8, none, .fa 0 (.t 1), []⟩, ⟨some 9, none, .ld 1 false (.t 8), []⟩, ⟨some 10, none, .bi .neq .i64 (.t 9) (.k (.int .i64 1)), []⟩, ⟨some 11, none, .mv (.t 10), []⟩, ⟨some 12, (some (11, true)), .fa 0 (.t 1), []⟩, ⟨some 13, (some (11, true)), .ld 1 false (.t 12), []⟩, ⟨some 14, (some (11, true)), .bi .neq .i64 (.t 13) (.k (.int .i64 2)), []⟩, ⟨some 15, none, .pick (.t 11) (.t 14) (.k (.bool false)), []⟩, ⟨some 16, none, .mv (.t 15), []⟩, ⟨some 17, (some (16, true)), .fa 1 (.t 1), []⟩, ⟨some 18, (some (16, true)), .ld 1 false (.t 17), []⟩, ⟨some 19, (some (16, true)), .bi .neq .i64 (.t 18) (.k (.int .i64 0)), []⟩, ⟨some 20, none, .pick (.t 16) (.t 19) (.k (.bool false)), []⟩, ⟨some 21, none, .mv (.t 20), []⟩, ⟨some 22, (some (21, false)), .fa 0 (.t 1), []⟩, ⟨some 23, (some (21, false)), .ld 1 false (.t 22), []⟩, ⟨some 24, (some (21, false)), .bi .neq .i64 (.t 23) (.k (.int .i64 6)), []⟩, ⟨some 25, (some (21, false)), .mv (.t 24), []⟩, ⟨some 26, (some (25, true)), .fa 3 (.t 1), []⟩, ⟨some 27, (some (25, true)), .ld 1 false (.t 26), []⟩, ⟨some 28, (some (25, true)), .len (.t 27), []⟩, ⟨some 29, (some (25, true)), .bi .gtr .i64 (.t 28) (.k (.int .i64 0)), []⟩, ⟨some 30, (some (21, false)), .pick (.t 25) (.t 29) (.k (.bool false)), []⟩, ⟨some 31, none, .pick (.t 21) (.k (.bool true)) (.t 30), []⟩, ⟨some 32, none, .mv (.t 31), []⟩, ⟨some 33, (some (32, false)), .fa 0 (.t 1), []⟩, ⟨some 34, (some (32, false)), .ld 1 false (.t 33), []⟩, ⟨some 35, (some (32, false)), .bi .neq .i64 (.t 34) (.k (.int .i64 7)), []⟩, ⟨some 36, (some (32, false)), .mv (.t 35), []⟩, ⟨some 37, (some (36, true)), .fa 4 (.t 1), []⟩, ⟨some 38, (some (36, true)), .ld 1 false (.t 37), []⟩, ⟨some 39, (some (36, true)), .len (.t 38), []⟩, ⟨some 40, (some (36, true)), .bi .gtr .i64 (.t 39) (.k (.int .i64 0)), []⟩, ⟨some 41, (some (32, false)), .pick (.t 36) (.t 40) (.k (.bool false)), []⟩, ⟨some 42, none, .pick (.t 32) (.k (.bool true)) (.t 41), []⟩])
 (.cond (.t 42) (.seq (.reg [] [⟨some 2, none, .mv (.k (.bool false)), []⟩])
 (.ret)) (.skip)))
 (.seq (.seq (.reg [] [⟨some 43, none, .fa 0 (.t 1), []⟩, ⟨some 44, none, .ld 1 false (.t 43), []⟩, ⟨some 45, none, .bi .eql .i64 (.t 44) (.k (.int .i64 0)), []⟩, ⟨some 46, none, .mv (.t 45), []⟩, ⟨some 47, (some (46, false)), .fa 0 (.t 1), []⟩, ⟨some 48, (some (46, false)), .ld 1 false (.t 47), []⟩, ⟨some 49, (some (46, false)), .bi .eql .i64 (.t 48) (.k (.int .i64 1)), []⟩, ⟨some 50, none, .pick (.t 46) (.k (.bool true)) (.t 49), []⟩, ⟨some 51, none, .mv (.t 50), []⟩, ⟨some 52, (some (51, false)), .fa 0 (.t 1), []⟩, ⟨some 53, (some (51, false)), .ld 1 false (.t 52), []⟩, ⟨some 54, (some (51, false)), .bi .eql .i64 (.t 53) (.k (.int .i64 2)), []⟩, ⟨some 55, none, .pick (.t 51) (.k (.bool true)) (.t 54), []⟩, ⟨some 56, none, .mv (.t 55), []⟩, ⟨some 57, (some (56, false)), .fa 0 (.t 1), []⟩, ⟨some 58, (some (56, false)), .ld 1 false (.t 57), []⟩, ⟨some 59, (some (56, false)), .bi .eql .i64 (.t 58) (.k (.int .i64 6)), []⟩, ⟨some 60, none, .pick (.t 56) (.k (.bool true)) (.t 59), []⟩, ⟨some 61, none, .mv (.t 60), []⟩, ⟨some 62, (some (61, false)), .fa 0 (.t 1), []⟩, ⟨some 63, (some (61, false)), .ld 1 false (.t 62), []⟩, ⟨some 64, (some (61, false)), .bi .eql .i64 (.t 63) (.k (.int .i64 7)), []⟩, ⟨some 65, none, .pick (.t 61) (.k (.bool true)) (.t 64), []⟩, ⟨some 66, none, .mv (.t 65), []⟩, ⟨some 67, (some (66, true)), .fa 2 (.t 1), []⟩, ⟨some 68, (some (66, true)), .ld 1 false (.t 67), []⟩, ⟨some 69, (some (66, true)), .bs .neq (.t 68) (.k (.str [])), []⟩, ⟨some 70, none, .pick (.t 66) (.t 69) (.k (.bool false)), []⟩])
 (.cond (.t 70) (.seq (.reg [] [⟨some 2, none, .mv (.k (.bool false)), []⟩])
 (.ret)) (.skip)))
 (.seq (.seq (.reg [] [⟨some 71, none, .fa 0 (.t 1), []⟩, ⟨some 72, none, .ld 1 false (.t 71), []⟩])
 (.block 0 (.seq (.seq (.reg [] [⟨some 74, none, .bi .eql .i64 (.t 72) (.k (.int .i64 0)), []⟩, ⟨some 73, none, .mv (.t 74), []⟩])
 (.cond (.t 73) (.skip) (.reg [] [⟨some 75, none, .bi .eql .i64 (.t 72) (.k (.int .i64 2)), []⟩, ⟨some 73, none, .mv (.t 75), []⟩])))
 (.cond (.t 73) (.seq (.reg [] [⟨some 2, none, .mv (.k (.bool true)), []⟩])
 (.ret)) (.seq (.reg [] [⟨some 77, none, .bi .eql .i64 (.t 72) (.k (.int .i64 1)), []⟩, ⟨some 76, none, .mv (.t 77), []⟩])
 (.cond (.t 76) (.seq (.reg [] [⟨some 78, none, .fa 1 (.t 1), []⟩, ⟨some 79, none, .ld 1 false (.t 78), []⟩, ⟨some 80, none, .bi .eql .i64 (.t 79) (.k (.int .i64 0)), []⟩, ⟨some 81, none, .mv (.t 80), []⟩, ⟨some 82, (some (81, false)), .fa 1 (.t 1), []⟩, ⟨some 83, (some (81, false)), .ld 1 false (.t 82), []⟩, ⟨some 84, (some (81, false)), .bi .eql .i64 (.t 83) (.k (.int .i64 1)), []⟩, ⟨some 85, none, .pick (.t 81) (.k (.bool true)) (.t 84), []⟩, ⟨some 2, none, .mv (.t 85), []⟩])
 (.ret)) (.seq (.reg [] [⟨some 87, none, .bi .eql .i64 (.t 72) (.k (.int .i64 3)), []⟩, ⟨some 86, none, .mv (.t 87), []⟩])
 (.cond (.t 86) (.seq (.reg [] [⟨some 88, none, .fa 2 (.t 1), []⟩, ⟨some 89, none, .ld 1 false (.t 88), []⟩, ⟨some 90, none, .call 83 [(.t 89)], []⟩, ⟨some 3, none, .mv (.t 90), []⟩])
 (.seq (.seq (.reg [] [⟨some 91, none, .fa 2 (.t 1), []⟩, ⟨some 92, none, .ld 1 false (.t 91), []⟩, ⟨some 93, none, .bs .eql (.t 92) (.k (.str [])), []⟩, ⟨some 94, none, .mv (.t 93), []⟩, ⟨some 95, (some (94, false)), .mv (.t 3), []⟩, ⟨some 96, (some (94, false)), .bi .eql .i64 (.t 95) (.k (.int .i64 0)), []⟩, ⟨some 97, none, .pick (.t 94) (.k (.bool true)) (.t 96), []⟩])
 (.cond (.t 97) (.seq (.reg [] [⟨some 2, none, .mv (.k (.bool false)), []⟩])
 (.ret)) (.skip)))
 (.seq (.reg [] [⟨some 99, none, .fa 2 (.t 1), []⟩, ⟨some 100, none, .ld 1 false (.t 99), []⟩, ⟨some 101, none, .call 84 [(.t 100)], []⟩, ⟨some 98, none, .mv (.t 101), []⟩, ⟨some 102, none, .ext (.t 98) 0, []⟩, ⟨some 103, none, .ext (.t 98) 1, []⟩, ⟨some 4, none, .mv (.t 102), []⟩, ⟨some 5, none, .mv (.t 103), []⟩])
 (.seq (.reg [] [⟨some 104, none, .mv (.t 3), []⟩, ⟨some 105, none, .bi .eql .i64 (.t 104) (.k (.int .i64 4)), []⟩, ⟨some 106, none, .mv (.t 105), []⟩, ⟨some 107, (some (106, false)), .mv (.t 5), []⟩, ⟨some 108, (some (106, false)), .not (.t 107), []⟩, ⟨some 109, none, .pick (.t 106) (.k (.bool true)) (.t 108), []⟩, ⟨some 2, none, .mv (.t 109), []⟩])
 (.ret))))) (.seq (.reg [] [⟨some 111, none, .bi .eql .i64 (.t 72) (.k (.int .i64 4)), []⟩, ⟨some 110, none, .mv (.t 111), []⟩])
 (.cond (.t 110) (.seq (.reg [] [⟨some 112, none, .fa 2 (.t 1), []⟩, ⟨some 113, none, .ld 1 false (.t 112), []⟩, ⟨some 114, none, .call 36 [(.t 113)], []⟩, ⟨some 2, none, .mv (.t 114), []⟩])
 (.ret)) (.seq (.reg [] [⟨some 116, none, .bi .eql .i64 (.t 72) (.k (.int .i64 5)), []⟩, ⟨some 115, none, .mv (.t 116), []⟩])
 (.cond (.t 115) (.seq (.reg [] [⟨some 117, none, .fa 2 (.t 1), []⟩, ⟨some 118, none, .ld 1 false (.t 117), []⟩, ⟨some 119, none, .call 85 [(.t 118)], []⟩, ⟨some 120, none, .mv (.t 119), []⟩, ⟨some 121, (some (120, true)), .fa 2 (.t 1), []⟩, ⟨some 122, (some (120, true)), .ld 1 false (.t 121), []⟩, ⟨some 123, (some (120, true)), .bs .neq (.t 122) (.k (.str [116, 114, 117, 101])), []⟩, ⟨some 124, none, .pick (.t 120) (.t 123) (.k (.bool false)), []⟩, ⟨some 125, none, .mv (.t 124), []⟩, ⟨some 126, (some (125, true)), .fa 2 (.t 1), []⟩, ⟨some 127, (some (125, true)), .ld 1 false (.t 126), []⟩, ⟨some 128, (some (125, true)), .bs .neq (.t 127) (.k (.str [102, 97, 108, 115, 101])), []⟩, ⟨some 129, none, .pick (.t 125) (.t 128) (.k (.bool false)), []⟩, ⟨some 130, none, .mv (.t 129), []⟩, ⟨some 131, (some (130, true)), .fa 2 (.t 1), []⟩, ⟨some 132, (some (130, true)), .ld 1 false (.t 131), []⟩, ⟨some 133, (some (130, true)), .bs .neq (.t 132) (.k (.str [110, 117, 108, 108])), []⟩, ⟨some 134, none, .pick (.t 130) (.t 133) (.k (.bool false)), []⟩, ⟨some 2, none, .mv (.t 134), []⟩])
 (.ret)) (.seq (.reg [] [⟨some 136, none, .bi .eql .i64 (.t 72) (.k (.int .i64 8)), []⟩, ⟨some 135, none, .mv (.t 136), []⟩])
 (.cond (.t 135) (.seq (.reg [] [⟨some 137, none, .fa 2 (.t 1), []⟩, ⟨some 138, none, .ld 1 false (.t 137), []⟩, ⟨some 139, none, .call 85 [(.t 138)], []⟩, ⟨some 2, none, .mv (.t 139), []⟩])
 (.ret)) (.seq (.reg [] [⟨some 141, none, .bi .eql .i64 (.t 72) (.k (.int .i64 6)), []⟩, ⟨some 140, none, .mv (.t 141), []⟩])
 (.cond (.t 140) (.seq (.seq (.reg [] [⟨some 6, none, .mv (.k (.int .i64 0)), []⟩])
 (.block 1 (.loop [1, 6] (.seq (.seq (.reg [] [⟨some 142, none, .mv (.t 6), []⟩, ⟨some 143, none, .fa 3 (.t 1), []⟩, ⟨some 144, none, .ld 1 false (.t 143), []⟩, ⟨some 145, none, .len (.t 144), []⟩, ⟨some 146, none, .bi .lss .i64 (.t 142) (.t 145), []⟩])
 (.cond (.t 146) (.skip) (.exit 1)))
 (.seq (.block 2 (.seq (.reg [] [⟨some 149, none, .fa 3 (.t 1), []⟩, ⟨some 150, none, .ld 1 false (.t 149), []⟩, ⟨some 151, none, .mv (.t 6), []⟩, ⟨some 152, none, .ia 5 (.t 150) (.t 151), []⟩, ⟨some 153, none, .ld 5 true (.t 152), []⟩, ⟨some 154, none, .call 45 [(.t 153)], []⟩, ⟨some 155, none, .not (.t 154), []⟩])
 (.cond (.t 155) (.seq (.reg [] [⟨some 2, none, .mv (.k (.bool false)), []⟩])
 (.ret)) (.skip))))
 (.reg [] [⟨some 147, none, .mv (.t 6), []⟩, ⟨some 148, none, .bi .add .i64 (.t 147) (.k (.int .i64 1)), []⟩, ⟨some 6, none, .mv (.t 148), []⟩]))))))
 (.seq (.reg [] [⟨some 2, none, .mv (.k (.bool true)), []⟩])
 (.ret))) (.seq (.reg [] [⟨some 157, none, .bi .eql .i64 (.t 72) (.k (.int .i64 7)), []⟩, ⟨some 156, none, .mv (.t 157), []⟩])
 (.cond (.t 156) (.seq (.seq (.reg [] [⟨some 7, none, .mv (.k (.int .i64 0)), []⟩])
 (.block 3 (.loop [1, 7] (.seq (.seq (.reg [] [⟨some 158, none, .mv (.t 7), []⟩, ⟨some 159, none, .fa 4 (.t 1), []⟩, ⟨some 160, none, .ld 1 false (.t 159), []⟩, ⟨some 161, none, .len (.t 160), []⟩, ⟨some 162, none, .bi .lss .i64 (.t 158) (.t 161), []⟩])
 (.cond (.t 162) (.skip) (.exit 3)))
 (.seq (.block 4 (.seq (.reg [] [⟨some 165, none, .fa 4 (.t 1), []⟩, ⟨some 166, none, .ld 1 false (.t 165), []⟩, ⟨some 167, none, .mv (.t 7), []⟩, ⟨some 168, none, .ia 6 (.t 166) (.t 167), []⟩, ⟨some 169, none, .fa 0 (.t 168), []⟩, ⟨some 170, none, .ld 1 false (.t 169), []⟩, ⟨some 171, none, .call 36 [(.t 170)], []⟩, ⟨some 172, none, .not (.t 171), []⟩, ⟨some 173, none, .mv (.t 172), []⟩, ⟨some 174, (some (173, false)), .fa 4 (.t 1), []⟩, ⟨some 175, (some (173, false)), .ld 1 false (.t 174), []⟩, ⟨some 176, (some (173, false)), .mv (.t 7), []⟩, ⟨some 177, (some (173, false)), .ia 6 (.t 175) (.t 176), []⟩, ⟨some 178, (some (173, false)), .fa 1 (.t 177), []⟩, ⟨some 179, (some (173, false)), .ld 5 true (.t 178), []⟩, ⟨some 180, (some (173, false)), .call 45 [(.t 179)], []⟩, ⟨some 181, (some (173, false)), .not (.t 180), []⟩, ⟨some 182, none, .pick (.t 173) (.k (.bool true)) (.t 181), []⟩])
 (.cond (.t 182) (.seq (.reg [] [⟨some 2, none, .mv (.k (.bool false)), []⟩])
 (.ret)) (.skip))))
 (.reg [] [⟨some 163, none, .mv (.t 7), []⟩, ⟨some 164, none, .bi .add .i64 (.t 163) (.k (.int .i64 1)), []⟩, ⟨some 7, none, .mv (.t 164), []⟩]))))))
 (.seq (.reg [] [⟨some 2, none, .mv (.k (.bool true)), []⟩])
 (.ret))) (.skip)))))))))))))))))))
 (.seq (.reg [] [⟨some 2, none, .mv (.k (.bool false)), []⟩])
 (.ret)))))⟩
theorem ck45 : chkFn Tryz.prog 45 ir45 = true := by kernel_rfl
def ir47 : AFn := ⟨32, 3, [.t 6], .seq (.reg [] [⟨some 6, none, .mv (.k (.bool false)), []⟩])
 (.seq (.seq (.reg [] [⟨some 10, none, .mv (.t 0), []⟩, ⟨some 11, none, .len (.t 10), []⟩, ⟨some 12, none, .mv (.t 1), []⟩, ⟨some 13, none, .len (.t 12), []⟩, ⟨some 14, none, .bi .neq .i64 (.t 11) (.t 13), []⟩])
 (.cond (.t 14) (.seq (.reg [] [⟨some 6, none, .mv (.k (.bool false)), []⟩])
 (.ret)) (.skip)))
 (.seq (.seq (.reg [] [⟨some 15, none, .mv (.t 0), []⟩, ⟨some 16, none, .len (.t 15), []⟩, ⟨some 17, none, .mv (.k (.int .i64 0)), []⟩])
 (.block 0 (.loop [1, 2, 15, 16, 17] (.seq (.reg [] [⟨some 18, none, .bi .lss .i64 (.t 17) (.t 16), []⟩])
 (.seq (.cond (.t 18) (.skip) (.exit 0))
 (.seq (.block 1 (.seq (.reg [] [⟨some 19, none, .mv (.t 17), []⟩, ⟨some 20, none, .ia 5 (.t 15) (.t 17), []⟩, ⟨some 21, none, .ld 5 true (.t 20), []⟩, ⟨some 8, none, .alloc [.int .i64 0, .int .i64 0, .str [], .sl .nil 5 [], .sl .nil 6 []], []⟩, ⟨some 7, none, .mv (.t 19), []⟩, ⟨none, none, .st 5 (.t 8) (.t 21), []⟩])
 (.seq (.reg [] [⟨some 22, none, .mv (.t 1), []⟩, ⟨some 23, none, .mv (.t 7), []⟩, ⟨some 24, none, .ia 5 (.t 22) (.t 23), []⟩, ⟨some 25, none, .ld 5 true (.t 24), []⟩, ⟨some 9, none, .alloc [.int .i64 0, .int .i64 0, .str [], .sl .nil 5 [], .sl .nil 6 []], []⟩, ⟨none, none, .st 5 (.t 9) (.t 25), []⟩])
 (.seq (.reg [] [⟨some 26, none, .mv (.t 2), []⟩, ⟨some 27, none, .ld 5 true (.t 8), []⟩, ⟨some 28, none, .ld 5 true (.t 9), []⟩, ⟨some 29, none, .callv (.t 26) [(.t 27), (.t 28)], []⟩, ⟨some 30, none, .not (.t 29), []⟩])
 (.cond (.t 30) (.seq (.reg [] [⟨some 6, none, .mv (.k (.bool false)), []⟩])
 (.ret)) (.skip))))))
 (.reg [] [⟨some 31, none, .bi .add .i64 (.t 17) (.k (.int .i64 1)), []⟩, ⟨some 17, none, .mv (.t 31), []⟩])))))))
 (.seq (.reg [] [⟨some 6, none, .mv (.k (.bool true)), []⟩])
 (.ret))))⟩
theorem ck47 : chkFn Tryz.prog 47 ir47 = true := by kernel_rfl
def ir48 : AFn := ⟨32, 3, [.t 6], .seq (.reg [] [⟨some 6, none, .mv (.k (.bool false)), []⟩])
 (.seq (.seq (.reg [] [⟨some 10, none, .mv (.t 0), []⟩, ⟨some 11, none, .len (.t 10), []⟩, ⟨some 12, none, .mv (.t 1), []⟩, ⟨some 13, none, .len (.t 12), []⟩, ⟨some 14, none, .bi .neq .i64 (.t 11) (.t 13), []⟩])
 (.cond (.t 14) (.seq (.reg [] [⟨some 6, none, .mv (.k (.bool false)), []⟩])
 (.ret)) (.skip)))
 (.seq (.seq (.reg [] [⟨some 15, none, .mv (.t 0), []⟩, ⟨some 16, none, .len (.t 15), []⟩, ⟨some 17, none, .mv (.k (.int .i64 0)), []⟩])
 (.block 0 (.loop [1, 2, 15, 16, 17] (.seq (.reg [] [⟨some 18, none, .bi .lss .i64 (.t 17) (.t 16), []⟩])
 (.seq (.cond (.t 18) (.skip) (.exit 0))
 (.seq (.block 1 (.seq (.reg [] [⟨some 19, none, .mv (.t 17), []⟩, ⟨some 20, none, .ia 6 (.t 15) (.t 17), []⟩, ⟨some 21, none, .ld 6 true (.t 20), []⟩, ⟨some 8, none, .alloc [.str [], .int .i64 0, .int .i64 0, .str [], .sl .nil 5 [], .sl .nil 6 []], []⟩, ⟨some 7, none, .mv (.t 19), []⟩, ⟨none, none, .st 6 (.t 8) (.t 21), []⟩])
 (.seq (.reg [] [⟨some 22, none, .mv (.t 1), []⟩, ⟨some 23, none, .mv (.t 7), []⟩, ⟨some 24, none, .ia 6 (.t 22) (.t 23), []⟩, ⟨some 25, none, .ld 6 true (.t 24), []⟩, ⟨some 9, none, .alloc [.str [], .int .i64 0, .int .i64 0, .str [], .sl .nil 5 [], .sl .nil 6 []], []⟩, ⟨none, none, .st 6 (.t 9) (.t 25), []⟩])
 (.seq (.reg [] [⟨some 26, none, .mv (.t 2), []⟩, ⟨some 27, none, .ld 6 true (.t 8), []⟩, ⟨some 28, none, .ld 6 true (.t 9), []⟩, ⟨some 29, none, .callv (.t 26) [(.t 27), (.t 28)], []⟩, ⟨some 30, none, .not (.t 29), []⟩])
 (.cond (.t 30) (.seq (.reg [] [⟨some 6, none, .mv (.k (.bool false)), []⟩])
 (.ret)) (.skip))))))
 (.reg [] [⟨some 31, none, .bi .add .i64 (.t 17) (.k (.int .i64 1)), []⟩, ⟨some 17, none, .mv (.t 31), []⟩])))))))
 (.seq (.reg [] [⟨some 6, none, .mv (.k (.bool true)), []⟩])
 (.ret))))⟩
theorem ck48 : chkFn Tryz.prog 48 ir48 = true := by kernel_rfl
def ir49 : AFn := ⟨17, 2, [.t 4], .seq (.reg [] [⟨some 2, none, .boxv (.t 0), []⟩, ⟨some 3, none, .boxv (.t 1), []⟩, ⟨some 4, none, .mv (.k (.bool false)), []⟩])
 (.seq (.reg [] [⟨some 5, none, .fa 0 (.t 2), []⟩, ⟨some 6, none, .ld 1 false (.t 5), []⟩, ⟨some 7, none, .fa 0 (.t 3), []⟩, ⟨some 8, none, .ld 1 false (.t 7), []⟩, ⟨some 9, none, .bs .eql (.t 6) (.t 8), []⟩, ⟨some 10, none, .mv (.t 9), []⟩, ⟨some 11, (some (10, true)), .fa 1 (.t 2), []⟩, ⟨some 12, (some (10, true)), .ld 5 true (.t 11), []⟩, ⟨some 13, (some (10, true)), .fa 1 (.t 3), []⟩, ⟨some 14, (some (10, true)), .ld 5 true (.t 13), []⟩, ⟨some 15, (some (10, true)), .call 23 [(.t 12), (.t 14)], []⟩, ⟨some 16, none, .pick (.t 10) (.t 15) (.k (.bool false)), []⟩, ⟨some 4, none, .mv (.t 16), []⟩])
 (.ret))⟩
theorem ck49 : chkFn Tryz.prog 49 ir49 = true := by kernel_rfl
def ir62 : AFn := ⟨5, 1, [.c 2 5 true], .seq (.reg [] [⟨some 2, none, .alloc [.int .i64 0, .int .i64 0, .str [], .sl .nil 5 [], .sl .nil 6 []], []⟩])
 (.seq (.reg [] [⟨some 3, none, .mv (.t 0), []⟩, ⟨some 4, none, .bld [.int .i64 0, .int .i64 0, .str [], .sl .nil 5 [], .sl .nil 6 []] [(0, 1, (.k (.int .i64 4))), (2, 1, (.t 3))], []⟩, ⟨none, none, .st 5 (.t 2) (.t 4), []⟩])
 (.ret))⟩
theorem ck62 : chkFn Tryz.prog 62 ir62 = true := by kernel_rfl
def ir69 : AFn := ⟨28, 1, [.t 2, .t 3], .seq (.reg [] [⟨some 2, none, .mv (.k (.sl .nil 1 [])), []⟩, ⟨some 3, none, .mv (.k (.bool false)), []⟩])
 (.seq (.reg [] [⟨some 4, none, .mv (.k (.sl .nil 1 [])), []⟩])
 (.seq (.seq (.reg [] [⟨some 5, none, .mv (.k (.int .i64 0)), []⟩])
 (.block 0 (.loop [0, 4, 5] (.seq (.seq (.reg [] [⟨some 8, none, .mv (.t 5), []⟩, ⟨some 9, none, .mv (.t 0), []⟩, ⟨some 10, none, .lens (.t 9), []⟩, ⟨some 11, none, .bi .lss .i64 (.t 8) (.t 10), []⟩])
 (.cond (.t 11) (.skip) (.exit 0)))
 (.block 1 (.seq (.reg [] [⟨some 13, none, .mv (.t 0), []⟩, ⟨some 14, none, .mv (.t 5), []⟩, ⟨some 15, none, .call 115 [(.t 13), (.t 14)], []⟩, ⟨some 12, none, .mv (.t 15), []⟩, ⟨some 16, none, .ext (.t 12) 0, []⟩, ⟨some 17, none, .ext (.t 12) 1, []⟩, ⟨some 6, none, .mv (.t 16), []⟩, ⟨some 7, none, .mv (.t 17), []⟩])
 (.seq (.seq (.reg [] [⟨some 18, none, .mv (.t 7), []⟩, ⟨some 19, none, .bi .eql .i64 (.t 18) (.k (.int .i64 0)), []⟩])
 (.cond (.t 19) (.seq (.reg [] [⟨some 2, none, .mv (.k (.sl .nil 1 [])), []⟩, ⟨some 3, none, .mv (.k (.bool false)), []⟩])
 (.ret)) (.skip)))
 (.seq (.reg [] [⟨some 20, none, .mv (.t 4), []⟩, ⟨some 21, none, .mv (.t 6), []⟩, ⟨some 22, none, .bls 1 1 [.int .i64 0] [(0, (.t 21))], []⟩, ⟨some 23, none, .app 1 8 (.t 20) (.t 22), []⟩, ⟨some 4, none, .mv (.t 23), []⟩])
 (.reg [] [⟨some 24, none, .mv (.t 5), []⟩, ⟨some 25, none, .mv (.t 7), []⟩, ⟨some 26, none, .bi .add .i64 (.t 24) (.t 25), []⟩, ⟨some 5, none, .mv (.t 26), []⟩])))))))))
 (.seq (.reg [] [⟨some 27, none, .mv (.t 4), []⟩, ⟨some 2, none, .mv (.t 27), []⟩, ⟨some 3, none, .mv (.k (.bool true)), []⟩])
 (.ret))))⟩
theorem ck69 : chkFn Tryz.prog 69 ir69 = true := by kernel_rfl
def ir77 : AFn := ⟨8, 2, [.t 4], .seq (.reg [] [⟨some 4, none, .mv (.k (.sl .nil 1 [])), []⟩])
 (.seq (.reg [] [⟨some 5, none, .mv (.t 0), []⟩, ⟨some 6, none, .mv (.t 1), []⟩, ⟨some 7, none, .call 121 [(.t 5), (.t 6)], []⟩, ⟨some 4, none, .mv (.t 7), []⟩])
 (.ret))⟩
theorem ck77 : chkFn Tryz.prog 77 ir77 = true := by kernel_rfl
def ir78 : AFn := ⟨11, 3, [.t 6], .seq (.reg [] [⟨some 6, none, .mv (.k (.sl .nil 1 [])), []⟩])
 (.seq (.reg [] [⟨some 7, none, .mv (.t 0), []⟩, ⟨some 8, none, .mv (.t 1), []⟩, ⟨some 9, none, .mv (.t 2), []⟩, ⟨some 10, none, .call 122 [(.t 7), (.t 8), (.t 9)], []⟩, ⟨some 6, none, .mv (.t 10), []⟩])
 (.ret))⟩
theorem ck78 : chkFn Tryz.prog 78 ir78 = true := by kernel_rfl
def ir80 : AFn := ⟨31, 1, [.t 2], .seq (.reg [] [⟨some 2, none, .mv (.k (.str [])), []⟩])
 (.seq (.seq (.reg [] [⟨some 6, none, .mv (.t 0), []⟩, ⟨some 7, none, .bi .eql .i64 (.t 6) (.k (.int .i64 0)), []⟩])
 (.cond (.t 7) (.seq (.reg [] [⟨some 2, none, .mv (.k (.str [48])), []⟩])
 (.ret)) (.skip)))
 (.seq (.reg [] [⟨some 3, none, .mv (.k (.str [])), []⟩])
 (.seq (.seq (.reg [] [⟨some 8, none, .mv (.t 0), []⟩, ⟨some 4, none, .mv (.t 8), []⟩])
 (.block 0 (.loop [0, 3, 4] (.seq (.seq (.reg [] [⟨some 9, none, .mv (.t 4), []⟩, ⟨some 10, none, .bi .neq .i64 (.t 9) (.k (.int .i64 0)), []⟩])
 (.cond (.t 10) (.skip) (.exit 0)))
 (.seq (.block 1 (.seq (.reg [] [⟨some 13, none, .mv (.t 4), []⟩, ⟨some 14, none, .bi .rem .i64 (.t 13) (.k (.int .i64 10)), []⟩, ⟨some 5, none, .mv (.t 14), []⟩])
 (.seq (.seq (.reg [] [⟨some 15, none, .mv (.t 5), []⟩, ⟨some 16, none, .bi .lss .i64 (.t 15) (.k (.int .i64 0)), []⟩])
 (.cond (.t 16) (.reg [] [⟨some 17, none, .mv (.t 5), []⟩, ⟨some 18, none, .ineg (.t 17), []⟩, ⟨some 5, none, .mv (.t 18), []⟩]) (.skip)))
 (.reg [] [⟨some 19, none, .mv (.t 5), []⟩, ⟨some 20, none, .bi .add .i64 (.k (.int .i64 48)) (.t 19), []⟩, ⟨some 21, none, .cvi .u8 (.t 20), []⟩, ⟨some 22, none, .bls 1 1 [.int .u8 0] [(0, (.t 21))], []⟩, ⟨some 23, none, .cvb2s (.t 22), []⟩, ⟨some 24, none, .mv (.t 3), []⟩, ⟨some 25, none, .bs .add (.t 23) (.t 24), []⟩, ⟨some 3, none, .mv (.t 25), []⟩]))))
 (.reg [] [⟨some 11, none, .mv (.t 4), []⟩, ⟨some 12, none, .bi .quo .i64 (.t 11) (.k (.int .i64 10)), []⟩, ⟨some 4, none, .mv (.t 12), []⟩]))))))
 (.seq (.seq (.reg [] [⟨some 26, none, .mv (.t 0), []⟩, ⟨some 27, none, .bi .lss .i64 (.t 26) (.k (.int .i64 0)), []⟩])
 (.cond (.t 27) (.seq (.reg [] [⟨some 28, none, .mv (.t 3), []⟩, ⟨some 29, none, .bs .add (.k (.str [45])) (.t 28), []⟩, ⟨some 2, none, .mv (.t 29), []⟩])
 (.ret)) (.skip)))
 (.seq (.reg [] [⟨some 30, none, .mv (.t 3), []⟩, ⟨some 2, none, .mv (.t 30), []⟩])
 (.ret))))))⟩
theorem ck80 : chkFn Tryz.prog 80 ir80 = true := by kernel_rfl
def ir82 : AFn := ⟨60, 2, [.t 4], .seq (.reg [] [⟨some 2, none, .boxv (.t 0), []⟩, ⟨some 4, none, .mv (.k (.bool false)), []⟩])
 (.scope (.seq (.reg [] [⟨some 11, none, .ld 5 true (.t 2), []⟩, ⟨some 5, none, .alloc [.int .i64 0, .int .i64 0, .str [], .sl .nil 5 [], .sl .nil 6 []], []⟩, ⟨none, none, .st 5 (.t 5) (.t 11), []⟩])
 (.seq (.reg [] [⟨some 6, none, .mv (.k (.bool true)), []⟩])
 (.seq (.skip)
 (.seq (.seq (.reg [] [⟨some 12, none, .fa 0 (.t 2), []⟩, ⟨some 13, none, .ld 1 false (.t 12), []⟩])
 (.block 0 (.seq (.reg [] [⟨some 17, none, .bi .eql .i64 (.t 13) (.k (.int .i64 6)), []⟩, ⟨some 16, none, .mv (.t 17), []⟩])
 (.cond (.t 16) (.seq (.reg [] [⟨some 18, none, .fa 3 (.t 5), []⟩, ⟨none, none, .st 1 (.t 18) (.k (.sl .nil 5 [])), []⟩])
 (.seq (.reg [] [⟨some 19, none, .fa 3 (.t 2), []⟩, ⟨some 20, none, .ld 1 false (.t 19), []⟩, ⟨some 21, none, .len (.t 20), []⟩, ⟨some 22, none, .mv (.k (.int .i64 0)), []⟩])
 (.block 1 (.loop [1, 5, 6, 20, 21, 22] (.seq (.reg [] [⟨some 23, none, .bi .lss .i64 (.t 22) (.t 21), []⟩])
 (.seq (.cond (.t 23) (.skip) (.exit 1))
 (.seq (.block 2 (.seq (.reg [] [⟨some 24, none, .ia 5 (.t 20) (.t 22), []⟩, ⟨some 25, none, .ld 5 true (.t 24), []⟩, ⟨some 8, none, .alloc [.int .i64 0, .int .i64 0, .str [], .sl .nil 5 [], .sl .nil 6 []], []⟩, ⟨none, none, .st 5 (.t 8) (.t 25), []⟩])
 (.seq (.reg [] [⟨some 26, none, .ld 5 true (.t 8), []⟩, ⟨some 27, none, .mv (.t 1), []⟩, ⟨some 28, none, .call 82 [(.t 26), (.t 27)], []⟩, ⟨some 6, none, .mv (.t 28), []⟩])
 (.seq (.reg [] [⟨some 29, none, .mv (.t 6), []⟩, ⟨some 30, none, .not (.t 29), []⟩])
 (.cond (.t 30) (.exit 0) (.skip))))))
 (.reg [] [⟨some 31, none, .bi .add .i64 (.t 22) (.k (.int .i64 1)), []⟩, ⟨some 22, none, .mv (.t 31), []⟩])))))))) (.seq (.reg [] [⟨some 33, none, .bi .eql .i64 (.t 13) (.k (.int .i64 7)), []⟩, ⟨some 32, none, .mv (.t 33), []⟩])
 (.cond (.t 32) (.seq (.reg [] [⟨some 34, none, .fa 4 (.t 5), []⟩, ⟨none, none, .st 1 (.t 34) (.k (.sl .nil 6 [])), []⟩])
 (.seq (.reg [] [⟨some 35, none, .fa 4 (.t 2), []⟩, ⟨some 36, none, .ld 1 false (.t 35), []⟩, ⟨some 37, none, .len (.t 36), []⟩, ⟨some 38, none, .mv (.k (.int .i64 0)), []⟩])
 (.block 3 (.loop [1, 5, 6, 36, 37, 38] (.seq (.reg [] [⟨some 39, none, .bi .lss .i64 (.t 38) (.t 37), []⟩])
 (.seq (.cond (.t 39) (.skip) (.exit 3))
 (.seq (.block 4 (.seq (.reg [] [⟨some 40, none, .ia 6 (.t 36) (.t 38), []⟩, ⟨some 41, none, .ld 6 true (.t 40), []⟩, ⟨some 10, none, .alloc [.str [], .int .i64 0, .int .i64 0, .str [], .sl .nil 5 [], .sl .nil 6 []], []⟩, ⟨none, none, .st 6 (.t 10) (.t 41), []⟩])
 (.seq (.reg [] [⟨some 42, none, .mv (.t 1), []⟩, ⟨some 43, none, .fa 0 (.t 10), []⟩, ⟨some 44, none, .ld 1 false (.t 43), []⟩, ⟨some 45, none, .callv (.t 42) [(.t 44)], []⟩, ⟨some 46, none, .mv (.t 45), []⟩, ⟨some 47, (some (46, true)), .fa 1 (.t 10), []⟩, ⟨some 48, (some (46, true)), .ld 5 true (.t 47), []⟩, ⟨some 49, (some (46, true)), .mv (.t 1), []⟩, ⟨some 50, (some (46, true)), .call 82 [(.t 48), (.t 49)], []⟩, ⟨some 51, none, .pick (.t 46) (.t 50) (.k (.bool false)), []⟩, ⟨some 6, none, .mv (.t 51), []⟩])
 (.seq (.reg [] [⟨some 52, none, .mv (.t 6), []⟩, ⟨some 53, none, .not (.t 52), []⟩])
 (.cond (.t 53) (.exit 0) (.skip))))))
 (.reg [] [⟨some 54, none, .bi .add .i64 (.t 38) (.k (.int .i64 1)), []⟩, ⟨some 38, none, .mv (.t 54), []⟩])))))))) (.seq (.reg [] [⟨some 14, none, .ld 5 true (.t 2), []⟩, ⟨some 15, none, .call 123 [(.t 14)], []⟩, ⟨some 4, none, .mv (.t 15), []⟩])
 (.ret))))))))
 (.seq (.reg [] [⟨some 55, none, .mv (.t 6), []⟩, ⟨some 56, none, .mv (.t 55), []⟩, ⟨some 57, (some (56, true)), .ld 5 true (.t 5), []⟩, ⟨some 58, (some (56, true)), .call 124 [(.t 57)], []⟩, ⟨some 59, none, .pick (.t 56) (.t 58) (.k (.bool false)), []⟩, ⟨some 4, none, .mv (.t 59), []⟩])
 (.ret)))))))⟩
theorem ck82 : chkFn Tryz.prog 82 ir82 = true := by kernel_rfl
def ir83 : AFn := ⟨15, 1, [.t 2], .seq (.reg [] [⟨some 2, none, .mv (.k (.int .i64 0)), []⟩])
 (.seq (.reg [] [⟨some 6, none, .mv (.t 0), []⟩, ⟨some 7, none, .call 125 [(.t 6)], []⟩, ⟨some 5, none, .mv (.t 7), []⟩, ⟨some 8, none, .ext (.t 5) 0, []⟩, ⟨some 9, none, .ext (.t 5) 1, []⟩, ⟨some 3, none, .mv (.t 8), []⟩, ⟨some 4, none, .mv (.t 9), []⟩])
 (.seq (.seq (.reg [] [⟨some 10, none, .mv (.t 3), []⟩, ⟨some 11, none, .mv (.t 0), []⟩, ⟨some 12, none, .lens (.t 11), []⟩, ⟨some 13, none, .bi .neq .i64 (.t 10) (.t 12), []⟩])
 (.cond (.t 13) (.seq (.reg [] [⟨some 2, none, .mv (.k (.int .i64 0)), []⟩])
 (.ret)) (.skip)))
 (.seq (.reg [] [⟨some 14, none, .mv (.t 4), []⟩, ⟨some 2, none, .mv (.t 14), []⟩])
 (.ret))))⟩
theorem ck83 : chkFn Tryz.prog 83 ir83 = true := by kernel_rfl
def ir84 : AFn := ⟨41, 1, [.t 2, .t 3], .seq (.reg [] [⟨some 2, none, .mv (.k (.int .i64 0)), []⟩, ⟨some 3, none, .mv (.k (.bool false)), []⟩])
 (.seq (.reg [] [⟨some 4, none, .mv (.k (.int .i64 0)), []⟩, ⟨some 5, none, .mv (.k (.bool false)), []⟩])
 (.join [0, 4, 5] (.seq (.reg [] [⟨some 8, none, .mv (.t 0), []⟩, ⟨some 9, none, .bs .neq (.t 8) (.k (.str [])), []⟩, ⟨some 10, none, .mv (.t 9), []⟩, ⟨some 11, (some (10, true)), .mv (.t 0), []⟩, ⟨some 12, (some (10, true)), .ixs (.t 11) (.k (.int .i64 0)), []⟩, ⟨some 13, (some (10, true)), .bi .eql .u8 (.t 12) (.k (.int .u8 45)), []⟩, ⟨some 14, none, .pick (.t 10) (.t 13) (.k (.bool false)), []⟩])
 (.cond (.t 14) (.reg [] [⟨some 4, none, .mv (.k (.int .i64 1)), []⟩, ⟨some 5, none, .mv (.k (.bool true)), []⟩]) (.skip)))
 (.seq (.reg [] [⟨some 6, none, .mv (.k (.int .i64 0)), []⟩])
 (.seq (.block 0 (.loop [0, 4, 5, 6] (.seq (.seq (.reg [] [⟨some 15, none, .mv (.t 4), []⟩, ⟨some 16, none, .mv (.t 0), []⟩, ⟨some 17, none, .lens (.t 16), []⟩, ⟨some 18, none, .bi .lss .i64 (.t 15) (.t 17), []⟩])
 (.cond (.t 18) (.skip) (.exit 0)))
 (.seq (.block 1 (.seq (.reg [] [⟨some 21, none, .mv (.t 0), []⟩, ⟨some 22, none, .mv (.t 4), []⟩, ⟨some 23, none, .ixs (.t 21) (.t 22), []⟩, ⟨some 24, none, .bi .sub .u8 (.t 23) (.k (.int .u8 48)), []⟩, ⟨some 25, none, .cvi .i64 (.t 24), []⟩, ⟨some 7, none, .mv (.t 25), []⟩])
 (.seq (.seq (.reg [] [⟨some 26, none, .mv (.t 6), []⟩, ⟨some 27, none, .mv (.t 7), []⟩, ⟨some 28, none, .bi .add .i64 (.k (.int .i64 (-9223372036854775808))) (.t 27), []⟩, ⟨some 29, none, .bi .quo .i64 (.t 28) (.k (.int .i64 10)), []⟩, ⟨some 30, none, .bi .lss .i64 (.t 26) (.t 29), []⟩])
 (.cond (.t 30) (.seq (.reg [] [⟨some 2, none, .mv (.k (.int .i64 0)), []⟩, ⟨some 3, none, .mv (.k (.bool false)), []⟩])
 (.ret)) (.skip)))
 (.reg [] [⟨some 31, none, .mv (.t 6), []⟩, ⟨some 32, none, .bi .mul .i64 (.k (.int .i64 10)) (.t 31), []⟩, ⟨some 33, none, .mv (.t 7), []⟩, ⟨some 34, none, .bi .sub .i64 (.t 32) (.t 33), []⟩, ⟨some 6, none, .mv (.t 34), []⟩]))))
 (.reg [] [⟨some 19, none, .mv (.t 4), []⟩, ⟨some 20, none, .bi .add .i64 (.t 19) (.k (.int .i64 1)), []⟩, ⟨some 4, none, .mv (.t 20), []⟩])))))
 (.seq (.seq (.reg [] [⟨some 35, none, .mv (.t 5), []⟩])
 (.cond (.t 35) (.seq (.reg [] [⟨some 36, none, .mv (.t 6), []⟩, ⟨some 2, none, .mv (.t 36), []⟩, ⟨some 3, none, .mv (.k (.bool true)), []⟩])
 (.ret)) (.skip)))
 (.seq (.seq (.reg [] [⟨some 37, none, .mv (.t 6), []⟩, ⟨some 38, none, .bi .eql .i64 (.t 37) (.k (.int .i64 (-9223372036854775808))), []⟩])
 (.cond (.t 38) (.seq (.reg [] [⟨some 2, none, .mv (.k (.int .i64 0)), []⟩, ⟨some 3, none, .mv (.k (.bool false)), []⟩])
 (.ret)) (.skip)))
 (.seq (.reg [] [⟨some 39, none, .mv (.t 6), []⟩, ⟨some 40, none, .ineg (.t 39), []⟩, ⟨some 2, none, .mv (.t 40), []⟩, ⟨some 3, none, .mv (.k (.bool true)), []⟩])
 (.ret))))))))⟩
theorem ck84 : chkFn Tryz.prog 84 ir84 = true := by kernel_rfl
def ir85 : AFn := ⟨30, 1, [.t 2], .seq (.reg [] [⟨some 2, none, .mv (.k (.bool false)), []⟩])
 (.seq (.seq (.reg [] [⟨some 4, none, .mv (.t 0), []⟩, ⟨some 5, none, .bs .eql (.t 4) (.k (.str [])), []⟩, ⟨some 6, none, .mv (.t 5), []⟩, ⟨some 7, (some (6, false)), .mv (.t 0), []⟩, ⟨some 8, (some (6, false)), .ixs (.t 7) (.k (.int .i64 0)), []⟩, ⟨some 9, (some (6, false)), .call 126 [(.t 8)], []⟩, ⟨some 10, (some (6, false)), .not (.t 9), []⟩, ⟨some 11, none, .pick (.t 6) (.k (.bool true)) (.t 10), []⟩])
 (.cond (.t 11) (.seq (.reg [] [⟨some 2, none, .mv (.k (.bool false)), []⟩])
 (.ret)) (.skip)))
 (.seq (.seq (.reg [] [⟨some 3, none, .mv (.k (.int .i64 1)), []⟩])
 (.block 0 (.loop [0, 3] (.seq (.seq (.reg [] [⟨some 12, none, .mv (.t 3), []⟩, ⟨some 13, none, .mv (.t 0), []⟩, ⟨some 14, none, .lens (.t 13), []⟩, ⟨some 15, none, .bi .lss .i64 (.t 12) (.t 14), []⟩])
 (.cond (.t 15) (.skip) (.exit 0)))
 (.seq (.block 1 (.seq (.reg [] [⟨some 18, none, .mv (.t 0), []⟩, ⟨some 19, none, .mv (.t 3), []⟩, ⟨some 20, none, .ixs (.t 18) (.t 19), []⟩, ⟨some 21, none, .call 126 [(.t 20)], []⟩, ⟨some 22, none, .not (.t 21), []⟩, ⟨some 23, none, .mv (.t 22), []⟩, ⟨some 24, (some (23, true)), .mv (.t 0), []⟩, ⟨some 25, (some (23, true)), .mv (.t 3), []⟩, ⟨some 26, (some (23, true)), .ixs (.t 24) (.t 25), []⟩, ⟨some 27, (some (23, true)), .call 127 [(.t 26)], []⟩, ⟨some 28, (some (23, true)), .not (.t 27), []⟩, ⟨some 29, none, .pick (.t 23) (.t 28) (.k (.bool false)), []⟩])
 (.cond (.t 29) (.seq (.reg [] [⟨some 2, none, .mv (.k (.bool false)), []⟩])
 (.ret)) (.skip))))
 (.reg [] [⟨some 16, none, .mv (.t 3), []⟩, ⟨some 17, none, .bi .add .i64 (.t 16) (.k (.int .i64 1)), []⟩, ⟨some 3, none, .mv (.t 17), []⟩]))))))
 (.seq (.reg [] [⟨some 2, none, .mv (.k (.bool true)), []⟩])
 (.ret))))⟩
theorem ck85 : chkFn Tryz.prog 85 ir85 = true := by kernel_rfl
def ir86 : AFn := ⟨28, 1, [.t 2], .seq (.reg [] [⟨some 2, none, .mv (.k (.bool false)), []⟩])
 (.seq (.seq (.reg [] [⟨some 4, none, .mv (.t 0), []⟩, ⟨some 5, none, .lens (.t 4), []⟩, ⟨some 6, none, .mv (.k (.int .i64 0)), []⟩])
 (.block 0 (.loop [0, 5, 6] (.seq (.reg [] [⟨some 7, none, .bi .lss .i64 (.t 6) (.t 5), []⟩])
 (.seq (.cond (.t 7) (.skip) (.exit 0))
 (.seq (.block 1 (.seq (.reg [] [⟨some 8, none, .mv (.t 6), []⟩, ⟨some 3, none, .mv (.t 8), []⟩])
 (.seq (.reg [] [⟨some 9, none, .mv (.t 0), []⟩, ⟨some 10, none, .mv (.t 3), []⟩, ⟨some 11, none, .ixs (.t 9) (.t 10), []⟩, ⟨some 12, none, .call 104 [(.t 11)], []⟩, ⟨some 13, none, .not (.t 12), []⟩, ⟨some 14, none, .mv (.t 13), []⟩, ⟨some 15, (some (14, true)), .mv (.t 3), []⟩, ⟨some 16, (some (14, true)), .bi .eql .i64 (.t 15) (.k (.int .i64 0)), []⟩, ⟨some 17, (some (14, true)), .mv (.t 16), []⟩, ⟨some 18, (some (17, false)), .mv (.t 0), []⟩, ⟨some 19, (some (17, false)), .mv (.t 3), []⟩, ⟨some 20, (some (17, false)), .ixs (.t 18) (.t 19), []⟩, ⟨some 21, (some (17, false)), .call 107 [(.t 20)], []⟩, ⟨some 22, (some (17, false)), .not (.t 21), []⟩, ⟨some 23, (some (14, true)), .pick (.t 17) (.k (.bool true)) (.t 22), []⟩, ⟨some 24, none, .pick (.t 14) (.t 23) (.k (.bool false)), []⟩])
 (.cond (.t 24) (.seq (.reg [] [⟨some 2, none, .mv (.k (.bool false)), []⟩])
 (.ret)) (.skip)))))
 (.reg [] [⟨some 25, none, .bi .add .i64 (.t 6) (.k (.int .i64 1)), []⟩, ⟨some 6, none, .mv (.t 25), []⟩])))))))
 (.seq (.reg [] [⟨some 26, none, .mv (.t 0), []⟩, ⟨some 27, none, .bs .neq (.t 26) (.k (.str [])), []⟩, ⟨some 2, none, .mv (.t 27), []⟩])
 (.ret)))⟩
theorem ck86 : chkFn Tryz.prog 86 ir86 = true := by kernel_rfl
def ir90 : AFn := ⟨15, 1, [.t 2], .seq (.reg [] [⟨some 2, none, .mv (.k (.int .i64 0)), []⟩])
 (.seq (.reg [] [⟨some 6, none, .mv (.t 0), []⟩, ⟨some 7, none, .call 106 [(.t 6)], []⟩, ⟨some 5, none, .mv (.t 7), []⟩, ⟨some 8, none, .ext (.t 5) 0, []⟩, ⟨some 9, none, .ext (.t 5) 1, []⟩, ⟨some 3, none, .mv (.t 8), []⟩, ⟨some 4, none, .mv (.t 9), []⟩])
 (.seq (.seq (.reg [] [⟨some 10, none, .mv (.t 3), []⟩, ⟨some 11, none, .mv (.t 0), []⟩, ⟨some 12, none, .lens (.t 11), []⟩, ⟨some 13, none, .bi .neq .i64 (.t 10) (.t 12), []⟩])
 (.cond (.t 13) (.seq (.reg [] [⟨some 2, none, .mv (.k (.int .i64 0)), []⟩])
 (.ret)) (.skip)))
 (.seq (.reg [] [⟨some 14, none, .mv (.t 4), []⟩, ⟨some 2, none, .mv (.t 14), []⟩])
 (.ret))))⟩
theorem ck90 : chkFn Tryz.prog 90 ir90 = true := by kernel_rfl
def ir102 : AFn := ⟨75, 2, [.t 4, .t 5], .seq (.reg [] [⟨some 4, none, .mv (.k (.str [])), []⟩, ⟨some 5, none, .mv (.k (.int .i64 0)), []⟩])
 (.scope (.seq (.reg [] [⟨some 9, none, .bld [.sl .nil 1 [], .sl .nil 1 [], .bool false] [(2, 1, (.k (.bool true)))], []⟩, ⟨some 10, none, .box (.t 9), []⟩, ⟨some 6, none, .mv (.t 10), []⟩])
 (.seq (.reg [] [⟨some 7, none, .mv (.k (.int .i64 1)), []⟩])
 (.seq (.skip)
 (.seq (.block 0 (.loop [0, 1, 6, 7] (.block 1 (.seq (.block 2 (.seq (.reg [] [⟨some 12, none, .mv (.t 7), []⟩, ⟨some 13, none, .mv (.t 0), []⟩, ⟨some 14, none, .lens (.t 13), []⟩, ⟨some 15, none, .bi .geq .i64 (.t 12) (.t 14), []⟩, ⟨some 11, none, .mv (.t 15), []⟩])
 (.cond (.t 11) (.seq (.reg [] [⟨some 4, none, .mv (.k (.str [])), []⟩, ⟨some 5, none, .mv (.k (.int .i64 0)), []⟩])
 (.ret)) (.seq (.reg [] [⟨some 17, none, .mv (.t 0), []⟩, ⟨some 18, none, .mv (.t 7), []⟩, ⟨some 19, none, .ixs (.t 17) (.t 18), []⟩, ⟨some 20, none, .bi .eql .u8 (.t 19) (.k (.int .u8 34)), []⟩, ⟨some 16, none, .mv (.t 20), []⟩])
 (.cond (.t 16) (.exit 0) (.seq (.reg [] [⟨some 22, none, .mv (.t 0), []⟩, ⟨some 23, none, .mv (.t 7), []⟩, ⟨some 24, none, .ixs (.t 22) (.t 23), []⟩, ⟨some 25, none, .bi .eql .u8 (.t 24) (.k (.int .u8 92)), []⟩, ⟨some 21, none, .mv (.t 25), []⟩])
 (.cond (.t 21) (.seq (.reg [] [⟨some 26, none, .mv (.t 6), []⟩, ⟨some 27, none, .mv (.t 0), []⟩, ⟨some 28, none, .mv (.t 7), []⟩, ⟨some 29, none, .bi .add .i64 (.t 28) (.k (.int .i64 1)), []⟩, ⟨some 30, none, .sls (.t 27) (some (.t 29)) none, []⟩, ⟨some 31, none, .call 139 [(.t 26), (.t 30)], []⟩, ⟨some 8, none, .mv (.t 31), []⟩])
 (.seq (.seq (.reg [] [⟨some 32, none, .mv (.t 8), []⟩, ⟨some 33, none, .bi .eql .i64 (.t 32) (.k (.int .i64 0)), []⟩])
 (.cond (.t 33) (.seq (.reg [] [⟨some 4, none, .mv (.k (.str [])), []⟩, ⟨some 5, none, .mv (.k (.int .i64 0)), []⟩])
 (.ret)) (.skip)))
 (.seq (.reg [] [⟨some 34, none, .mv (.t 7), []⟩, ⟨some 35, none, .mv (.t 8), []⟩, ⟨some 36, none, .bi .add .i64 (.k (.int .i64 1)) (.t 35), []⟩, ⟨some 37, none, .bi .add .i64 (.t 34) (.t 36), []⟩, ⟨some 7, none, .mv (.t 37), []⟩])
 (.exit 1)))) (.seq (.reg [] [⟨some 39, none, .mv (.t 1), []⟩, ⟨some 40, none, .mv (.t 0), []⟩, ⟨some 41, none, .mv (.t 7), []⟩, ⟨some 42, none, .ixs (.t 40) (.t 41), []⟩, ⟨some 43, none, .callv (.t 39) [(.t 42)], []⟩, ⟨some 44, none, .not (.t 43), []⟩, ⟨some 38, none, .mv (.t 44), []⟩])
 (.cond (.t 38) (.seq (.reg [] [⟨some 4, none, .mv (.k (.str [])), []⟩, ⟨some 5, none, .mv (.k (.int .i64 0)), []⟩])
 (.ret)) (.skip))))))))))
 (.seq (.reg [] [⟨some 45, none, .mv (.t 6), []⟩, ⟨some 46, none, .call 140 [(.t 45)], []⟩])
 (.seq (.reg [0, 1, 2, 3, 4, 5, 6, 7, 8, 9, 10, 11, 12] [⟨some 47, none, .mv (.t 6), []⟩, ⟨some 48, none, .mv (.t 6), []⟩, ⟨some 49, none, .nilchk (.t 48), []⟩, ⟨some 50, none, .fa 0 (.t 49), []⟩, ⟨some 51, none, .ld 1 false (.t 50), []⟩, ⟨some 52, none, .mv (.t 0), []⟩, ⟨some 53, none, .mv (.t 7), []⟩, ⟨some 54, none, .ixs (.t 52) (.t 53), []⟩, ⟨some 55, none, .bls 1 1 [.int .u8 0] [(0, (.t 54))], []⟩, ⟨some 56, none, .app 1 1 (.t 51) (.t 55), []⟩, ⟨some 57, none, .nilchk (.t 47), []⟩, ⟨some 58, none, .fa 0 (.t 57), []⟩, ⟨none, none, .st 1 (.t 58) (.t 56), []⟩])
 (.reg [] [⟨some 59, none, .mv (.t 7), []⟩, ⟨some 60, none, .bi .add .i64 (.t 59) (.k (.int .i64 1)), []⟩, ⟨some 7, none, .mv (.t 60), []⟩])))))))
 (.seq (.reg [] [⟨some 61, none, .mv (.t 6), []⟩, ⟨some 62, none, .call 140 [(.t 61)], []⟩])
 (.seq (.seq (.reg [] [⟨some 63, none, .mv (.t 6), []⟩, ⟨some 64, none, .nilchk (.t 63), []⟩, ⟨some 65, none, .fa 2 (.t 64), []⟩, ⟨some 66, none, .ld 1 false (.t 65), []⟩, ⟨some 67, none, .not (.t 66), []⟩])
 (.cond (.t 67) (.seq (.reg [] [⟨some 4, none, .mv (.k (.str [])), []⟩, ⟨some 5, none, .mv (.k (.int .i64 0)), []⟩])
 (.ret)) (.skip)))
 (.seq (.reg [] [⟨some 68, none, .mv (.t 6), []⟩, ⟨some 69, none, .nilchk (.t 68), []⟩, ⟨some 70, none, .fa 0 (.t 69), []⟩, ⟨some 71, none, .ld 1 false (.t 70), []⟩, ⟨some 72, none, .cvb2s (.t 71), []⟩, ⟨some 73, none, .mv (.t 7), []⟩, ⟨some 74, none, .bi .add .i64 (.t 73) (.k (.int .i64 1)), []⟩, ⟨some 4, none, .mv (.t 72), []⟩, ⟨some 5, none, .mv (.t 74), []⟩])
 (.ret)))))))))⟩
theorem ck102 : chkFn Tryz.prog 102 ir102 = true := by kernel_rfl
def ir104 : AFn := ⟨21, 1, [.t 2], .seq (.reg [] [⟨some 2, none, .mv (.k (.bool false)), []⟩])
 (.seq (.reg [] [⟨some 3, none, .mv (.t 0), []⟩, ⟨some 4, none, .bi .geq .u8 (.t 3) (.k (.int .u8 97)), []⟩, ⟨some 5, none, .mv (.t 4), []⟩, ⟨some 6, (some (5, true)), .mv (.t 0), []⟩, ⟨some 7, (some (5, true)), .bi .leq .u8 (.t 6) (.k (.int .u8 122)), []⟩, ⟨some 8, none, .pick (.t 5) (.t 7) (.k (.bool false)), []⟩, ⟨some 9, none, .mv (.t 8), []⟩, ⟨some 10, (some (9, false)), .mv (.t 0), []⟩, ⟨some 11, (some (9, false)), .bi .geq .u8 (.t 10) (.k (.int .u8 65)), []⟩, ⟨some 12, (some (9, false)), .mv (.t 11), []⟩, ⟨some 13, (some (12, true)), .mv (.t 0), []⟩, ⟨some 14, (some (12, true)), .bi .leq .u8 (.t 13) (.k (.int .u8 90)), []⟩, ⟨some 15, (some (9, false)), .pick (.t 12) (.t 14) (.k (.bool false)), []⟩, ⟨some 16, none, .pick (.t 9) (.k (.bool true)) (.t 15), []⟩, ⟨some 17, none, .mv (.t 16), []⟩, ⟨some 18, (some (17, false)), .mv (.t 0), []⟩, ⟨some 19, (some (17, false)), .bi .eql .u8 (.t 18) (.k (.int .u8 95)), []⟩, ⟨some 20, none, .pick (.t 17) (.k (.bool true)) (.t 19), []⟩, ⟨some 2, none, .mv (.t 20), []⟩])
 (.ret))⟩
theorem ck104 : chkFn Tryz.prog 104 ir104 = true := by kernel_rfl
def ir106 : AFn := ⟨38, 1, [.t 2, .t 3], .seq (.reg [] [⟨some 2, none, .mv (.k (.int .i64 0)), []⟩, ⟨some 3, none, .mv (.k (.int .i64 0)), []⟩])
 (.seq (.reg [] [⟨some 8, none, .mv (.t 0), []⟩, ⟨some 9, none, .call 141 [(.t 8)], []⟩, ⟨some 4, none, .mv (.t 9), []⟩])
 (.seq (.seq (.reg [] [⟨some 10, none, .mv (.t 4), []⟩, ⟨some 11, none, .bi .eql .i64 (.t 10) (.k (.int .i64 0)), []⟩])
 (.cond (.t 11) (.seq (.reg [] [⟨some 2, none, .mv (.k (.int .i64 0)), []⟩, ⟨some 3, none, .mv (.k (.int .i64 0)), []⟩])
 (.ret)) (.skip)))
 (.seq (.reg [] [⟨some 5, none, .mv (.k (.int .i64 3)), []⟩])
 (.seq (.seq (.reg [] [⟨some 12, none, .mv (.t 0), []⟩, ⟨some 13, none, .mv (.t 4), []⟩, ⟨some 14, none, .sls (.t 12) (some (.t 13)) none, []⟩, ⟨some 15, none, .call 99 [(.t 14), (.k (.str [46]))], []⟩])
 (.cond (.t 15) (.seq (.reg [] [⟨some 16, none, .mv (.t 0), []⟩, ⟨some 17, none, .mv (.t 4), []⟩, ⟨some 18, none, .bi .add .i64 (.t 17) (.k (.int .i64 1)), []⟩, ⟨some 19, none, .sls (.t 16) (some (.t 18)) none, []⟩, ⟨some 20, none, .call 142 [(.t 19)], []⟩, ⟨some 6, none, .mv (.t 20), []⟩])
 (.seq (.reg [] [⟨some 21, none, .mv (.t 6), []⟩, ⟨some 22, none, .bi .gtr .i64 (.t 21) (.k (.int .i64 0)), []⟩])
 (.cond (.t 22) (.reg [] [⟨some 23, none, .mv (.t 4), []⟩, ⟨some 24, none, .bi .add .i64 (.t 23) (.k (.int .i64 1)), []⟩, ⟨some 25, none, .mv (.t 6), []⟩, ⟨some 26, none, .bi .add .i64 (.t 24) (.t 25), []⟩, ⟨some 4, none, .mv (.t 26), []⟩, ⟨some 5, none, .mv (.k (.int .i64 4)), []⟩]) (.skip)))) (.skip)))
 (.seq (.seq (.reg [] [⟨some 27, none, .mv (.t 0), []⟩, ⟨some 28, none, .mv (.t 4), []⟩, ⟨some 29, none, .sls (.t 27) (some (.t 28)) none, []⟩, ⟨some 30, none, .call 143 [(.t 29)], []⟩, ⟨some 7, none, .mv (.t 30), []⟩])
 (.seq (.reg [] [⟨some 31, none, .mv (.t 7), []⟩, ⟨some 32, none, .bi .gtr .i64 (.t 31) (.k (.int .i64 0)), []⟩])
 (.cond (.t 32) (.reg [] [⟨some 33, none, .mv (.t 4), []⟩, ⟨some 34, none, .mv (.t 7), []⟩, ⟨some 35, none, .bi .add .i64 (.t 33) (.t 34), []⟩, ⟨some 4, none, .mv (.t 35), []⟩, ⟨some 5, none, .mv (.k (.int .i64 4)), []⟩]) (.skip))))
 (.seq (.reg [] [⟨some 36, none, .mv (.t 4), []⟩, ⟨some 37, none, .mv (.t 5), []⟩, ⟨some 2, none, .mv (.t 36), []⟩, ⟨some 3, none, .mv (.t 37), []⟩])
 (.ret)))))))⟩
theorem ck106 : chkFn Tryz.prog 106 ir106 = true := by kernel_rfl
def ir107 : AFn := ⟨9, 1, [.t 2], .seq (.reg [] [⟨some 2, none, .mv (.k (.bool false)), []⟩])
 (.seq (.reg [] [⟨some 3, none, .mv (.t 0), []⟩, ⟨some 4, none, .bi .geq .u8 (.t 3) (.k (.int .u8 48)), []⟩, ⟨some 5, none, .mv (.t 4), []⟩, ⟨some 6, (some (5, true)), .mv (.t 0), []⟩, ⟨some 7, (some (5, true)), .bi .leq .u8 (.t 6) (.k (.int .u8 57)), []⟩, ⟨some 8, none, .pick (.t 5) (.t 7) (.k (.bool false)), []⟩, ⟨some 2, none, .mv (.t 8), []⟩])
 (.ret))⟩
theorem ck107 : chkFn Tryz.prog 107 ir107 = true := by kernel_rfl
def ir112 : AFn := ⟨19, 1, [.t 2, .t 3], .seq (.reg [] [⟨some 2, none, .mv (.k (.int .i64 0)), []⟩, ⟨some 3, none, .mv (.k (.bool false)), []⟩])
 (.seq (.reg [] [⟨some 7, none, .mv (.t 0), []⟩, ⟨some 8, none, .call 145 [(.t 7), (.k (.int .i64 10)), (.k (.int .i64 64))], []⟩, ⟨some 6, none, .mv (.t 8), []⟩, ⟨some 9, none, .ext (.t 6) 0, []⟩, ⟨some 10, none, .ext (.t 6) 1, []⟩, ⟨some 4, none, .mv (.t 9), []⟩, ⟨some 5, none, .mv (.t 10), []⟩])
 (.seq (.reg [] [⟨some 11, none, .mv (.t 4), []⟩, ⟨some 12, none, .mv (.t 5), []⟩, ⟨some 13, none, .ifnil false (.t 12), []⟩, ⟨some 14, none, .mv (.t 13), []⟩, ⟨some 15, (some (14, true)), .mv (.t 0), []⟩, ⟨some 16, (some (14, true)), .call 90 [(.t 15)], []⟩, ⟨some 17, (some (14, true)), .bi .eql .i64 (.t 16) (.k (.int .i64 3)), []⟩, ⟨some 18, none, .pick (.t 14) (.t 17) (.k (.bool false)), []⟩, ⟨some 2, none, .mv (.t 11), []⟩, ⟨some 3, none, .mv (.t 18), []⟩])
 (.ret)))⟩
theorem ck112 : chkFn Tryz.prog 112 ir112 = true := by kernel_rfl
def ir113 : AFn := ⟨5, 1, [.c 2 5 true], .seq (.reg [] [⟨some 2, none, .alloc [.int .i64 0, .int .i64 0, .str [], .sl .nil 5 [], .sl .nil 6 []], []⟩])
 (.seq (.reg [] [⟨some 3, none, .mv (.t 0), []⟩, ⟨some 4, none, .bld [.int .i64 0, .int .i64 0, .str [], .sl .nil 5 [], .sl .nil 6 []] [(0, 1, (.k (.int .i64 2))), (1, 1, (.t 3))], []⟩, ⟨none, none, .st 5 (.t 2) (.t 4), []⟩])
 (.ret))⟩
theorem ck113 : chkFn Tryz.prog 113 ir113 = true := by kernel_rfl
def ir115 : AFn := ⟨98, 2, [.t 4, .t 5], .seq (.reg [] [⟨some 4, none, .mv (.k (.int .i64 0)), []⟩, ⟨some 5, none, .mv (.k (.int .i64 0)), []⟩])
 (.seq (.seq (.reg [] [⟨some 11, none, .mv (.t 1), []⟩, ⟨some 12, none, .bi .lss .i64 (.t 11) (.k (.int .i64 0)), []⟩, ⟨some 13, none, .mv (.t 12), []⟩, ⟨some 14, (some (13, false)), .mv (.t 1), []⟩, ⟨some 15, (some (13, false)), .mv (.t 0), []⟩, ⟨some 16, (some (13, false)), .lens (.t 15), []⟩, ⟨some 17, (some (13, false)), .bi .geq .i64 (.t 14) (.t 16), []⟩, ⟨some 18, none, .pick (.t 13) (.k (.bool true)) (.t 17), []⟩])
 (.cond (.t 18) (.seq (.reg [] [⟨some 4, none, .mv (.k (.int .i64 0)), []⟩, ⟨some 5, none, .mv (.k (.int .i64 0)), []⟩])
 (.ret)) (.skip)))
 (.seq (.reg [] [⟨some 19, none, .mv (.t 0), []⟩, ⟨some 20, none, .mv (.t 1), []⟩, ⟨some 21, none, .ixs (.t 19) (.t 20), []⟩, ⟨some 22, none, .cvi .i64 (.t 21), []⟩, ⟨some 6, none, .mv (.t 22), []⟩])
 (.seq (.seq (.reg [] [⟨some 23, none, .mv (.t 6), []⟩, ⟨some 24, none, .bi .lss .i64 (.t 23) (.k (.int .i64 128)), []⟩])
 (.cond (.t 24) (.seq (.reg [] [⟨some 25, none, .mv (.t 6), []⟩, ⟨some 4, none, .mv (.t 25), []⟩, ⟨some 5, none, .mv (.k (.int .i64 1)), []⟩])
 (.ret)) (.skip)))
 (.seq (.reg [] [⟨some 7, none, .mv (.k (.int .i64 0)), []⟩, ⟨some 8, none, .mv (.k (.int .i64 0)), []⟩])
 (.join [0, 1, 6, 7, 8] (.block 0 (.seq (.reg [] [⟨some 27, none, .mv (.t 6), []⟩, ⟨some 28, none, .bi .geq .i64 (.t 27) (.k (.int .i64 194)), []⟩, ⟨some 29, none, .mv (.t 28), []⟩, ⟨some 30, (some (29, true)), .mv (.t 6), []⟩, ⟨some 31, (some (29, true)), .bi .lss .i64 (.t 30) (.k (.int .i64 224)), []⟩, ⟨some 32, none, .pick (.t 29) (.t 31) (.k (.bool false)), []⟩, ⟨some 26, none, .mv (.t 32), []⟩])
 (.cond (.t 26) (.reg [] [⟨some 33, none, .mv (.t 6), []⟩, ⟨some 34, none, .bi .and .i64 (.t 33) (.k (.int .i64 31)), []⟩, ⟨some 7, none, .mv (.k (.int .i64 2)), []⟩, ⟨some 8, none, .mv (.k (.int .i64 128)), []⟩, ⟨some 6, none, .mv (.t 34), []⟩]) (.seq (.reg [] [⟨some 36, none, .mv (.t 6), []⟩, ⟨some 37, none, .bi .geq .i64 (.t 36) (.k (.int .i64 224)), []⟩, ⟨some 38, none, .mv (.t 37), []⟩, ⟨some 39, (some (38, true)), .mv (.t 6), []⟩, ⟨some 40, (some (38, true)), .bi .lss .i64 (.t 39) (.k (.int .i64 240)), []⟩, ⟨some 41, none, .pick (.t 38) (.t 40) (.k (.bool false)), []⟩, ⟨some 35, none, .mv (.t 41), []⟩])
 (.cond (.t 35) (.reg [] [⟨some 42, none, .mv (.t 6), []⟩, ⟨some 43, none, .bi .and .i64 (.t 42) (.k (.int .i64 15)), []⟩, ⟨some 7, none, .mv (.k (.int .i64 3)), []⟩, ⟨some 8, none, .mv (.k (.int .i64 2048)), []⟩, ⟨some 6, none, .mv (.t 43), []⟩]) (.seq (.reg [] [⟨some 45, none, .mv (.t 6), []⟩, ⟨some 46, none, .bi .geq .i64 (.t 45) (.k (.int .i64 240)), []⟩, ⟨some 47, none, .mv (.t 46), []⟩, ⟨some 48, (some (47, true)), .mv (.t 6), []⟩, ⟨some 49, (some (47, true)), .bi .lss .i64 (.t 48) (.k (.int .i64 245)), []⟩, ⟨some 50, none, .pick (.t 47) (.t 49) (.k (.bool false)), []⟩, ⟨some 44, none, .mv (.t 50), []⟩])
 (.cond (.t 44) (.reg [] [⟨some 51, none, .mv (.t 6), []⟩, ⟨some 52, none, .bi .and .i64 (.t 51) (.k (.int .i64 7)), []⟩, ⟨some 7, none, .mv (.k (.int .i64 4)), []⟩, ⟨some 8, none, .mv (.k (.int .i64 65536)), []⟩, ⟨some 6, none, .mv (.t 52), []⟩]) (.seq (.reg [] [⟨some 4, none, .mv (.k (.int .i64 0)), []⟩, ⟨some 5, none, .mv (.k (.int .i64 0)), []⟩])
 (.ret)))))))))
 (.seq (.seq (.reg [] [⟨some 53, none, .mv (.t 7), []⟩, ⟨some 54, none, .mv (.t 0), []⟩, ⟨some 55, none, .lens (.t 54), []⟩, ⟨some 56, none, .mv (.t 1), []⟩, ⟨some 57, none, .bi .sub .i64 (.t 55) (.t 56), []⟩, ⟨some 58, none, .bi .gtr .i64 (.t 53) (.t 57), []⟩])
 (.cond (.t 58) (.seq (.reg [] [⟨some 4, none, .mv (.k (.int .i64 0)), []⟩, ⟨some 5, none, .mv (.k (.int .i64 0)), []⟩])
 (.ret)) (.skip)))
 (.seq (.seq (.reg [] [⟨some 9, none, .mv (.k (.int .i64 1)), []⟩])
 (.block 1 (.loop [0, 1, 6, 7, 8, 9] (.seq (.seq (.reg [] [⟨some 59, none, .mv (.t 9), []⟩, ⟨some 60, none, .mv (.t 7), []⟩, ⟨some 61, none, .bi .lss .i64 (.t 59) (.t 60), []⟩])
 (.cond (.t 61) (.skip) (.exit 1)))
 (.seq (.block 2 (.seq (.reg [] [⟨some 64, none, .mv (.t 0), []⟩, ⟨some 65, none, .mv (.t 1), []⟩, ⟨some 66, none, .mv (.t 9), []⟩, ⟨some 67, none, .bi .add .i64 (.t 65) (.t 66), []⟩, ⟨some 68, none, .ixs (.t 64) (.t 67), []⟩, ⟨some 69, none, .cvi .i64 (.t 68), []⟩, ⟨some 10, none, .mv (.t 69), []⟩])
 (.seq (.seq (.reg [] [⟨some 70, none, .mv (.t 10), []⟩, ⟨some 71, none, .bi .lss .i64 (.t 70) (.k (.int .i64 128)), []⟩, ⟨some 72, none, .mv (.t 71), []⟩, ⟨some 73, (some (72, false)), .mv (.t 10), []⟩, ⟨some 74, (some (72, false)), .bi .gtr .i64 (.t 73) (.k (.int .i64 191)), []⟩, ⟨some 75, none, .pick (.t 72) (.k (.bool true)) (.t 74), []⟩])
 (.cond (.t 75) (.seq (.reg [] [⟨some 4, none, .mv (.k (.int .i64 0)), []⟩, ⟨some 5, none, .mv (.k (.int .i64 0)), []⟩])
 (.ret)) (.skip)))
 (.reg [] [⟨some 76, none, .mv (.t 6), []⟩, ⟨some 77, none, .shf .shl (.t 76) (.k (.int .u64 6)), []⟩, ⟨some 78, none, .mv (.t 10), []⟩, ⟨some 79, none, .bi .and .i64 (.t 78) (.k (.int .i64 63)), []⟩, ⟨some 80, none, .bi .or .i64 (.t 77) (.t 79), []⟩, ⟨some 6, none, .mv (.t 80), []⟩]))))
 (.reg [] [⟨some 62, none, .mv (.t 9), []⟩, ⟨some 63, none, .bi .add .i64 (.t 62) (.k (.int .i64 1)), []⟩, ⟨some 9, none, .mv (.t 63), []⟩]))))))
 (.seq (.seq (.reg [] [⟨some 81, none, .mv (.t 6), []⟩, ⟨some 82, none, .mv (.t 8), []⟩, ⟨some 83, none, .bi .lss .i64 (.t 81) (.t 82), []⟩, ⟨some 84, none, .mv (.t 83), []⟩, ⟨some 85, (some (84, false)), .mv (.t 6), []⟩, ⟨some 86, (some (84, false)), .bi .gtr .i64 (.t 85) (.k (.int .i64 1114111)), []⟩, ⟨some 87, none, .pick (.t 84) (.k (.bool true)) (.t 86), []⟩, ⟨some 88, none, .mv (.t 87), []⟩, ⟨some 89, (some (88, false)), .mv (.t 6), []⟩, ⟨some 90, (some (88, false)), .bi .geq .i64 (.t 89) (.k (.int .i64 55296)), []⟩, ⟨some 91, (some (88, false)), .mv (.t 90), []⟩, ⟨some 92, (some (91, true)), .mv (.t 6), []⟩, ⟨some 93, (some (91, true)), .bi .lss .i64 (.t 92) (.k (.int .i64 57344)), []⟩, ⟨some 94, (some (88, false)), .pick (.t 91) (.t 93) (.k (.bool false)), []⟩, ⟨some 95, none, .pick (.t 88) (.k (.bool true)) (.t 94), []⟩])
 (.cond (.t 95) (.seq (.reg [] [⟨some 4, none, .mv (.k (.int .i64 0)), []⟩, ⟨some 5, none, .mv (.k (.int .i64 0)), []⟩])
 (.ret)) (.skip)))
 (.seq (.reg [] [⟨some 96, none, .mv (.t 6), []⟩, ⟨some 97, none, .mv (.t 7), []⟩, ⟨some 4, none, .mv (.t 96), []⟩, ⟨some 5, none, .mv (.t 97), []⟩])
 (.ret))))))))))⟩
theorem ck115 : chkFn Tryz.prog 115 ir115 = true := by kernel_rfl
def ir121 : AFn := ⟨10, 2, [.t 4], .seq (.reg [] [⟨some 4, none, .mv (.k (.sl .nil 1 [])), []⟩])
 (.seq (.seq (.reg [] [⟨some 5, none, .mv (.t 1), []⟩])
 (.cond (.t 5) (.seq (.reg [] [⟨some 6, none, .mv (.t 0), []⟩, ⟨some 7, none, .apps (.t 6) (.k (.str [116, 114, 117, 101])), []⟩, ⟨some 4, none, .mv (.t 7), []⟩])
 (.ret)) (.skip)))
 (.seq (.reg [] [⟨some 8, none, .mv (.t 0), []⟩, ⟨some 9, none, .apps (.t 8) (.k (.str [102, 97, 108, 115, 101])), []⟩, ⟨some 4, none, .mv (.t 9), []⟩])
 (.ret)))⟩
theorem ck121 : chkFn Tryz.prog 121 ir121 = true := by kernel_rfl
def ir122 : AFn := ⟨21, 3, [.t 6], .seq (.reg [] [⟨some 6, none, .mv (.k (.sl .nil 1 [])), []⟩])
 (.seq (.reg [] [⟨some 8, none, .mv (.t 1), []⟩, ⟨some 9, none, .cvi .u64 (.t 8), []⟩, ⟨some 7, none, .mv (.t 9), []⟩])
 (.seq (.seq (.reg [] [⟨some 10, none, .mv (.t 1), []⟩, ⟨some 11, none, .bi .lss .i64 (.t 10) (.k (.int .i64 0)), []⟩])
 (.cond (.t 11) (.seq (.reg [] [⟨some 12, none, .mv (.t 0), []⟩, ⟨some 13, none, .bls 1 1 [.int .u8 0] [(0, (.k (.int .u8 45)))], []⟩, ⟨some 14, none, .app 1 1 (.t 12) (.t 13), []⟩, ⟨some 0, none, .mv (.t 14), []⟩])
 (.reg [] [⟨some 15, none, .mv (.t 7), []⟩, ⟨some 16, none, .ineg (.t 15), []⟩, ⟨some 7, none, .mv (.t 16), []⟩])) (.skip)))
 (.seq (.reg [] [⟨some 17, none, .mv (.t 0), []⟩, ⟨some 18, none, .mv (.t 7), []⟩, ⟨some 19, none, .mv (.t 2), []⟩, ⟨some 20, none, .call 151 [(.t 17), (.t 18), (.t 19)], []⟩, ⟨some 6, none, .mv (.t 20), []⟩])
 (.ret))))⟩
theorem ck122 : chkFn Tryz.prog 122 ir122 = true := by kernel_rfl
def ir123 : AFn := ⟨88, 1, [.t 2], .seq (.reg [] [⟨some 1, none, .boxv (.t 0), []⟩, ⟨some 2, none, .mv (.k (.bool false)), []⟩])
 (.seq (.reg [] [⟨some 4, none, .ld 5 true (.t 1), []⟩, ⟨some 3, none, .alloc [.int .i64 0, .int .i64 0, .str [], .sl .nil 5 [], .sl .nil 6 []], []⟩, ⟨none, none, .st 5 (.t 3) (.t 4), []⟩])
 (.seq (.reg [] [⟨some 5, none, .fa 1 (.t 3), []⟩, ⟨none, none, .st 1 (.t 5) (.k (.int .i64 0)), []⟩, ⟨some 6, none, .fa 2 (.t 3), []⟩, ⟨none, none, .st 1 (.t 6) (.k (.str [])), []⟩])
 (.seq (.seq (.reg [] [⟨some 7, none, .ld 5 true (.t 3), []⟩, ⟨some 8, none, .call 124 [(.t 7)], []⟩, ⟨some 9, none, .not (.t 8), []⟩])
 (.cond (.t 9) (.seq (.reg [] [⟨some 2, none, .mv (.k (.bool false)), []⟩])
 (.ret)) (.skip)))
 (.seq (.seq (.reg [] [⟨some 10, none, .fa 0 (.t 1), []⟩, ⟨some 11, none, .ld 1 false (.t 10), []⟩])
 (.block 0 (.seq (.reg [] [⟨some 13, none, .bi .eql .i64 (.t 11) (.k (.int .i64 0)), []⟩, ⟨some 12, none, .mv (.t 13), []⟩])
 (.cond (.t 12) (.seq (.reg [] [⟨some 14, none, .fa 1 (.t 1), []⟩, ⟨some 15, none, .ld 1 false (.t 14), []⟩, ⟨some 16, none, .bi .eql .i64 (.t 15) (.k (.int .i64 0)), []⟩, ⟨some 17, none, .mv (.t 16), []⟩, ⟨some 18, (some (17, true)), .fa 2 (.t 1), []⟩, ⟨some 19, (some (17, true)), .ld 1 false (.t 18), []⟩, ⟨some 20, (some (17, true)), .bs .eql (.t 19) (.k (.str [])), []⟩, ⟨some 21, none, .pick (.t 17) (.t 20) (.k (.bool false)), []⟩, ⟨some 2, none, .mv (.t 21), []⟩])
 (.ret)) (.seq (.reg [] [⟨some 23, none, .bi .eql .i64 (.t 11) (.k (.int .i64 1)), []⟩, ⟨some 22, none, .mv (.t 23), []⟩])
 (.cond (.t 22) (.seq (.reg [] [⟨some 24, none, .fa 1 (.t 1), []⟩, ⟨some 25, none, .ld 1 false (.t 24), []⟩, ⟨some 26, none, .bi .eql .i64 (.t 25) (.k (.int .i64 0)), []⟩, ⟨some 27, none, .mv (.t 26), []⟩, ⟨some 28, (some (27, false)), .fa 1 (.t 1), []⟩, ⟨some 29, (some (27, false)), .ld 1 false (.t 28), []⟩, ⟨some 30, (some (27, false)), .bi .eql .i64 (.t 29) (.k (.int .i64 1)), []⟩, ⟨some 31, none, .pick (.t 27) (.k (.bool true)) (.t 30), []⟩, ⟨some 32, none, .mv (.t 31), []⟩, ⟨some 33, (some (32, true)), .fa 2 (.t 1), []⟩, ⟨some 34, (some (32, true)), .ld 1 false (.t 33), []⟩, ⟨some 35, (some (32, true)), .bs .eql (.t 34) (.k (.str [])), []⟩, ⟨some 36, none, .pick (.t 32) (.t 35) (.k (.bool false)), []⟩, ⟨some 2, none, .mv (.t 36), []⟩])
 (.ret)) (.seq (.reg [] [⟨some 38, none, .bi .eql .i64 (.t 11) (.k (.int .i64 2)), []⟩, ⟨some 37, none, .mv (.t 38), []⟩])
 (.cond (.t 37) (.seq (.reg [] [⟨some 39, none, .fa 2 (.t 1), []⟩, ⟨some 40, none, .ld 1 false (.t 39), []⟩, ⟨some 41, none, .bs .eql (.t 40) (.k (.str [])), []⟩, ⟨some 2, none, .mv (.t 41), []⟩])
 (.ret)) (.seq (.reg [] [⟨some 43, none, .bi .eql .i64 (.t 11) (.k (.int .i64 3)), []⟩, ⟨some 42, none, .mv (.t 43), []⟩])
 (.cond (.t 42) (.seq (.reg [] [⟨some 44, none, .fa 1 (.t 1), []⟩, ⟨some 45, none, .ld 1 false (.t 44), []⟩, ⟨some 46, none, .bi .eql .i64 (.t 45) (.k (.int .i64 0)), []⟩, ⟨some 47, none, .mv (.t 46), []⟩, ⟨some 48, (some (47, true)), .fa 2 (.t 1), []⟩, ⟨some 49, (some (47, true)), .ld 1 false (.t 48), []⟩, ⟨some 50, (some (47, true)), .call 152 [(.t 49)], []⟩, ⟨some 51, none, .pick (.t 47) (.t 50) (.k (.bool false)), []⟩, ⟨some 2, none, .mv (.t 51), []⟩])
 (.ret)) (.seq (.reg [] [⟨some 53, none, .bi .eql .i64 (.t 11) (.k (.int .i64 4)), []⟩, ⟨some 52, none, .mv (.t 53), []⟩])
 (.cond (.t 52) (.seq (.reg [] [⟨some 54, none, .fa 1 (.t 1), []⟩, ⟨some 55, none, .ld 1 false (.t 54), []⟩, ⟨some 56, none, .bi .eql .i64 (.t 55) (.k (.int .i64 0)), []⟩, ⟨some 57, none, .mv (.t 56), []⟩, ⟨some 58, (some (57, true)), .fa 2 (.t 1), []⟩, ⟨some 59, (some (57, true)), .ld 1 false (.t 58), []⟩, ⟨some 60, (some (57, true)), .call 31 [(.t 59)], []⟩, ⟨some 61, none, .pick (.t 57) (.t 60) (.k (.bool false)), []⟩, ⟨some 2, none, .mv (.t 61), []⟩])
 (.ret)) (.seq (.reg [] [⟨some 63, none, .bi .eql .i64 (.t 11) (.k (.int .i64 5)), []⟩, ⟨some 62, none, .mv (.t 63), []⟩])
 (.cond (.t 62) (.seq (.reg [] [⟨some 64, none, .fa 1 (.t 1), []⟩, ⟨some 65, none, .ld 1 false (.t 64), []⟩, ⟨some 66, none, .bi .eql .i64 (.t 65) (.k (.int .i64 0)), []⟩, ⟨some 67, none, .mv (.t 66), []⟩, ⟨some 68, (some (67, true)), .fa 2 (.t 1), []⟩, ⟨some 69, (some (67, true)), .ld 1 false (.t 68), []⟩, ⟨some 70, (some (67, true)), .call 86 [(.t 69)], []⟩, ⟨some 71, none, .pick (.t 67) (.t 70) (.k (.bool false)), []⟩, ⟨some 72, none, .mv (.t 71), []⟩, ⟨some 73, (some (72, true)), .fa 2 (.t 1), []⟩, ⟨some 74, (some (72, true)), .ld 1 false (.t 73), []⟩, ⟨some 75, (some (72, true)), .call 153 [(.t 74)], []⟩, ⟨some 76, (some (72, true)), .not (.t 75), []⟩, ⟨some 77, none, .pick (.t 72) (.t 76) (.k (.bool false)), []⟩, ⟨some 2, none, .mv (.t 77), []⟩])
 (.ret)) (.seq (.reg [] [⟨some 79, none, .bi .eql .i64 (.t 11) (.k (.int .i64 8)), []⟩, ⟨some 78, none, .mv (.t 79), []⟩])
 (.cond (.t 78) (.seq (.reg [] [⟨some 80, none, .fa 1 (.t 1), []⟩, ⟨some 81, none, .ld 1 false (.t 80), []⟩, ⟨some 82, none, .bi .eql .i64 (.t 81) (.k (.int .i64 0)), []⟩, ⟨some 83, none, .mv (.t 82), []⟩, ⟨some 84, (some (83, true)), .fa 2 (.t 1), []⟩, ⟨some 85, (some (83, true)), .ld 1 false (.t 84), []⟩, ⟨some 86, (some (83, true)), .call 86 [(.t 85)], []⟩, ⟨some 87, none, .pick (.t 83) (.t 86) (.k (.bool false)), []⟩, ⟨some 2, none, .mv (.t 87), []⟩])
 (.ret)) (.skip)))))))))))))))))
 (.seq (.reg [] [⟨some 2, none, .mv (.k (.bool false)), []⟩])
 (.ret))))))⟩
theorem ck123 : chkFn Tryz.prog 123 ir123 = true := by kernel_rfl
def ir124 : AFn := ⟨23, 1, [.t 2], .seq (.reg [] [⟨some 1, none, .boxv (.t 0), []⟩, ⟨some 2, none, .mv (.k (.bool false)), []⟩])
 (.seq (.reg [] [⟨some 3, none, .fa 1 (.t 1), []⟩, ⟨some 4, none, .ld 1 false (.t 3), []⟩, ⟨some 5, none, .bi .eql .i64 (.t 4) (.k (.int .i64 0)), []⟩, ⟨some 6, none, .mv (.t 5), []⟩, ⟨some 7, (some (6, true)), .fa 2 (.t 1), []⟩, ⟨some 8, (some (6, true)), .ld 1 false (.t 7), []⟩, ⟨some 9, (some (6, true)), .bs .eql (.t 8) (.k (.str [])), []⟩, ⟨some 10, none, .pick (.t 6) (.t 9) (.k (.bool false)), []⟩, ⟨some 11, none, .mv (.t 10), []⟩, ⟨some 12, (some (11, true)), .fa 3 (.t 1), []⟩, ⟨some 13, (some (11, true)), .ld 1 false (.t 12), []⟩, ⟨some 14, (some (11, true)), .len (.t 13), []⟩, ⟨some 15, (some (11, true)), .bi .eql .i64 (.t 14) (.k (.int .i64 0)), []⟩, ⟨some 16, none, .pick (.t 11) (.t 15) (.k (.bool false)), []⟩, ⟨some 17, none, .mv (.t 16), []⟩, ⟨some 18, (some (17, true)), .fa 4 (.t 1), []⟩, ⟨some 19, (some (17, true)), .ld 1 false (.t 18), []⟩, ⟨some 20, (some (17, true)), .len (.t 19), []⟩, ⟨some 21, (some (17, true)), .bi .eql .i64 (.t 20) (.k (.int .i64 0)), []⟩, ⟨some 22, none, .pick (.t 17) (.t 21) (.k (.bool false)), []⟩, ⟨some 2, none, .mv (.t 22), []⟩])
 (.ret))⟩
theorem ck124 : chkFn Tryz.prog 124 ir124 = true := by kernel_rfl
def ir125 : AFn := ⟨103, 1, [.t 2, .t 3], .seq (.reg [] [⟨some 2, none, .mv (.k (.int .i64 0)), []⟩, ⟨some 3, none, .mv (.k (.int .i64 0)), []⟩])
 (.seq (.reg [] [⟨some 4, none, .mv (.k (.int .i64 0)), []⟩])
 (.join [0, 4] (.seq (.reg [] [⟨some 8, none, .mv (.t 4), []⟩, ⟨some 9, none, .mv (.t 0), []⟩, ⟨some 10, none, .lens (.t 9), []⟩, ⟨some 11, none, .bi .lss .i64 (.t 8) (.t 10), []⟩, ⟨some 12, none, .mv (.t 11), []⟩, ⟨some 13, (some (12, true)), .mv (.t 0), []⟩, ⟨some 14, (some (12, true)), .mv (.t 4), []⟩, ⟨some 15, (some (12, true)), .ixs (.t 13) (.t 14), []⟩, ⟨some 16, (some (12, true)), .bi .eql .u8 (.t 15) (.k (.int .u8 45)), []⟩, ⟨some 17, none, .pick (.t 12) (.t 16) (.k (.bool false)), []⟩])
 (.cond (.t 17) (.reg [] [⟨some 18, none, .mv (.t 4), []⟩, ⟨some 19, none, .bi .add .i64 (.t 18) (.k (.int .i64 1)), []⟩, ⟨some 4, none, .mv (.t 19), []⟩]) (.skip)))
 (.seq (.reg [] [⟨some 20, none, .mv (.t 0), []⟩, ⟨some 21, none, .mv (.t 4), []⟩, ⟨some 22, none, .call 154 [(.t 20), (.t 21)], []⟩, ⟨some 5, none, .mv (.t 22), []⟩])
 (.seq (.seq (.reg [] [⟨some 23, none, .mv (.t 5), []⟩, ⟨some 24, none, .bi .eql .i64 (.t 23) (.k (.int .i64 0)), []⟩])
 (.cond (.t 24) (.seq (.reg [] [⟨some 2, none, .mv (.k (.int .i64 0)), []⟩, ⟨some 3, none, .mv (.k (.int .i64 0)), []⟩])
 (.ret)) (.skip)))
 (.join [0, 4, 5] (.seq (.reg [] [⟨some 25, none, .mv (.t 0), []⟩, ⟨some 26, none, .mv (.t 4), []⟩, ⟨some 27, none, .ixs (.t 25) (.t 26), []⟩, ⟨some 28, none, .bi .eql .u8 (.t 27) (.k (.int .u8 48)), []⟩])
 (.cond (.t 28) (.reg [] [⟨some 5, none, .mv (.k (.int .i64 1)), []⟩]) (.skip)))
 (.seq (.reg [] [⟨some 29, none, .mv (.t 4), []⟩, ⟨some 30, none, .mv (.t 5), []⟩, ⟨some 31, none, .bi .add .i64 (.t 29) (.t 30), []⟩, ⟨some 4, none, .mv (.t 31), []⟩, ⟨some 6, none, .mv (.k (.int .i64 3)), []⟩])
 (.join [0, 4, 6] (.seq (.reg [] [⟨some 32, none, .mv (.t 4), []⟩, ⟨some 33, none, .mv (.t 0), []⟩, ⟨some 34, none, .lens (.t 33), []⟩, ⟨some 35, none, .bi .lss .i64 (.t 32) (.t 34), []⟩, ⟨some 36, none, .mv (.t 35), []⟩, ⟨some 37, (some (36, true)), .mv (.t 0), []⟩, ⟨some 38, (some (36, true)), .mv (.t 4), []⟩, ⟨some 39, (some (36, true)), .ixs (.t 37) (.t 38), []⟩, ⟨some 40, (some (36, true)), .bi .eql .u8 (.t 39) (.k (.int .u8 46)), []⟩, ⟨some 41, none, .pick (.t 36) (.t 40) (.k (.bool false)), []⟩, ⟨some 42, none, .mv (.t 41), []⟩, ⟨some 43, (some (42, true)), .mv (.t 0), []⟩, ⟨some 44, (some (42, true)), .mv (.t 4), []⟩, ⟨some 45, (some (42, true)), .bi .add .i64 (.t 44) (.k (.int .i64 1)), []⟩, ⟨some 46, (some (42, true)), .call 154 [(.t 43), (.t 45)], []⟩, ⟨some 47, (some (42, true)), .bi .gtr .i64 (.t 46) (.k (.int .i64 0)), []⟩, ⟨some 48, none, .pick (.t 42) (.t 47) (.k (.bool false)), []⟩])
 (.cond (.t 48) (.reg [] [⟨some 49, none, .mv (.t 4), []⟩, ⟨some 50, none, .bi .add .i64 (.t 49) (.k (.int .i64 1)), []⟩, ⟨some 51, none, .mv (.t 0), []⟩, ⟨some 52, none, .mv (.t 4), []⟩, ⟨some 53, none, .bi .add .i64 (.t 52) (.k (.int .i64 1)), []⟩, ⟨some 54, none, .call 154 [(.t 51), (.t 53)], []⟩, ⟨some 55, none, .bi .add .i64 (.t 50) (.t 54), []⟩, ⟨some 4, none, .mv (.t 55), []⟩, ⟨some 6, none, .mv (.k (.int .i64 4)), []⟩]) (.skip)))
 (.join [4, 6] (.seq (.reg [] [⟨some 56, none, .mv (.t 4), []⟩, ⟨some 57, none, .mv (.t 0), []⟩, ⟨some 58, none, .lens (.t 57), []⟩, ⟨some 59, none, .bi .lss .i64 (.t 56) (.t 58), []⟩, ⟨some 60, none, .mv (.t 59), []⟩, ⟨some 61, (some (60, true)), .mv (.t 0), []⟩, ⟨some 62, (some (60, true)), .mv (.t 4), []⟩, ⟨some 63, (some (60, true)), .ixs (.t 61) (.t 62), []⟩, ⟨some 64, (some (60, true)), .bi .eql .u8 (.t 63) (.k (.int .u8 101)), []⟩, ⟨some 65, (some (60, true)), .mv (.t 64), []⟩, ⟨some 66, (some (65, false)), .mv (.t 0), []⟩, ⟨some 67, (some (65, false)), .mv (.t 4), []⟩, ⟨some 68, (some (65, false)), .ixs (.t 66) (.t 67), []⟩, ⟨some 69, (some (65, false)), .bi .eql .u8 (.t 68) (.k (.int .u8 69)), []⟩, ⟨some 70, (some (60, true)), .pick (.t 65) (.k (.bool true)) (.t 69), []⟩, ⟨some 71, none, .pick (.t 60) (.t 70) (.k (.bool false)), []⟩])
 (.cond (.t 71) (.seq (.reg [] [⟨some 72, none, .mv (.t 4), []⟩, ⟨some 73, none, .bi .add .i64 (.t 72) (.k (.int .i64 1)), []⟩, ⟨some 7, none, .mv (.t 73), []⟩])
 (.join [0, 4, 6, 7] (.seq (.reg [] [⟨some 74, none, .mv (.t 7), []⟩, ⟨some 75, none, .mv (.t 0), []⟩, ⟨some 76, none, .lens (.t 75), []⟩, ⟨some 77, none, .bi .lss .i64 (.t 74) (.t 76), []⟩, ⟨some 78, none, .mv (.t 77), []⟩, ⟨some 79, (some (78, true)), .mv (.t 0), []⟩, ⟨some 80, (some (78, true)), .mv (.t 7), []⟩, ⟨some 81, (some (78, true)), .ixs (.t 79) (.t 80), []⟩, ⟨some 82, (some (78, true)), .bi .eql .u8 (.t 81) (.k (.int .u8 43)), []⟩, ⟨some 83, (some (78, true)), .mv (.t 82), []⟩, ⟨some 84, (some (83, false)), .mv (.t 0), []⟩, ⟨some 85, (some (83, false)), .mv (.t 7), []⟩, ⟨some 86, (some (83, false)), .ixs (.t 84) (.t 85), []⟩, ⟨some 87, (some (83, false)), .bi .eql .u8 (.t 86) (.k (.int .u8 45)), []⟩, ⟨some 88, (some (78, true)), .pick (.t 83) (.k (.bool true)) (.t 87), []⟩, ⟨some 89, none, .pick (.t 78) (.t 88) (.k (.bool false)), []⟩])
 (.cond (.t 89) (.reg [] [⟨some 90, none, .mv (.t 7), []⟩, ⟨some 91, none, .bi .add .i64 (.t 90) (.k (.int .i64 1)), []⟩, ⟨some 7, none, .mv (.t 91), []⟩]) (.skip)))
 (.seq (.reg [] [⟨some 92, none, .mv (.t 0), []⟩, ⟨some 93, none, .mv (.t 7), []⟩, ⟨some 94, none, .call 154 [(.t 92), (.t 93)], []⟩, ⟨some 95, none, .bi .gtr .i64 (.t 94) (.k (.int .i64 0)), []⟩])
 (.cond (.t 95) (.reg [] [⟨some 96, none, .mv (.t 7), []⟩, ⟨some 97, none, .mv (.t 0), []⟩, ⟨some 98, none, .mv (.t 7), []⟩, ⟨some 99, none, .call 154 [(.t 97), (.t 98)], []⟩, ⟨some 100, none, .bi .add .i64 (.t 96) (.t 99), []⟩, ⟨some 4, none, .mv (.t 100), []⟩, ⟨some 6, none, .mv (.k (.int .i64 4)), []⟩]) (.skip))))) (.skip)))
 (.seq (.reg [] [⟨some 101, none, .mv (.t 4), []⟩, ⟨some 102, none, .mv (.t 6), []⟩, ⟨some 2, none, .mv (.t 101), []⟩, ⟨some 3, none, .mv (.t 102), []⟩])
 (.ret))))))))))⟩
theorem ck125 : chkFn Tryz.prog 125 ir125 = true := by kernel_rfl
def ir126 : AFn := ⟨21, 1, [.t 2], .seq (.reg [] [⟨some 2, none, .mv (.k (.bool false)), []⟩])
 (.seq (.reg [] [⟨some 3, none, .mv (.t 0), []⟩, ⟨some 4, none, .bi .geq .u8 (.t 3) (.k (.int .u8 97)), []⟩, ⟨some 5, none, .mv (.t 4), []⟩, ⟨some 6, (some (5, true)), .mv (.t 0), []⟩, ⟨some 7, (some (5, true)), .bi .leq .u8 (.t 6) (.k (.int .u8 122)), []⟩, ⟨some 8, none, .pick (.t 5) (.t 7) (.k (.bool false)), []⟩, ⟨some 9, none, .mv (.t 8), []⟩, ⟨some 10, (some (9, false)), .mv (.t 0), []⟩, ⟨some 11, (some (9, false)), .bi .geq .u8 (.t 10) (.k (.int .u8 65)), []⟩, ⟨some 12, (some (9, false)), .mv (.t 11), []⟩, ⟨some 13, (some (12, true)), .mv (.t 0), []⟩, ⟨some 14, (some (12, true)), .bi .leq .u8 (.t 13) (.k (.int .u8 90)), []⟩, ⟨some 15, (some (9, false)), .pick (.t 12) (.t 14) (.k (.bool false)), []⟩, ⟨some 16, none, .pick (.t 9) (.k (.bool true)) (.t 15), []⟩, ⟨some 17, none, .mv (.t 16), []⟩, ⟨some 18, (some (17, false)), .mv (.t 0), []⟩, ⟨some 19, (some (17, false)), .bi .eql .u8 (.t 18) (.k (.int .u8 95)), []⟩, ⟨some 20, none, .pick (.t 17) (.k (.bool true)) (.t 19), []⟩, ⟨some 2, none, .mv (.t 20), []⟩])
 (.ret))⟩
theorem ck126 : chkFn Tryz.prog 126 ir126 = true := by kernel_rfl
def ir127 : AFn := ⟨9, 1, [.t 2], .seq (.reg [] [⟨some 2, none, .mv (.k (.bool false)), []⟩])
 (.seq (.reg [] [⟨some 3, none, .mv (.t 0), []⟩, ⟨some 4, none, .bi .geq .u8 (.t 3) (.k (.int .u8 48)), []⟩, ⟨some 5, none, .mv (.t 4), []⟩, ⟨some 6, (some (5, true)), .mv (.t 0), []⟩, ⟨some 7, (some (5, true)), .bi .leq .u8 (.t 6) (.k (.int .u8 57)), []⟩, ⟨some 8, none, .pick (.t 5) (.t 7) (.k (.bool false)), []⟩, ⟨some 2, none, .mv (.t 8), []⟩])
 (.ret))⟩
theorem ck127 : chkFn Tryz.prog 127 ir127 = true := by kernel_rfl
def ir139 : AFn := ⟨48, 2, [.t 4], .seq (.reg [] [⟨some 4, none, .mv (.k (.int .i64 0)), []⟩])
 (.seq (.seq (.reg [] [⟨some 8, none, .mv (.t 1), []⟩, ⟨some 9, none, .call 99 [(.t 8), (.k (.str [117]))], []⟩])
 (.cond (.t 9) (.seq (.reg [] [⟨some 11, none, .mv (.t 1), []⟩, ⟨some 12, none, .sls (.t 11) (some (.k (.int .i64 1))) none, []⟩, ⟨some 13, none, .call 168 [(.t 12)], []⟩, ⟨some 10, none, .mv (.t 13), []⟩, ⟨some 14, none, .ext (.t 10) 0, []⟩, ⟨some 15, none, .ext (.t 10) 1, []⟩, ⟨some 5, none, .mv (.t 14), []⟩, ⟨some 6, none, .mv (.t 15), []⟩])
 (.seq (.seq (.reg [] [⟨some 16, none, .mv (.t 6), []⟩, ⟨some 17, none, .not (.t 16), []⟩])
 (.cond (.t 17) (.seq (.reg [] [⟨some 4, none, .mv (.k (.int .i64 0)), []⟩])
 (.ret)) (.skip)))
 (.seq (.reg [] [⟨some 18, none, .mv (.t 0), []⟩, ⟨some 19, none, .mv (.t 0), []⟩, ⟨some 20, none, .nilchk (.t 19), []⟩, ⟨some 21, none, .fa 1 (.t 20), []⟩, ⟨some 22, none, .ld 1 false (.t 21), []⟩, ⟨some 23, none, .mv (.t 5), []⟩, ⟨some 24, none, .bls 1 1 [.int .i64 0] [(0, (.t 23))], []⟩, ⟨some 25, none, .app 1 8 (.t 22) (.t 24), []⟩, ⟨some 26, none, .nilchk (.t 18), []⟩, ⟨some 27, none, .fa 1 (.t 26), []⟩, ⟨none, none, .st 1 (.t 27) (.t 25), []⟩])
 (.seq (.reg [] [⟨some 4, none, .mv (.k (.int .i64 5)), []⟩])
 (.ret))))) (.skip)))
 (.seq (.seq (.reg [] [⟨some 28, none, .mv (.t 1), []⟩, ⟨some 29, none, .bs .eql (.t 28) (.k (.str [])), []⟩])
 (.cond (.t 29) (.seq (.reg [] [⟨some 4, none, .mv (.k (.int .i64 0)), []⟩])
 (.ret)) (.skip)))
 (.seq (.reg [] [⟨some 30, none, .mv (.t 1), []⟩, ⟨some 31, none, .ixs (.t 30) (.k (.int .i64 0)), []⟩, ⟨some 32, none, .call 68 [(.k (.str [34, 92, 47, 98, 102, 110, 114, 116])), (.t 31)], []⟩, ⟨some 7, none, .mv (.t 32), []⟩])
 (.seq (.seq (.reg [] [⟨some 33, none, .mv (.t 7), []⟩, ⟨some 34, none, .bi .lss .i64 (.t 33) (.k (.int .i64 0)), []⟩])
 (.cond (.t 34) (.seq (.reg [] [⟨some 4, none, .mv (.k (.int .i64 0)), []⟩])
 (.ret)) (.skip)))
 (.seq (.reg [] [⟨some 35, none, .mv (.t 0), []⟩, ⟨some 36, none, .call 140 [(.t 35)], []⟩])
 (.seq (.reg [0, 1, 2, 3, 4, 5, 6, 7, 8, 9, 10, 11] [⟨some 37, none, .mv (.t 0), []⟩, ⟨some 38, none, .mv (.t 0), []⟩, ⟨some 39, none, .nilchk (.t 38), []⟩, ⟨some 40, none, .fa 0 (.t 39), []⟩, ⟨some 41, none, .ld 1 false (.t 40), []⟩, ⟨some 42, none, .mv (.t 7), []⟩, ⟨some 43, none, .ixs (.k (.str [34, 92, 47, 8, 12, 10, 13, 9])) (.t 42), []⟩, ⟨some 44, none, .bls 1 1 [.int .u8 0] [(0, (.t 43))], []⟩, ⟨some 45, none, .app 1 1 (.t 41) (.t 44), []⟩, ⟨some 46, none, .nilchk (.t 37), []⟩, ⟨some 47, none, .fa 0 (.t 46), []⟩, ⟨none, none, .st 1 (.t 47) (.t 45), []⟩])
 (.seq (.reg [] [⟨some 4, none, .mv (.k (.int .i64 1)), []⟩])
 (.ret))))))))⟩
theorem ck139 : chkFn Tryz.prog 139 ir139 = true := by kernel_rfl
def ir140 : AFn := ⟨34, 1, [], .seq (.reg [] [⟨some 5, none, .mv (.t 0), []⟩, ⟨some 6, none, .nilchk (.t 5), []⟩, ⟨some 7, none, .fa 1 (.t 6), []⟩, ⟨some 8, none, .ld 1 false (.t 7), []⟩, ⟨some 9, none, .call 169 [(.t 8)], []⟩, ⟨some 4, none, .mv (.t 9), []⟩, ⟨some 10, none, .ext (.t 4) 0, []⟩, ⟨some 11, none, .ext (.t 4) 1, []⟩, ⟨some 2, none, .mv (.t 10), []⟩, ⟨some 3, none, .mv (.t 11), []⟩])
 (.reg [0, 1, 2, 3, 4, 5, 6, 7, 9, 10, 11, 12, 8, 13, 14, 15, 16, 17, 18, 19, 20, 21, 22, 23, 24] [⟨some 12, none, .mv (.t 0), []⟩, ⟨some 13, none, .mv (.t 0), []⟩, ⟨some 14, none, .mv (.t 0), []⟩, ⟨some 15, none, .mv (.t 0), []⟩, ⟨some 16, none, .nilchk (.t 15), []⟩, ⟨some 17, none, .fa 0 (.t 16), []⟩, ⟨some 18, none, .ld 1 false (.t 17), []⟩, ⟨some 19, none, .mv (.t 2), []⟩, ⟨some 21, none, .mv (.t 0), []⟩, ⟨some 22, none, .nilchk (.t 21), []⟩, ⟨some 23, none, .fa 2 (.t 22), []⟩, ⟨some 24, none, .ld 1 false (.t 23), []⟩, ⟨some 20, none, .apps (.t 18) (.t 19), [11]⟩, ⟨some 25, none, .mv (.t 24), []⟩, ⟨some 26, (some (25, true)), .mv (.t 3), []⟩, ⟨some 27, none, .pick (.t 25) (.t 26) (.k (.bool false)), []⟩, ⟨some 28, none, .nilchk (.t 12), []⟩, ⟨some 29, none, .fa 0 (.t 28), []⟩, ⟨none, none, .st 1 (.t 29) (.t 20), []⟩, ⟨some 30, none, .nilchk (.t 13), []⟩, ⟨some 31, none, .fa 1 (.t 30), []⟩, ⟨none, none, .st 1 (.t 31) (.k (.sl .nil 1 [])), []⟩, ⟨some 32, none, .nilchk (.t 14), []⟩, ⟨some 33, none, .fa 2 (.t 32), []⟩, ⟨none, none, .st 1 (.t 33) (.t 27), []⟩])⟩
theorem ck140 : chkFn Tryz.prog 140 ir140 = true := by kernel_rfl
def ir141 : AFn := ⟨24, 1, [.t 2], .seq (.reg [] [⟨some 2, none, .mv (.k (.int .i64 0)), []⟩])
 (.seq (.reg [] [⟨some 3, none, .mv (.k (.int .i64 0)), []⟩])
 (.seq (.seq (.reg [] [⟨some 5, none, .mv (.t 0), []⟩, ⟨some 6, none, .call 99 [(.t 5), (.k (.str [45]))], []⟩])
 (.cond (.t 6) (.reg [] [⟨some 3, none, .mv (.k (.int .i64 1)), []⟩]) (.skip)))
 (.seq (.reg [] [⟨some 7, none, .mv (.t 0), []⟩, ⟨some 8, none, .mv (.t 3), []⟩, ⟨some 9, none, .sls (.t 7) (some (.t 8)) none, []⟩, ⟨some 10, none, .call 142 [(.t 9)], []⟩, ⟨some 4, none, .mv (.t 10), []⟩])
 (.seq (.block 0 (.seq (.reg [] [⟨some 12, none, .mv (.t 4), []⟩, ⟨some 13, none, .bi .eql .i64 (.t 12) (.k (.int .i64 0)), []⟩, ⟨some 11, none, .mv (.t 13), []⟩])
 (.cond (.t 11) (.seq (.reg [] [⟨some 2, none, .mv (.k (.int .i64 0)), []⟩])
 (.ret)) (.seq (.reg [] [⟨some 15, none, .mv (.t 0), []⟩, ⟨some 16, none, .mv (.t 3), []⟩, ⟨some 17, none, .ixs (.t 15) (.t 16), []⟩, ⟨some 18, none, .bi .eql .u8 (.t 17) (.k (.int .u8 48)), []⟩, ⟨some 14, none, .mv (.t 18), []⟩])
 (.cond (.t 14) (.seq (.reg [] [⟨some 19, none, .mv (.t 3), []⟩, ⟨some 20, none, .bi .add .i64 (.t 19) (.k (.int .i64 1)), []⟩, ⟨some 2, none, .mv (.t 20), []⟩])
 (.ret)) (.skip))))))
 (.seq (.reg [] [⟨some 21, none, .mv (.t 3), []⟩, ⟨some 22, none, .mv (.t 4), []⟩, ⟨some 23, none, .bi .add .i64 (.t 21) (.t 22), []⟩, ⟨some 2, none, .mv (.t 23), []⟩])
 (.ret))))))⟩
theorem ck141 : chkFn Tryz.prog 141 ir141 = true := by kernel_rfl
def ir142 : AFn := ⟨17, 1, [.t 2], .seq (.reg [] [⟨some 2, none, .mv (.k (.int .i64 0)), []⟩])
 (.seq (.reg [] [⟨some 3, none, .mv (.k (.int .i64 0)), []⟩])
 (.seq (.block 0 (.loop [0, 3] (.seq (.seq (.reg [] [⟨some 4, none, .mv (.t 3), []⟩, ⟨some 5, none, .mv (.t 0), []⟩, ⟨some 6, none, .lens (.t 5), []⟩, ⟨some 7, none, .bi .lss .i64 (.t 4) (.t 6), []⟩, ⟨some 8, none, .mv (.t 7), []⟩, ⟨some 9, (some (8, true)), .mv (.t 0), []⟩, ⟨some 10, (some (8, true)), .mv (.t 3), []⟩, ⟨some 11, (some (8, true)), .ixs (.t 9) (.t 10), []⟩, ⟨some 12, (some (8, true)), .call 107 [(.t 11)], []⟩, ⟨some 13, none, .pick (.t 8) (.t 12) (.k (.bool false)), []⟩])
 (.cond (.t 13) (.skip) (.exit 0)))
 (.block 1 (.reg [] [⟨some 14, none, .mv (.t 3), []⟩, ⟨some 15, none, .bi .add .i64 (.t 14) (.k (.int .i64 1)), []⟩, ⟨some 3, none, .mv (.t 15), []⟩])))))
 (.seq (.reg [] [⟨some 16, none, .mv (.t 3), []⟩, ⟨some 2, none, .mv (.t 16), []⟩])
 (.ret))))⟩
theorem ck142 : chkFn Tryz.prog 142 ir142 = true := by kernel_rfl
def ir143 : AFn := ⟨39, 1, [.t 2], .seq (.reg [] [⟨some 2, none, .mv (.k (.int .i64 0)), []⟩])
 (.seq (.seq (.reg [] [⟨some 5, none, .mv (.t 0), []⟩, ⟨some 6, none, .bs .eql (.t 5) (.k (.str [])), []⟩, ⟨some 7, none, .mv (.t 6), []⟩, ⟨some 8, (some (7, false)), .mv (.t 0), []⟩, ⟨some 9, (some (7, false)), .ixs (.t 8) (.k (.int .i64 0)), []⟩, ⟨some 10, (some (7, false)), .bi .neq .u8 (.t 9) (.k (.int .u8 101)), []⟩, ⟨some 11, (some (7, false)), .mv (.t 10), []⟩, ⟨some 12, (some (11, true)), .mv (.t 0), []⟩, ⟨some 13, (some (11, true)), .ixs (.t 12) (.k (.int .i64 0)), []⟩, ⟨some 14, (some (11, true)), .bi .neq .u8 (.t 13) (.k (.int .u8 69)), []⟩, ⟨some 15, (some (7, false)), .pick (.t 11) (.t 14) (.k (.bool false)), []⟩, ⟨some 16, none, .pick (.t 7) (.k (.bool true)) (.t 15), []⟩])
 (.cond (.t 16) (.seq (.reg [] [⟨some 2, none, .mv (.k (.int .i64 0)), []⟩])
 (.ret)) (.skip)))
 (.seq (.reg [] [⟨some 3, none, .mv (.k (.int .i64 1)), []⟩])
 (.seq (.seq (.reg [] [⟨some 17, none, .mv (.t 0), []⟩, ⟨some 18, none, .lens (.t 17), []⟩, ⟨some 19, none, .bi .gtr .i64 (.t 18) (.k (.int .i64 1)), []⟩, ⟨some 20, none, .mv (.t 19), []⟩, ⟨some 21, (some (20, true)), .mv (.t 0), []⟩, ⟨some 22, (some (20, true)), .ixs (.t 21) (.k (.int .i64 1)), []⟩, ⟨some 23, (some (20, true)), .bi .eql .u8 (.t 22) (.k (.int .u8 43)), []⟩, ⟨some 24, (some (20, true)), .mv (.t 23), []⟩, ⟨some 25, (some (24, false)), .mv (.t 0), []⟩, ⟨some 26, (some (24, false)), .ixs (.t 25) (.k (.int .i64 1)), []⟩, ⟨some 27, (some (24, false)), .bi .eql .u8 (.t 26) (.k (.int .u8 45)), []⟩, ⟨some 28, (some (20, true)), .pick (.t 24) (.k (.bool true)) (.t 27), []⟩, ⟨some 29, none, .pick (.t 20) (.t 28) (.k (.bool false)), []⟩])
 (.cond (.t 29) (.reg [] [⟨some 3, none, .mv (.k (.int .i64 2)), []⟩]) (.skip)))
 (.seq (.reg [] [⟨some 30, none, .mv (.t 0), []⟩, ⟨some 31, none, .mv (.t 3), []⟩, ⟨some 32, none, .sls (.t 30) (some (.t 31)) none, []⟩, ⟨some 33, none, .call 142 [(.t 32)], []⟩, ⟨some 4, none, .mv (.t 33), []⟩])
 (.seq (.seq (.reg [] [⟨some 34, none, .mv (.t 4), []⟩, ⟨some 35, none, .bi .eql .i64 (.t 34) (.k (.int .i64 0)), []⟩])
 (.cond (.t 35) (.seq (.reg [] [⟨some 2, none, .mv (.k (.int .i64 0)), []⟩])
 (.ret)) (.skip)))
 (.seq (.reg [] [⟨some 36, none, .mv (.t 3), []⟩, ⟨some 37, none, .mv (.t 4), []⟩, ⟨some 38, none, .bi .add .i64 (.t 36) (.t 37), []⟩, ⟨some 2, none, .mv (.t 38), []⟩])
 (.ret)))))))⟩
theorem ck143 : chkFn Tryz.prog 143 ir143 = true := by kernel_rfl
def ir151 : AFn := ⟨36, 3, [.t 6], .seq (.reg [] [⟨some 6, none, .mv (.k (.sl .nil 1 [])), []⟩])
 (.seq (.seq (.reg [] [⟨some 9, none, .mv (.t 2), []⟩, ⟨some 10, none, .bi .eql .i64 (.t 9) (.k (.int .i64 10)), []⟩])
 (.cond (.t 10) (.seq (.seq (.reg [] [⟨some 11, none, .mv (.t 1), []⟩, ⟨some 12, none, .bi .lss .u64 (.t 11) (.k (.int .u64 100)), []⟩])
 (.cond (.t 12) (.seq (.reg [] [⟨some 13, none, .mv (.t 0), []⟩, ⟨some 14, none, .mv (.t 1), []⟩, ⟨some 15, none, .cvi .i64 (.t 14), []⟩, ⟨some 16, none, .call 155 [(.t 15)], []⟩, ⟨some 17, none, .apps (.t 13) (.t 16), []⟩, ⟨some 6, none, .mv (.t 17), []⟩])
 (.ret)) (.skip)))
 (.seq (.reg [] [⟨some 7, none, .alloc [.int .u8 0, .int .u8 0, .int .u8 0, .int .u8 0, .int .u8 0, .int .u8 0, .int .u8 0, .int .u8 0, .int .u8 0, .int .u8 0, .int .u8 0, .int .u8 0, .int .u8 0, .int .u8 0, .int .u8 0, .int .u8 0, .int .u8 0, .int .u8 0, .int .u8 0, .int .u8 0, .int .u8 0, .int .u8 0, .int .u8 0, .int .u8 0], []⟩])
 (.seq (.reg [] [⟨some 18, none, .mv (.t 1), []⟩, ⟨some 19, none, .call 156 [(.t 18)], []⟩, ⟨some 8, none, .mv (.t 19), []⟩])
 (.seq (.reg [] [⟨some 20, none, .mv (.t 8), []⟩, ⟨some 21, none, .slar 24 (.t 7) (.t 20), []⟩, ⟨some 22, none, .mv (.t 1), []⟩, ⟨some 23, none, .call 157 [(.t 21), (.t 22)], []⟩])
 (.seq (.reg [] [⟨some 24, none, .mv (.t 0), []⟩, ⟨some 25, none, .mv (.t 8), []⟩, ⟨some 26, none, .slaf 24 1 (.t 7) (.t 25), []⟩, ⟨some 27, none, .app 1 1 (.t 24) (.t 26), []⟩, ⟨some 6, none, .mv (.t 27), []⟩])
 (.ret)))))) (.skip)))
 (.seq (.reg [] [⟨some 29, none, .mv (.t 0), []⟩, ⟨some 30, none, .mv (.t 1), []⟩, ⟨some 31, none, .mv (.t 2), []⟩, ⟨some 32, none, .call 158 [(.t 29), (.t 30), (.t 31), (.k (.bool false)), (.k (.bool true))], []⟩, ⟨some 28, none, .mv (.t 32), []⟩, ⟨some 33, none, .ext (.t 28) 0, []⟩, ⟨some 34, none, .ext (.t 28) 1, []⟩, ⟨some 0, none, .mv (.t 33), []⟩])
 (.seq (.reg [] [⟨some 35, none, .mv (.t 0), []⟩, ⟨some 6, none, .mv (.t 35), []⟩])
 (.ret))))⟩
theorem ck151 : chkFn Tryz.prog 151 ir151 = true := by kernel_rfl
def ir152 : AFn := ⟨23, 1, [.t 2], .seq (.reg [] [⟨some 2, none, .mv (.k (.bool false)), []⟩])
 (.seq (.reg [] [⟨some 6, none, .mv (.t 0), []⟩, ⟨some 7, none, .call 90 [(.t 6)], []⟩, ⟨some 3, none, .mv (.t 7), []⟩])
 (.seq (.reg [] [⟨some 9, none, .mv (.t 0), []⟩, ⟨some 10, none, .call 112 [(.t 9)], []⟩, ⟨some 8, none, .mv (.t 10), []⟩, ⟨some 11, none, .ext (.t 8) 0, []⟩, ⟨some 12, none, .ext (.t 8) 1, []⟩, ⟨some 4, none, .mv (.t 11), []⟩, ⟨some 5, none, .mv (.t 12), []⟩])
 (.seq (.reg [] [⟨some 13, none, .mv (.t 3), []⟩, ⟨some 14, none, .bi .eql .i64 (.t 13) (.k (.int .i64 4)), []⟩, ⟨some 15, none, .mv (.t 14), []⟩, ⟨some 16, (some (15, false)), .mv (.t 3), []⟩, ⟨some 17, (some (15, false)), .bi .eql .i64 (.t 16) (.k (.int .i64 3)), []⟩, ⟨some 18, (some (15, false)), .mv (.t 17), []⟩, ⟨some 19, (some (18, true)), .mv (.t 5), []⟩, ⟨some 20, (some (18, true)), .not (.t 19), []⟩, ⟨some 21, (some (15, false)), .pick (.t 18) (.t 20) (.k (.bool false)), []⟩, ⟨some 22, none, .pick (.t 15) (.k (.bool true)) (.t 21), []⟩, ⟨some 2, none, .mv (.t 22), []⟩])
 (.ret))))⟩
theorem ck152 : chkFn Tryz.prog 152 ir152 = true := by kernel_rfl
def ir153 : AFn := ⟨13, 1, [.t 2], .seq (.reg [] [⟨some 2, none, .mv (.k (.bool false)), []⟩])
 (.seq (.reg [] [⟨some 3, none, .mv (.t 0), []⟩, ⟨some 4, none, .bs .eql (.t 3) (.k (.str [116, 114, 117, 101])), []⟩, ⟨some 5, none, .mv (.t 4), []⟩, ⟨some 6, (some (5, false)), .mv (.t 0), []⟩, ⟨some 7, (some (5, false)), .bs .eql (.t 6) (.k (.str [102, 97, 108, 115, 101])), []⟩, ⟨some 8, none, .pick (.t 5) (.k (.bool true)) (.t 7), []⟩, ⟨some 9, none, .mv (.t 8), []⟩, ⟨some 10, (some (9, false)), .mv (.t 0), []⟩, ⟨some 11, (some (9, false)), .bs .eql (.t 10) (.k (.str [110, 117, 108, 108])), []⟩, ⟨some 12, none, .pick (.t 9) (.k (.bool true)) (.t 11), []⟩, ⟨some 2, none, .mv (.t 12), []⟩])
 (.ret))⟩
theorem ck153 : chkFn Tryz.prog 153 ir153 = true := by kernel_rfl
def ir154 : AFn := ⟨23, 2, [.t 4], .seq (.reg [] [⟨some 4, none, .mv (.k (.int .i64 0)), []⟩])
 (.seq (.reg [] [⟨some 5, none, .mv (.k (.int .i64 0)), []⟩])
 (.seq (.block 0 (.loop [0, 1, 5] (.seq (.seq (.reg [] [⟨some 6, none, .mv (.t 1), []⟩, ⟨some 7, none, .mv (.t 5), []⟩, ⟨some 8, none, .bi .add .i64 (.t 6) (.t 7), []⟩, ⟨some 9, none, .mv (.t 0), []⟩, ⟨some 10, none, .lens (.t 9), []⟩, ⟨some 11, none, .bi .lss .i64 (.t 8) (.t 10), []⟩, ⟨some 12, none, .mv (.t 11), []⟩, ⟨some 13, (some (12, true)), .mv (.t 0), []⟩, ⟨some 14, (some (12, true)), .mv (.t 1), []⟩, ⟨some 15, (some (12, true)), .mv (.t 5), []⟩, ⟨some 16, (some (12, true)), .bi .add .i64 (.t 14) (.t 15), []⟩, ⟨some 17, (some (12, true)), .ixs (.t 13) (.t 16), []⟩, ⟨some 18, (some (12, true)), .call 127 [(.t 17)], []⟩, ⟨some 19, none, .pick (.t 12) (.t 18) (.k (.bool false)), []⟩])
 (.cond (.t 19) (.skip) (.exit 0)))
 (.block 1 (.reg [] [⟨some 20, none, .mv (.t 5), []⟩, ⟨some 21, none, .bi .add .i64 (.t 20) (.k (.int .i64 1)), []⟩, ⟨some 5, none, .mv (.t 21), []⟩])))))
 (.seq (.reg [] [⟨some 22, none, .mv (.t 5), []⟩, ⟨some 4, none, .mv (.t 22), []⟩])
 (.ret))))⟩
theorem ck154 : chkFn Tryz.prog 154 ir154 = true := by kernel_rfl
def ir168 : AFn := ⟨44, 1, [.t 2, .t 3], .seq (.reg [] [⟨some 2, none, .mv (.k (.int .i64 0)), []⟩, ⟨some 3, none, .mv (.k (.bool false)), []⟩])
 (.seq (.seq (.reg [] [⟨some 7, none, .mv (.t 0), []⟩, ⟨some 8, none, .lens (.t 7), []⟩, ⟨some 9, none, .bi .lss .i64 (.t 8) (.k (.int .i64 4)), []⟩])
 (.cond (.t 9) (.seq (.reg [] [⟨some 2, none, .mv (.k (.int .i64 0)), []⟩, ⟨some 3, none, .mv (.k (.bool false)), []⟩])
 (.ret)) (.skip)))
 (.seq (.reg [] [⟨some 4, none, .mv (.k (.int .i64 0)), []⟩])
 (.seq (.seq (.reg [] [⟨some 10, none, .mv (.k (.int .i64 0)), []⟩])
 (.block 0 (.loop [0, 4, 10] (.seq (.reg [] [⟨some 11, none, .bi .lss .i64 (.t 10) (.k (.int .i64 4)), []⟩])
 (.seq (.cond (.t 11) (.skip) (.exit 0))
 (.seq (.block 1 (.seq (.reg [] [⟨some 12, none, .mv (.t 10), []⟩, ⟨some 5, none, .mv (.t 12), []⟩])
 (.seq (.reg [] [⟨some 13, none, .mv (.t 0), []⟩, ⟨some 14, none, .mv (.t 5), []⟩, ⟨some 15, none, .ixs (.t 13) (.t 14), []⟩, ⟨some 16, none, .bi .or .u8 (.t 15) (.k (.int .u8 32)), []⟩, ⟨some 17, none, .call 68 [(.k (.str [48, 49, 50, 51, 52, 53, 54, 55, 56, 57, 97, 98, 99, 100, 101, 102])), (.t 16)], []⟩, ⟨some 6, none, .mv (.t 17), []⟩])
 (.seq (.seq (.reg [] [⟨some 18, none, .mv (.t 6), []⟩, ⟨some 19, none, .bi .lss .i64 (.t 18) (.k (.int .i64 0)), []⟩, ⟨some 20, none, .mv (.t 19), []⟩, ⟨some 21, (some (20, false)), .mv (.t 0), []⟩, ⟨some 22, (some (20, false)), .mv (.t 5), []⟩, ⟨some 23, (some (20, false)), .ixs (.t 21) (.t 22), []⟩, ⟨some 24, (some (20, false)), .bi .lss .u8 (.t 23) (.k (.int .u8 48)), []⟩, ⟨some 25, none, .pick (.t 20) (.k (.bool true)) (.t 24), []⟩, ⟨some 26, none, .mv (.t 25), []⟩, ⟨some 27, (some (26, false)), .mv (.t 0), []⟩, ⟨some 28, (some (26, false)), .mv (.t 5), []⟩, ⟨some 29, (some (26, false)), .ixs (.t 27) (.t 28), []⟩, ⟨some 30, (some (26, false)), .bi .gtr .u8 (.t 29) (.k (.int .u8 57)), []⟩, ⟨some 31, (some (26, false)), .mv (.t 30), []⟩, ⟨some 32, (some (31, true)), .mv (.t 0), []⟩, ⟨some 33, (some (31, true)), .mv (.t 5), []⟩, ⟨some 34, (some (31, true)), .ixs (.t 32) (.t 33), []⟩, ⟨some 35, (some (31, true)), .bi .lss .u8 (.t 34) (.k (.int .u8 65)), []⟩, ⟨some 36, (some (26, false)), .pick (.t 31) (.t 35) (.k (.bool false)), []⟩, ⟨some 37, none, .pick (.t 26) (.k (.bool true)) (.t 36), []⟩])
 (.cond (.t 37) (.seq (.reg [] [⟨some 2, none, .mv (.k (.int .i64 0)), []⟩, ⟨some 3, none, .mv (.k (.bool false)), []⟩])
 (.ret)) (.skip)))
 (.reg [] [⟨some 38, none, .mv (.t 4), []⟩, ⟨some 39, none, .bi .mul .i64 (.k (.int .i64 16)) (.t 38), []⟩, ⟨some 40, none, .mv (.t 6), []⟩, ⟨some 41, none, .bi .add .i64 (.t 39) (.t 40), []⟩, ⟨some 4, none, .mv (.t 41), []⟩])))))
 (.reg [] [⟨some 42, none, .bi .add .i64 (.t 10) (.k (.int .i64 1)), []⟩, ⟨some 10, none, .mv (.t 42), []⟩])))))))
 (.seq (.reg [] [⟨some 43, none, .mv (.t 4), []⟩, ⟨some 2, none, .mv (.t 43), []⟩, ⟨some 3, none, .mv (.k (.bool true)), []⟩])
 (.ret)))))⟩
theorem ck168 : chkFn Tryz.prog 168 ir168 = true := by kernel_rfl
def ir169 : AFn := ⟨75, 1, [.t 2, .t 3], .seq (.reg [] [⟨some 2, none, .mv (.k (.str [])), []⟩, ⟨some 3, none, .mv (.k (.bool false)), []⟩])
 (.seq (.reg [] [⟨some 4, none, .mv (.k (.sl .nil 1 [])), []⟩])
 (.seq (.seq (.reg [] [⟨some 5, none, .mv (.k (.int .i64 0)), []⟩])
 (.block 0 (.loop [0, 4, 5] (.seq (.seq (.reg [] [⟨some 7, none, .mv (.t 5), []⟩, ⟨some 8, none, .mv (.t 0), []⟩, ⟨some 9, none, .len (.t 8), []⟩, ⟨some 10, none, .bi .lss .i64 (.t 7) (.t 9), []⟩])
 (.cond (.t 10) (.skip) (.exit 0)))
 (.seq (.block 1 (.seq (.reg [] [⟨some 13, none, .mv (.t 0), []⟩, ⟨some 14, none, .mv (.t 5), []⟩, ⟨some 15, none, .ia 1 (.t 13) (.t 14), []⟩, ⟨some 16, none, .ld 1 false (.t 15), []⟩, ⟨some 6, none, .mv (.t 16), []⟩])
 (.seq (.block 2 (.seq (.reg [] [⟨some 18, none, .mv (.t 6), []⟩, ⟨some 19, none, .bi .lss .i64 (.t 18) (.k (.int .i64 0)), []⟩, ⟨some 20, none, .mv (.t 19), []⟩, ⟨some 21, (some (20, false)), .mv (.t 6), []⟩, ⟨some 22, (some (20, false)), .bi .gtr .i64 (.t 21) (.k (.int .i64 65535)), []⟩, ⟨some 23, none, .pick (.t 20) (.k (.bool true)) (.t 22), []⟩, ⟨some 24, none, .mv (.t 23), []⟩, ⟨some 25, (some (24, false)), .mv (.t 6), []⟩, ⟨some 26, (some (24, false)), .bi .geq .i64 (.t 25) (.k (.int .i64 56320)), []⟩, ⟨some 27, (some (24, false)), .mv (.t 26), []⟩, ⟨some 28, (some (27, true)), .mv (.t 6), []⟩, ⟨some 29, (some (27, true)), .bi .leq .i64 (.t 28) (.k (.int .i64 57343)), []⟩, ⟨some 30, (some (24, false)), .pick (.t 27) (.t 29) (.k (.bool false)), []⟩, ⟨some 31, none, .pick (.t 24) (.k (.bool true)) (.t 30), []⟩, ⟨some 17, none, .mv (.t 31), []⟩])
 (.cond (.t 17) (.seq (.reg [] [⟨some 2, none, .mv (.k (.str [])), []⟩, ⟨some 3, none, .mv (.k (.bool false)), []⟩])
 (.ret)) (.seq (.reg [] [⟨some 33, none, .mv (.t 6), []⟩, ⟨some 34, none, .bi .geq .i64 (.t 33) (.k (.int .i64 55296)), []⟩, ⟨some 35, none, .mv (.t 34), []⟩, ⟨some 36, (some (35, true)), .mv (.t 6), []⟩, ⟨some 37, (some (35, true)), .bi .lss .i64 (.t 36) (.k (.int .i64 56320)), []⟩, ⟨some 38, none, .pick (.t 35) (.t 37) (.k (.bool false)), []⟩, ⟨some 32, none, .mv (.t 38), []⟩])
 (.cond (.t 32) (.seq (.reg [] [⟨some 39, none, .mv (.t 5), []⟩, ⟨some 40, none, .bi .add .i64 (.t 39) (.k (.int .i64 1)), []⟩, ⟨some 5, none, .mv (.t 40), []⟩])
 (.seq (.seq (.reg [] [⟨some 41, none, .mv (.t 5), []⟩, ⟨some 42, none, .mv (.t 0), []⟩, ⟨some 43, none, .len (.t 42), []⟩, ⟨some 44, none, .bi .eql .i64 (.t 41) (.t 43), []⟩, ⟨some 45, none, .mv (.t 44), []⟩, ⟨some 46, (some (45, false)), .mv (.t 0), []⟩, ⟨some 47, (some (45, false)), .mv (.t 5), []⟩, ⟨some 48, (some (45, false)), .ia 1 (.t 46) (.t 47), []⟩, ⟨some 49, (some (45, false)), .ld 1 false (.t 48), []⟩, ⟨some 50, (some (45, false)), .bi .lss .i64 (.t 49) (.k (.int .i64 56320)), []⟩, ⟨some 51, none, .pick (.t 45) (.k (.bool true)) (.t 50), []⟩, ⟨some 52, none, .mv (.t 51), []⟩, ⟨some 53, (some (52, false)), .mv (.t 0), []⟩, ⟨some 54, (some (52, false)), .mv (.t 5), []⟩, ⟨some 55, (some (52, false)), .ia 1 (.t 53) (.t 54), []⟩, ⟨some 56, (some (52, false)), .ld 1 false (.t 55), []⟩, ⟨some 57, (some (52, false)), .bi .gtr .i64 (.t 56) (.k (.int .i64 57343)), []⟩, ⟨some 58, none, .pick (.t 52) (.k (.bool true)) (.t 57), []⟩])
 (.cond (.t 58) (.seq (.reg [] [⟨some 2, none, .mv (.k (.str [])), []⟩, ⟨some 3, none, .mv (.k (.bool false)), []⟩])
 (.ret)) (.skip)))
 (.reg [] [⟨some 59, none, .mv (.t 6), []⟩, ⟨some 60, none, .bi .sub .i64 (.t 59) (.k (.int .i64 55296)), []⟩, ⟨some 61, none, .bi .mul .i64 (.k (.int .i64 1024)) (.t 60), []⟩, ⟨some 62, none, .bi .add .i64 (.k (.int .i64 65536)) (.t 61), []⟩, ⟨some 63, none, .mv (.t 0), []⟩, ⟨some 64, none, .mv (.t 5), []⟩, ⟨some 65, none, .ia 1 (.t 63) (.t 64), []⟩, ⟨some 66, none, .ld 1 false (.t 65), []⟩, ⟨some 67, none, .bi .add .i64 (.t 62) (.t 66), []⟩, ⟨some 68, none, .bi .sub .i64 (.t 67) (.k (.int .i64 56320)), []⟩, ⟨some 6, none, .mv (.t 68), []⟩]))) (.skip))))))
 (.reg [] [⟨some 69, none, .mv (.t 4), []⟩, ⟨some 70, none, .mv (.t 6), []⟩, ⟨some 71, none, .cvi .i32 (.t 70), []⟩, ⟨some 72, none, .call 179 [(.t 69), (.t 71)], []⟩, ⟨some 4, none, .mv (.t 72), []⟩]))))
 (.reg [] [⟨some 11, none, .mv (.t 5), []⟩, ⟨some 12, none, .bi .add .i64 (.t 11) (.k (.int .i64 1)), []⟩, ⟨some 5, none, .mv (.t 12), []⟩]))))))
 (.seq (.reg [] [⟨some 73, none, .mv (.t 4), []⟩, ⟨some 74, none, .cvb2s (.t 73), []⟩, ⟨some 2, none, .mv (.t 74), []⟩, ⟨some 3, none, .mv (.k (.bool true)), []⟩])
 (.ret))))⟩
theorem ck169 : chkFn Tryz.prog 169 ir169 = true := by kernel_rfl
def ir179 : AFn := ⟨16, 2, [.t 4], .seq (.reg [] [⟨some 4, none, .mv (.k (.sl .nil 1 [])), []⟩])
 (.seq (.seq (.reg [] [⟨some 5, none, .mv (.t 1), []⟩, ⟨some 6, none, .cvi .u32 (.t 5), []⟩, ⟨some 7, none, .bi .leq .u32 (.t 6) (.k (.int .u32 127)), []⟩])
 (.cond (.t 7) (.seq (.reg [] [⟨some 8, none, .mv (.t 0), []⟩, ⟨some 9, none, .mv (.t 1), []⟩, ⟨some 10, none, .cvi .u8 (.t 9), []⟩, ⟨some 11, none, .bls 1 1 [.int .u8 0] [(0, (.t 10))], []⟩, ⟨some 12, none, .app 1 1 (.t 8) (.t 11), []⟩, ⟨some 4, none, .mv (.t 12), []⟩])
 (.ret)) (.skip)))
 (.seq (.reg [] [⟨some 13, none, .mv (.t 0), []⟩, ⟨some 14, none, .mv (.t 1), []⟩, ⟨some 15, none, .call 188 [(.t 13), (.t 14)], []⟩, ⟨some 4, none, .mv (.t 15), []⟩])
 (.ret)))⟩
theorem ck179 : chkFn Tryz.prog 179 ir179 = true := by kernel_rfl
def ir188 : AFn := ⟨78, 2, [.t 4], .seq (.reg [] [⟨some 4, none, .mv (.k (.sl .nil 1 [])), []⟩])
 (.seq (.reg [] [⟨some 6, none, .mv (.t 1), []⟩, ⟨some 7, none, .cvi .u32 (.t 6), []⟩, ⟨some 5, none, .mv (.t 7), []⟩])
 (.block 0 (.seq (.reg [] [⟨some 12, none, .mv (.t 5), []⟩, ⟨some 13, none, .bi .leq .u32 (.t 12) (.k (.int .u32 2047)), []⟩, ⟨some 11, none, .mv (.t 13), []⟩])
 (.cond (.t 11) (.seq (.reg [] [⟨some 14, none, .mv (.t 0), []⟩, ⟨some 15, none, .mv (.t 1), []⟩, ⟨some 16, none, .shf .shr (.t 15) (.k (.int .u64 6)), []⟩, ⟨some 17, none, .cvi .u8 (.t 16), []⟩, ⟨some 18, none, .bi .or .u8 (.k (.int .u8 192)) (.t 17), []⟩, ⟨some 19, none, .mv (.t 1), []⟩, ⟨some 20, none, .cvi .u8 (.t 19), []⟩, ⟨some 21, none, .bi .and .u8 (.t 20) (.k (.int .u8 63)), []⟩, ⟨some 22, none, .bi .or .u8 (.k (.int .u8 128)) (.t 21), []⟩, ⟨some 23, none, .bls 1 2 [.int .u8 0] [(0, (.t 18)), (1, (.t 22))], []⟩, ⟨some 24, none, .app 1 1 (.t 14) (.t 23), []⟩, ⟨some 4, none, .mv (.t 24), []⟩])
 (.ret)) (.seq (.seq (.reg [] [⟨some 26, none, .mv (.t 5), []⟩, ⟨some 27, none, .bi .lss .u32 (.t 26) (.k (.int .u32 55296)), []⟩, ⟨some 25, none, .mv (.t 27), []⟩])
 (.cond (.t 25) (.skip) (.reg [] [⟨some 28, none, .mv (.t 5), []⟩, ⟨some 29, none, .bi .lss .u32 (.k (.int .u32 57343)) (.t 28), []⟩, ⟨some 30, none, .mv (.t 29), []⟩, ⟨some 31, (some (30, true)), .mv (.t 5), []⟩, ⟨some 32, (some (30, true)), .bi .leq .u32 (.t 31) (.k (.int .u32 65535)), []⟩, ⟨some 33, none, .pick (.t 30) (.t 32) (.k (.bool false)), []⟩, ⟨some 25, none, .mv (.t 33), []⟩])))
 (.cond (.t 25) (.seq (.reg [] [⟨some 34, none, .mv (.t 0), []⟩, ⟨some 35, none, .mv (.t 1), []⟩, ⟨some 36, none, .shf .shr (.t 35) (.k (.int .u64 12)), []⟩, ⟨some 37, none, .cvi .u8 (.t 36), []⟩, ⟨some 38, none, .bi .or .u8 (.k (.int .u8 224)) (.t 37), []⟩, ⟨some 39, none, .mv (.t 1), []⟩, ⟨some 40, none, .shf .shr (.t 39) (.k (.int .u64 6)), []⟩, ⟨some 41, none, .cvi .u8 (.t 40), []⟩, ⟨some 42, none, .bi .and .u8 (.t 41) (.k (.int .u8 63)), []⟩, ⟨some 43, none, .bi .or .u8 (.k (.int .u8 128)) (.t 42), []⟩, ⟨some 44, none, .mv (.t 1), []⟩, ⟨some 45, none, .cvi .u8 (.t 44), []⟩, ⟨some 46, none, .bi .and .u8 (.t 45) (.k (.int .u8 63)), []⟩, ⟨some 47, none, .bi .or .u8 (.k (.int .u8 128)) (.t 46), []⟩, ⟨some 48, none, .bls 1 3 [.int .u8 0] [(0, (.t 38)), (1, (.t 43)), (2, (.t 47))], []⟩, ⟨some 49, none, .app 1 1 (.t 34) (.t 48), []⟩, ⟨some 4, none, .mv (.t 49), []⟩])
 (.ret)) (.seq (.reg [] [⟨some 51, none, .mv (.t 5), []⟩, ⟨some 52, none, .bi .gtr .u32 (.t 51) (.k (.int .u32 65535)), []⟩, ⟨some 53, none, .mv (.t 52), []⟩, ⟨some 54, (some (53, true)), .mv (.t 5), []⟩, ⟨some 55, (some (53, true)), .bi .leq .u32 (.t 54) (.k (.int .u32 1114111)), []⟩, ⟨some 56, none, .pick (.t 53) (.t 55) (.k (.bool false)), []⟩, ⟨some 50, none, .mv (.t 56), []⟩])
 (.cond (.t 50) (.seq (.reg [] [⟨some 57, none, .mv (.t 0), []⟩, ⟨some 58, none, .mv (.t 1), []⟩, ⟨some 59, none, .shf .shr (.t 58) (.k (.int .u64 18)), []⟩, ⟨some 60, none, .cvi .u8 (.t 59), []⟩, ⟨some 61, none, .bi .or .u8 (.k (.int .u8 240)) (.t 60), []⟩, ⟨some 62, none, .mv (.t 1), []⟩, ⟨some 63, none, .shf .shr (.t 62) (.k (.int .u64 12)), []⟩, ⟨some 64, none, .cvi .u8 (.t 63), []⟩, ⟨some 65, none, .bi .and .u8 (.t 64) (.k (.int .u8 63)), []⟩, ⟨some 66, none, .bi .or .u8 (.k (.int .u8 128)) (.t 65), []⟩, ⟨some 67, none, .mv (.t 1), []⟩, ⟨some 68, none, .shf .shr (.t 67) (.k (.int .u64 6)), []⟩, ⟨some 69, none, .cvi .u8 (.t 68), []⟩, ⟨some 70, none, .bi .and .u8 (.t 69) (.k (.int .u8 63)), []⟩, ⟨some 71, none, .bi .or .u8 (.k (.int .u8 128)) (.t 70), []⟩, ⟨some 72, none, .mv (.t 1), []⟩, ⟨some 73, none, .cvi .u8 (.t 72), []⟩, ⟨some 74, none, .bi .and .u8 (.t 73) (.k (.int .u8 63)), []⟩, ⟨some 75, none, .bi .or .u8 (.k (.int .u8 128)) (.t 74), []⟩, ⟨some 76, none, .bls 1 4 [.int .u8 0] [(0, (.t 61)), (1, (.t 66)), (2, (.t 71)), (3, (.t 75))], []⟩, ⟨some 77, none, .app 1 1 (.t 57) (.t 76), []⟩, ⟨some 4, none, .mv (.t 77), []⟩])
 (.ret)) (.seq (.reg [] [⟨some 8, none, .mv (.t 0), []⟩, ⟨some 9, none, .bls 1 3 [.int .u8 0] [(0, (.k (.int .u8 239))), (1, (.k (.int .u8 191))), (2, (.k (.int .u8 189)))], []⟩, ⟨some 10, none, .app 1 1 (.t 8) (.t 9), []⟩, ⟨some 4, none, .mv (.t 10), []⟩])
 (.ret))))))))))⟩
theorem ck188 : chkFn Tryz.prog 188 ir188 = true := by kernel_rfl
end Go.Proofs.YtpjafglhdlfnbaaGreatDoor
namespace Go.Proofs.YtpjafglhdlfnbaaGreatDoor
open Go.Ab
mutual
inductive Val where
  | mk (k n : Int) (s : List UInt8) (l : List Val) (m : List Mem)
inductive Mem where
  | mk (name : List UInt8) (v : Val)
end
mutual
def cV : Val → List AV
  | .mk k n s l m => [.int .i64 k, .int .i64 n, .str s, .sl .no 5 (cVs l), .sl .no 6 (cMs m)]
def cVs : List Val → List (List AV)
  | [] => []
  | v :: r => cV v :: cVs r
def cM : Mem → List AV
  | .mk s v => .str s :: cV v
def cMs : List Mem → List (List AV)
  | [] => []
  | x :: r => cM x :: cMs r
end
theorem cVs_map : ∀ l, cVs l = l.map cV
  | [] => rfl
  | v :: r => by rw [cVs, cVs_map r]; rfl
theorem cMs_map : ∀ l, cMs l = l.map cM
  | [] => rfl
  | v :: r => by rw [cMs, cMs_map r]; rfl
theorem cVs_len (l : List Val) : (cVs l).length = l.length := by rw [cVs_map]; simp
theorem cMs_len (l : List Mem) : (cMs l).length = l.length := by rw [cMs_map]; simp
theorem cVs_get {l a : List Val} {x : Val} {b : List Val} (h : l = a ++ x :: b) : (cVs l).getD a.length [] = cV x := by rw [cVs_map, getD_mid' h]
theorem cMs_get {l a : List Mem} {x : Mem} {b : List Mem} (h : l = a ++ x :: b) : (cMs l).getD a.length [] = cM x := by rw [cMs_map, getD_mid' h]
theorem cV_mk (k n : Int) (s : List UInt8) (l : List Val) (m : List Mem) : cV (.mk k n s l m) = [.int .i64 k, .int .i64 n, .str s, .sl .no 5 (cVs l), .sl .no 6 (cMs m)] := rfl
theorem cM_mk (s : List UInt8) (v : Val) : cM (.mk s v) = .str s :: cV v := rfl
theorem cV_strip (v : Val) : (cV v).map AV.strip1 = cV v := by cases v; rfl
mutual
theorem Val.ind {P : Val → Prop} (h : ∀ k n s l m, (∀ v ∈ l, P v) → (∀ s v, Mem.mk s v ∈ m → P v) → P (.mk k n s l m)) : ∀ v, P v
  | .mk k n s l m => h k n s l m (Val.indL h l) (fun s v hm => Val.indM h m s v hm)
theorem Val.indL {P : Val → Prop} (h : ∀ k n s l m, (∀ v ∈ l, P v) → (∀ s v, Mem.mk s v ∈ m → P v) → P (.mk k n s l m)) : ∀ l : List Val, ∀ v ∈ l, P v
  | [], _, hv => by cases hv
  | x :: r, v, hv => (List.mem_cons.1 hv).elim (fun e => e ▸ Val.ind h x) (Val.indL h r v)
theorem Val.ind1 {P : Val → Prop} (h : ∀ k n s l m, (∀ v ∈ l, P v) → (∀ s v, Mem.mk s v ∈ m → P v) → P (.mk k n s l m)) : ∀ m : Mem, ∀ s v, m = .mk s v → P v
  | .mk s v, s', v', e => by cases e; exact Val.ind h v
theorem Val.indM {P : Val → Prop} (h : ∀ k n s l m, (∀ v ∈ l, P v) → (∀ s v, Mem.mk s v ∈ m → P v) → P (.mk k n s l m)) : ∀ l : List Mem, ∀ s v, Mem.mk s v ∈ l → P v
  | [], _, _, hv => by cases hv
  | x :: r, s, v, hv => (List.mem_cons.1 hv).elim (fun e => Val.ind1 h x s v e.symm) (Val.indM h r s v)
end
theorem cV_len (v : Val) : (cV v).length = 5 := by cases v; rfl
theorem cM_len (x : Mem) : (cM x).length = 6 := by cases x with | mk s v => cases v; rfl
theorem cV_take (v : Val) : (cV v).take 5 = cV v := by cases v; rfl
theorem cM_take (x : Mem) : (cM x).take 6 = cM x := by cases x with | mk s v => cases v; rfl
theorem cV_splice (a b c d e : AV) (v : Val) : splice [a, b, c, d, e] 0 (cV v) = cV v := by cases v; rfl
theorem cM_splice (a b c d e f : AV) (x : Mem) : splice [a, b, c, d, e, f] 0 (cM x) = cM x := by cases x with | mk s v => cases v; rfl
mutual
def bV : Val → Nat
  | .mk _ _ s l m => 1 + s.length + bVs l + bMs m
def bVs : List Val → Nat
  | [] => 0
  | v :: r => bV v + bVs r
def bM : Mem → Nat
  | .mk s v => s.length + bV v
def bMs : List Mem → Nat
  | [] => 0
  | x :: r => bM x + bMs r
end
theorem bV_pos (v : Val) : 1 ≤ bV v := by cases v; simp only [bV]; omega
theorem bM_pos (v : Mem) : 1 ≤ bM v := by cases v with | mk s v => have := bV_pos v; simp only [bM]; omega
theorem bVs_len : ∀ l, l.length ≤ bVs l
  | [] => by simp
  | v :: r => by have := bVs_len r; have := bV_pos v; simp only [bVs, List.length_cons]; omega
theorem bMs_len : ∀ l, l.length ≤ bMs l
  | [] => by simp
  | v :: r => by have := bMs_len r; have := bM_pos v; simp only [bMs, List.length_cons]; omega
theorem bVs_mid (a : List Val) (x : Val) (b : List Val) : bVs (a ++ x :: b) = bVs a + bV x + bVs b := by
  induction a with
  | nil => simp [bVs]
  | cons y a ih => simp only [List.cons_append, bVs, ih]; omega
theorem bMs_mid (a : List Mem) (x : Mem) (b : List Mem) : bMs (a ++ x :: b) = bMs a + bM x + bMs b := by
  induction a with
  | nil => simp [bMs]
  | cons y a ih => simp only [List.cons_append, bMs, ih]; omega
abbrev Lim : Nat := 1099511627776
theorem sizeC : ∀ v, bV v ≤ Lim → Pure Tryz.prog 16 [.agg (cV v)] (.int .i64 (bV v)) := by
  refine Val.ind fun k n s l m ihl ihm hb => ?_
  refine Pure.go ir16 ck16 (Nat.le_refl _) fun KP Q hQ => ?_
  have hl := cVs_len l
  have hm := cMs_len m
  have hll := bVs_len l
  have hml := bMs_len m
  have hb' : 1 + s.length + bVs l + bMs m ≤ Lim := hb
  simp only [Lim] at hb'
  simp (disch := first | omega | assumption) only [ir16, cV_mk, wrap64, go_sem, ↓reduceIte]
  refine goL_range l 4 (fun n : Int => [(3, .int .i64 n)]) (fun done rest n H => n + bVs rest = 1 + s.length + bVs l ∧ H = Heap.emp) (1 + s.length) (by simp (disch := first | omega | assumption) only [go_sem, ↓reduceIte]) ⟨by omega, rfl⟩ ?_ ?_
  · rintro n H J ⟨hn, rfl⟩ hlt
    simp only [bVs] at hn
    simp (disch := first | omega | assumption) only [hl, hlt, go_sem, ↓reduceIte]
    refine goL_range m 5 (fun n : Int => [(3, .int .i64 n)]) (fun done rest n H => n + bMs rest = 1 + s.length + bVs l + bMs m ∧ H = Heap.emp) n (by simp (disch := first | omega | assumption) only [go_sem, ↓reduceIte]) ⟨by omega, rfl⟩ ?_ ?_
    · rintro n H J ⟨hn, rfl⟩ hlt
      simp only [bMs] at hn
      simp (disch := first | omega | assumption) only [hm, hlt, go_sem, ↓reduceIte]
      have : n = ((bV (.mk k n s l m) : Nat) : Int) := by simp only [bV]; omega
      exact hQ _ _ _ _ nofun rfl (by simp [tupOf, envOf, AV.strip, AV.strip1, bV, this])
    · rintro done x rest n H J hd hlt _ ⟨hn, rfl⟩ hJ
      have hg := cMs_get hd
      have hbm := bMs_mid done x rest
      rw [← hd] at hbm
      cases x with
      | mk t v =>
      simp only [bMs, bM] at hn hbm
      simp (disch := first | omega | assumption) only [cV_len, cV_take, cV_splice, cM_len, cM_take, cM_splice, cM_mk, hm, hlt, hg, wrap64, go_sem, ↓reduceIte]
      refine goK_pure (ihm t v (by rw [hd]; simp) (by simp only [Lim]; omega)) ?_
      simp (disch := first | omega | assumption) only [hl, hm, hlt, hg, cM_mk, wrap64, go_sem, ↓reduceIte]
      refine goJ (hJ (n + t.length + bV v) Heap.emp ⟨by omega, rfl⟩) (by simp (disch := first | omega | assumption) only [go_sem, ↓reduceIte])
  · rintro done x rest n H J hd hlt _ ⟨hn, rfl⟩ hJ
    have hg := cVs_get hd
    have hbm := bVs_mid done x rest
    rw [← hd] at hbm
    simp only [bVs] at hn
    simp (disch := first | omega | assumption) only [cV_len, cV_take, cV_splice, cM_len, cM_take, cM_splice, cM_mk, hl, hlt, hg, go_sem, ↓reduceIte]
    refine goK_pure (ihl x (by rw [hd]; simp) (by simp only [Lim]; omega)) ?_
    simp (disch := first | omega | assumption) only [wrap64, go_sem, ↓reduceIte]
    refine goJ (hJ (n + bV x) Heap.emp ⟨by omega, rfl⟩) (by simp (disch := first | omega | assumption) only [go_sem, ↓reduceIte])
noncomputable def eqd {α : Type} (a b : α) : Bool := @decide (a = b) (Classical.propDecidable _)
theorem eqd_true {α : Type} {a b : α} (h : a = b) : eqd a b = true := by simp [eqd, h]
theorem eqd_false {α : Type} {a b : α} (h : a ≠ b) : eqd a b = false := by simp [eqd, h]
theorem two_mid {α : Type} {a b done rest : List α} {x : α} (h : a = done ++ x :: rest) (hl : a.length = b.length) (hp : b.take done.length = done) : ∃ y r, b = done ++ y :: r := by
  have h1 : done.length < b.length := by rw [← hl, h]; simp
  refine ⟨b[done.length], b.drop (done.length + 1), ?_⟩
  conv => lhs; rw [← List.take_append_drop done.length b, hp, List.drop_eq_getElem_cons h1]
theorem two_step {α : Type} {b done r : List α} {y : α} (h : b = done ++ y :: r) : b.take (done ++ [y]).length = done ++ [y] := by
  subst h
  have e : done ++ y :: r = (done ++ [y]) ++ r := by simp
  rw [e, List.take_left']; rfl
theorem two_end {α : Type} {a b : List α} (hl : a.length = b.length) (hp : b.take a.length = a) : a = b := by
  rw [hl, List.take_length] at hp; exact hp.symm
theorem two_ne {α : Type} {a b done rest r : List α} {x y : α} (h : a = done ++ x :: rest) (h' : b = done ++ y :: r) (hxy : x ≠ y) : a ≠ b := fun e => by
  rw [h, h'] at e
  exact hxy (List.cons.inj (List.append_cancel_left e)).1
end Go.Proofs.YtpjafglhdlfnbaaGreatDoor
namespace Go.Proofs.YtpjafglhdlfnbaaGreatDoor
open Go.Ab
mutual
def depthV : Val → Int
  | .mk k _ _ l m => if k = 6 then depthVs l 0 + 1 else if k = 7 then depthMs m 0 + 1 else 0
def depthVs : List Val → Int → Int
  | [], n => n
  | v :: r, n => depthVs r (mm2 true n (depthV v))
def depthM : Mem → Int
  | .mk _ v => depthV v
def depthMs : List Mem → Int → Int
  | [], n => n
  | x :: r, n => depthMs r (mm2 true n (depthM x))
end
theorem mm2_ge (a b : Int) : a ≤ mm2 true a b := by simp only [mm2, if_true]; split <;> omega
mutual
theorem depthV_le : ∀ v, 0 ≤ depthV v ∧ depthV v ≤ bV v
  | .mk k n s l m => by
    have h1 := depthVs_le l 0
    have h2 := depthMs_le m 0
    simp only [depthV, bV]
    split
    · omega
    · split <;> omega
theorem depthVs_le : ∀ l (n : Int), n ≤ depthVs l n ∧ (depthVs l n ≤ n ∨ depthVs l n ≤ bVs l)
  | [], n => by simp [depthVs, bVs]
  | v :: r, n => by
    have h1 := depthV_le v
    have h2 := depthVs_le r (mm2 true n (depthV v))
    have h3 := mm2_ge n (depthV v)
    have h4 : mm2 true n (depthV v) = n ∨ mm2 true n (depthV v) = depthV v := by simp only [mm2, if_true]; split <;> simp
    simp only [depthVs, bVs]
    omega
theorem depthM_le : ∀ x, 0 ≤ depthM x ∧ depthM x ≤ bM x
  | .mk s v => by have := depthV_le v; simp only [depthM, bM]; omega
theorem depthMs_le : ∀ l (n : Int), n ≤ depthMs l n ∧ (depthMs l n ≤ n ∨ depthMs l n ≤ bMs l)
  | [], n => by simp [depthMs, bMs]
  | v :: r, n => by
    have h1 := depthM_le v
    have h2 := depthMs_le r (mm2 true n (depthM v))
    have h3 := mm2_ge n (depthM v)
    have h4 : mm2 true n (depthM v) = n ∨ mm2 true n (depthM v) = depthM v := by simp only [mm2, if_true]; split <;> simp
    simp only [depthMs, bMs]
    omega
end
theorem depthC : ∀ v, bV v ≤ Lim → Pure Tryz.prog 22 [.agg (cV v)] (.int .i64 (depthV v)) := by
  refine Val.ind fun k n s l m ihl ihm hb => ?_
  refine Pure.go ir22 ck22 (Nat.le_refl _) fun KP Q hQ => ?_
  have hl := cVs_len l
  have hm := cMs_len m
  have hll := bVs_len l
  have hml := bMs_len m
  have hb' : 1 + s.length + bVs l + bMs m ≤ Lim := hb
  simp only [Lim] at hb'
  have d1 := depthVs_le l 0
  have d2 := depthMs_le m 0
  by_cases k6 : k = 6
  · subst k6
    simp (disch := first | omega | assumption) only [ir22, cV_mk, hl, go_sem, ↓reduceIte]
    refine goL_range l 15 (fun n : Int => [(3, .int .i64 n)]) (fun done rest n H => depthVs rest n = depthVs l 0) 0 (by simp (disch := first | omega | assumption) only [go_sem, ↓reduceIte]) rfl ?_ ?_
    · rintro n H J hn hlt
      simp only [depthVs] at hn
      simp (disch := first | omega | assumption) only [hl, hlt, wrap64, hn, go_sem, ↓reduceIte]
      exact hQ _ _ _ _ nofun rfl (by simp [tupOf, envOf, AV.strip, AV.strip1, depthV])
    · rintro done x rest n H J hd hlt _ hn hJ
      have hg := cVs_get hd
      have hbm := bVs_mid done x rest
      rw [← hd] at hbm
      simp only [depthVs] at hn
      simp (disch := first | omega | assumption) only [cV_len, cV_take, cV_splice, cM_len, cM_take, cM_splice, cM_mk, hl, hlt, hg, go_sem, ↓reduceIte]
      refine goA_intro fun b hb => ?_
      simp (disch := first | omega | assumption) only [cV_len, cV_take, cV_splice, cM_len, cM_take, cM_splice, cM_mk, go_sem, ↓reduceIte]
      refine goK_pure (ihl x (by rw [hd]; simp) (by simp only [Lim]; omega)) ?_
      simp (disch := first | omega | assumption) only [wrap64, go_sem, ↓reduceIte]
      exact goJ (hJ _ _ hn) (by simp (disch := first | omega | assumption) only [go_sem, ↓reduceIte])
  by_cases k7 : k = 7
  · subst k7
    simp (disch := first | omega | assumption) only [ir22, cV_mk, hm, go_sem, ↓reduceIte]
    refine goL_range m 29 (fun n : Int => [(3, .int .i64 n)]) (fun done rest n H => depthMs rest n = depthMs m 0) 0 (by simp (disch := first | omega | assumption) only [go_sem, ↓reduceIte]) rfl ?_ ?_
    · rintro n H J hn hlt
      simp only [depthMs] at hn
      simp (disch := first | omega | assumption) only [hm, hlt, wrap64, hn, go_sem, ↓reduceIte]
      exact hQ _ _ _ _ nofun rfl (by simp [tupOf, envOf, AV.strip, AV.strip1, depthV])
    · rintro done x rest n H J hd hlt _ hn hJ
      have hg := cMs_get hd
      have hbm := bMs_mid done x rest
      rw [← hd] at hbm
      cases x with
      | mk t v =>
      simp only [depthMs, depthM, bM] at hn hbm
      simp (disch := first | omega | assumption) only [cV_len, cV_take, cV_splice, cM_len, cM_take, cM_splice, cM_mk, hm, hlt, hg, go_sem, ↓reduceIte]
      refine goA_intro fun b hb => ?_
      simp (disch := first | omega | assumption) only [cV_len, cV_take, cV_splice, cM_len, cM_take, cM_splice, cM_mk, go_sem, ↓reduceIte]
      refine goK_pure (ihm t v (by rw [hd]; simp) (by simp only [Lim]; omega)) ?_
      simp (disch := first | omega | assumption) only [wrap64, go_sem, ↓reduceIte]
      exact goJ (hJ _ _ hn) (by simp (disch := first | omega | assumption) only [go_sem, ↓reduceIte])
  · simp (disch := first | omega | assumption) only [ir22, cV_mk, k6, k7, go_sem, ↓reduceIte]
    exact hQ _ _ _ _ nofun rfl (by simp [tupOf, envOf, AV.strip, AV.strip1, depthV, k6, k7])
def zV : Val := .mk 0 0 [] [] []
theorem intP (n : Int) : Pure Tryz.prog 113 [.int .i64 n] (.agg (cV (.mk 2 n [] [] []))) := by
  refine Pure.go ir113 ck113 (Nat.le_refl _) fun KP Q hQ => ?_
  simp (disch := first | omega | assumption) only [ir113, go_sem, ↓reduceIte]
  refine goA_intro fun b hb => ?_
  simp (disch := first | omega | assumption) only [go_sem, ↓reduceIte]
  exact hQ _ _ _ [.agg [.int .i64 2, .int .i64 n, .str [], .sl .nil 5 [], .sl .nil 6 []]] nofun (by simp (disch := first | omega | assumption) only [ir113, resvs, resv, go_sem, ↓reduceIte]) rfl
theorem textP (t : List UInt8) : Pure Tryz.prog 62 [.str t] (.agg (cV (.mk 4 0 t [] []))) := by
  refine Pure.go ir62 ck62 (Nat.le_refl _) fun KP Q hQ => ?_
  simp (disch := first | omega | assumption) only [ir62, go_sem, ↓reduceIte]
  refine goA_intro fun b hb => ?_
  simp (disch := first | omega | assumption) only [go_sem, ↓reduceIte]
  exact hQ _ _ _ [.agg [.int .i64 4, .int .i64 0, .str t, .sl .nil 5 [], .sl .nil 6 []]] nofun (by simp (disch := first | omega | assumption) only [ir62, resvs, resv, go_sem, ↓reduceIte]) rfl
def getV (t : List UInt8) : List Mem → Val × Bool
  | [] => (zV, false)
  | .mk s v :: r => if s = t then (v, true) else getV t r
theorem getP (t : List UInt8) (m : List Mem) (hb : m.length ≤ Lim) : Pure Tryz.prog 29 [.str t, .sl .no 6 (cMs m)] (.tup [.agg (cV (getV t m).1), .bool (getV t m).2]) := by
  refine Pure.go ir29 ck29 (Nat.le_refl _) fun KP Q hQ => ?_
  have hm := cMs_len m
  simp only [Lim] at hb
  simp (disch := first | omega | assumption) only [ir29, go_sem, ↓reduceIte]
  refine goA_intro fun b hb => ?_
  simp (disch := first | omega | assumption) only [hm, go_sem, ↓reduceIte]
  refine goL_range m 10 (fun _ : Unit => []) (fun done rest n H => getV t rest = getV t m ∧ H b = some (.cells [.int .i64 0, .int .i64 0, .str [], .sl .nil 5 [], .sl .nil 6 []])) () (by simp (disch := first | omega | assumption) only [go_sem, ↓reduceIte]) ⟨rfl, by simp [Heap.upd]⟩ ?_ ?_
  · rintro n H J ⟨hn, hH⟩ hlt
    simp (disch := first | omega | assumption) only [hm, hlt, hH, go_sem, ↓reduceIte]
    refine hQ _ _ _ [.agg [.int .i64 0, .int .i64 0, .str [], .sl .nil 5 [], .sl .nil 6 []], .bool false] nofun (by simp (disch := first | omega | assumption) only [ir29, resvs, resv, go_sem, ↓reduceIte]) ?_
    rw [← hn]
    rfl
  · rintro done x rest n H J hd hlt _ ⟨hn, hH⟩ hJ
    have hg := cMs_get hd
    cases x with
    | mk s v =>
    simp only [getV] at hn
    simp (disch := first | omega | assumption) only [cV_len, cV_take, cV_splice, cM_len, cM_take, cM_splice, cM_mk, hm, hlt, hg, go_sem, ↓reduceIte]
    refine goA_intro fun b2 hb2 => ?_
    have hne := ne_of_none hb2 hH
    by_cases hs : s = t
    · simp (disch := first | omega | assumption) only [cV_len, cV_take, cV_splice, cM_len, cM_take, cM_splice, cM_mk, hs, hH, Ne.symm hne, hne, go_sem, ↓reduceIte]
      simp only [hs, if_true] at hn
      refine hQ _ _ _ [.agg (cV v), .bool true] nofun (by simp (disch := first | omega | assumption) only [cV_len, cV_take, cV_splice, cM_len, cM_take, cM_splice, cM_mk, ir29, resvs, resv, go_sem, ↓reduceIte]) ?_
      rw [← hn]
      simp [tupOf, AV.strip, AV.strip1, cV_strip]
    · simp (disch := first | omega | assumption) only [cV_len, cV_take, cV_splice, cM_len, cM_take, cM_splice, cM_mk, hs, go_sem, ↓reduceIte]
      simp only [hs, if_false] at hn
      exact goJ (hJ () _ ⟨hn, by simp [Heap.upd, Ne.symm hne, hH]⟩) (by simp (disch := first | omega | assumption) only [wrap64, go_sem, ↓reduceIte])
theorem getR (t : List UInt8) (m : List Mem) (hb : m.length ≤ Lim) : Pure Tryz.prog 30 [.str t, .sl .no 6 (cMs m)] (.tup [.agg (cV (getV t m).1), .bool (getV t m).2]) := by
  refine Pure.go ir30 ck30 (Nat.le_refl _) fun KP Q hQ => ?_
  have hm := cMs_len m
  simp only [Lim] at hb
  simp (disch := first | omega | assumption) only [ir30, go_sem, ↓reduceIte]
  refine goA_intro fun b hb => ?_
  simp (disch := first | omega | assumption) only [hm, go_sem, ↓reduceIte]
  refine goL_range m 6 (fun _ : Unit => []) (fun done rest n H => getV t rest = getV t m ∧ H b = some (.cells [.int .i64 0, .int .i64 0, .str [], .sl .nil 5 [], .sl .nil 6 []])) () (by simp (disch := first | omega | assumption) only [go_sem, ↓reduceIte]) ⟨rfl, by simp [Heap.upd]⟩ ?_ ?_
  · rintro n H J ⟨hn, hH⟩ hlt
    simp (disch := first | omega | assumption) only [hm, hlt, hH, go_sem, ↓reduceIte]
    refine hQ _ _ _ [.agg [.int .i64 0, .int .i64 0, .str [], .sl .nil 5 [], .sl .nil 6 []], .bool false] nofun (by simp (disch := first | omega | assumption) only [ir30, resvs, resv, go_sem, ↓reduceIte]) ?_
    rw [← hn]
    rfl
  · rintro done x rest n H J hd hlt _ ⟨hn, hH⟩ hJ
    have hg := cMs_get hd
    cases x with
    | mk s v =>
    simp only [getV] at hn
    by_cases hs : s = t
    · simp (disch := first | omega | assumption) only [cV_len, cV_take, cV_splice, cM_len, cM_take, cM_splice, cM_mk, hm, hlt, hg, hs, hH, go_sem, ↓reduceIte]
      simp only [hs, if_true] at hn
      refine hQ _ _ _ [.agg (cV v), .bool true] nofun (by simp (disch := first | omega | assumption) only [cV_len, cV_take, cV_splice, cM_len, cM_take, cM_splice, cM_mk, ir30, resvs, resv, go_sem, ↓reduceIte]) ?_
      rw [← hn]
      simp [tupOf, AV.strip, AV.strip1, cV_strip]
    · simp (disch := first | omega | assumption) only [cV_len, cV_take, cV_splice, cM_len, cM_take, cM_splice, cM_mk, hm, hlt, hg, hs, go_sem, ↓reduceIte]
      simp only [hs, if_false] at hn
      exact goJ (hJ () _ ⟨hn, hH⟩) (by simp (disch := first | omega | assumption) only [wrap64, go_sem, ↓reduceIte])
end Go.Proofs.YtpjafglhdlfnbaaGreatDoor
namespace Go.Proofs.YtpjafglhdlfnbaaGreatDoor
open Go.Ab
theorem eqFuncV (f : FuncId) (hf : Program.callable Tryz.prog f = true) (a b : List Val) (ha : a.length ≤ Lim) (hc : ∀ x ∈ a, ∀ y, Pure Tryz.prog f [.agg (cV x), .agg (cV y)] (.bool (eqd x y))) :
    Pure Tryz.prog 47 [.sl .no 5 (cVs a), .sl .no 5 (cVs b), .clo f [] []] (.bool (eqd a b)) := by
  refine Pure.go ir47 ck47 (Nat.le_refl _) fun KP Q hQ => ?_
  have h1 := cVs_len a
  have h2 := cVs_len b
  simp only [Lim] at ha
  by_cases hl : a.length = b.length
  case neg =>
    have hl' : ¬ ((a.length : Int) = b.length) := by omega
    have hne : a ≠ b := fun e => hl (by rw [e])
    simp (disch := first | omega | assumption) only [ir47, h1, h2, hl', go_sem, ↓reduceIte]
    exact hQ _ _ _ _ nofun rfl (by simp [tupOf, envOf, AV.strip, AV.strip1, eqd_false hne])
  have hl' : ((a.length : Int) = b.length) = True := eq_true (by omega)
  simp (disch := first | omega | assumption) only [ir47, h1, h2, hl', go_sem, ↓reduceIte]
  refine goL_range a 17 (fun _ : Unit => []) (fun done rest n H => b.take done.length = done) () (by simp (disch := first | omega | assumption) only [go_sem, ↓reduceIte]) rfl ?_ ?_
  · rintro n H J hp hlt
    simp (disch := first | omega | assumption) only [h1, hlt, go_sem, ↓reduceIte]
    exact hQ _ _ _ _ nofun rfl (by simp [tupOf, envOf, AV.strip, AV.strip1, eqd_true (two_end hl hp)])
  · rintro done x rest n H J hd hlt _ hp hJ
    obtain ⟨y, r, hb⟩ := two_mid hd hl hp
    have g1 := cVs_get hd
    have g2 := cVs_get hb
    have hlt2 : (done.length : Int) < b.length := by omega
    simp (disch := first | omega | assumption) only [cV_len, cV_take, cV_splice, cM_len, cM_take, cM_splice, cM_mk, h1, h2, hlt, hlt2, g1, g2, go_sem, ↓reduceIte]
    refine goA_intro fun b1 hb1 => ?_
    simp (disch := first | omega | assumption) only [cV_len, cV_take, cV_splice, cM_len, cM_take, cM_splice, cM_mk, h1, h2, hlt, hlt2, g1, g2, go_sem, ↓reduceIte]
    refine goA_intro fun b2 hb2 => ?_
    have hne := ne_fresh hb2
    simp (disch := first | omega | assumption) only [cV_len, cV_take, cV_splice, cM_len, cM_take, cM_splice, cM_mk, Ne.symm hne, hne, go_sem, ↓reduceIte]
    refine ⟨hf, goK_pure (hc x (by rw [hd]; simp) y) ?_⟩
    by_cases hxy : x = y
    · simp (disch := first | omega | assumption) only [eqd_true hxy, go_sem, ↓reduceIte]
      exact goJ (hJ () _ (by rw [hxy]; exact two_step hb)) (by simp (disch := first | omega | assumption) only [wrap64, go_sem, ↓reduceIte])
    · simp (disch := first | omega | assumption) only [eqd_false hxy, go_sem, ↓reduceIte]
      exact hQ _ _ _ _ nofun rfl (by simp [tupOf, envOf, AV.strip, AV.strip1, eqd_false (two_ne hd hb hxy)])
theorem eqFuncM (f : FuncId) (hf : Program.callable Tryz.prog f = true) (a b : List Mem) (ha : a.length ≤ Lim) (hc : ∀ x ∈ a, ∀ y, Pure Tryz.prog f [.agg (cM x), .agg (cM y)] (.bool (eqd x y))) :
    Pure Tryz.prog 48 [.sl .no 6 (cMs a), .sl .no 6 (cMs b), .clo f [] []] (.bool (eqd a b)) := by
  refine Pure.go ir48 ck48 (Nat.le_refl _) fun KP Q hQ => ?_
  have h1 := cMs_len a
  have h2 := cMs_len b
  simp only [Lim] at ha
  by_cases hl : a.length = b.length
  case neg =>
    have hl' : ¬ ((a.length : Int) = b.length) := by omega
    have hne : a ≠ b := fun e => hl (by rw [e])
    simp (disch := first | omega | assumption) only [ir48, h1, h2, hl', go_sem, ↓reduceIte]
    exact hQ _ _ _ _ nofun rfl (by simp [tupOf, envOf, AV.strip, AV.strip1, eqd_false hne])
  have hl' : ((a.length : Int) = b.length) = True := eq_true (by omega)
  simp (disch := first | omega | assumption) only [ir48, h1, h2, hl', go_sem, ↓reduceIte]
  refine goL_range a 17 (fun _ : Unit => []) (fun done rest n H => b.take done.length = done) () (by simp (disch := first | omega | assumption) only [go_sem, ↓reduceIte]) rfl ?_ ?_
  · rintro n H J hp hlt
    simp (disch := first | omega | assumption) only [h1, hlt, go_sem, ↓reduceIte]
    exact hQ _ _ _ _ nofun rfl (by simp [tupOf, envOf, AV.strip, AV.strip1, eqd_true (two_end hl hp)])
  · rintro done x rest n H J hd hlt _ hp hJ
    obtain ⟨y, r, hb⟩ := two_mid hd hl hp
    have g1 := cMs_get hd
    have g2 := cMs_get hb
    have hlt2 : (done.length : Int) < b.length := by omega
    simp (disch := first | omega | assumption) only [cV_len, cV_take, cV_splice, cM_len, cM_take, cM_splice, cM_mk, h1, h2, hlt, hlt2, g1, g2, go_sem, ↓reduceIte]
    refine goA_intro fun b1 hb1 => ?_
    simp (disch := first | omega | assumption) only [cV_len, cV_take, cV_splice, cM_len, cM_take, cM_splice, cM_mk, h1, h2, hlt, hlt2, g1, g2, go_sem, ↓reduceIte]
    refine goA_intro fun b2 hb2 => ?_
    have hne := ne_fresh hb2
    simp (disch := first | omega | assumption) only [cV_len, cV_take, cV_splice, cM_len, cM_take, cM_splice, cM_mk, Ne.symm hne, hne, go_sem, ↓reduceIte]
    refine ⟨hf, goK_pure (hc x (by rw [hd]; simp) y) ?_⟩
    by_cases hxy : x = y
    · simp (disch := first | omega | assumption) only [eqd_true hxy, go_sem, ↓reduceIte]
      exact goJ (hJ () _ (by rw [hxy]; exact two_step hb)) (by simp (disch := first | omega | assumption) only [wrap64, go_sem, ↓reduceIte])
    · simp (disch := first | omega | assumption) only [eqd_false hxy, go_sem, ↓reduceIte]
      exact hQ _ _ _ _ nofun rfl (by simp [tupOf, envOf, AV.strip, AV.strip1, eqd_false (two_ne hd hb hxy)])
theorem mem_same (s t : List UInt8) (v u : Val) (hc : Pure Tryz.prog 23 [.agg (cV v), .agg (cV u)] (.bool (eqd v u))) : Pure Tryz.prog 49 [.agg (cM (.mk s v)), .agg (cM (.mk t u))] (.bool (eqd (Mem.mk s v) (Mem.mk t u))) := by
  refine Pure.go ir49 ck49 (Nat.le_refl _) fun KP Q hQ => ?_
  by_cases h1 : s = t
  · simp (disch := first | omega | assumption) only [cV_len, cV_take, cV_splice, cM_len, cM_take, cM_splice, cM_mk, ir49, h1, go_sem, ↓reduceIte]
    refine goK_pure hc ?_
    simp (disch := first | omega | assumption) only [go_sem, ↓reduceIte]
    have : eqd (Mem.mk t v) (Mem.mk t u) = eqd v u := by
      by_cases h : v = u
      · rw [eqd_true h, eqd_true (by rw [h])]
      · rw [eqd_false h, eqd_false (by simp [h])]
    exact hQ _ _ _ _ nofun rfl (by simp [tupOf, envOf, AV.strip, AV.strip1, this, h1])
  · simp (disch := first | omega | assumption) only [cV_len, cV_take, cV_splice, cM_len, cM_take, cM_splice, cM_mk, ir49, h1, go_sem, ↓reduceIte]
    have : eqd (Mem.mk s v) (Mem.mk t u) = false := eqd_false (by simp [h1])
    exact hQ _ _ _ _ nofun rfl (by simp [tupOf, envOf, AV.strip, AV.strip1, this])
theorem sameP : ∀ v, bV v ≤ Lim → ∀ u, Pure Tryz.prog 23 [.agg (cV v), .agg (cV u)] (.bool (eqd v u)) := by
  refine Val.ind fun k n s l m ihl ihm hb u => ?_
  obtain ⟨k', n', s', l', m'⟩ := u
  have hb' : 1 + s.length + bVs l + bMs m ≤ Lim := hb
  have hll := bVs_len l
  have hml := bMs_len m
  have il : ∀ x ∈ l, ∀ y, Pure Tryz.prog 23 [.agg (cV x), .agg (cV y)] (.bool (eqd x y)) := fun x hx y => by
    obtain ⟨a, b, hd⟩ := List.append_of_mem hx
    have := bVs_mid a x b
    rw [← hd] at this
    exact ihl x hx (by omega) y
  have im : ∀ x ∈ m, ∀ y, Pure Tryz.prog 49 [.agg (cM x), .agg (cM y)] (.bool (eqd x y)) := fun x hx y => by
    obtain ⟨a, b, hd⟩ := List.append_of_mem hx
    have := bMs_mid a x b
    rw [← hd] at this
    obtain ⟨t, v⟩ := x
    obtain ⟨t', v'⟩ := y
    simp only [bM] at this
    exact mem_same t t' v v' (ihm t v hx (by omega) v')
  refine Pure.go ir23 ck23 (Nat.le_refl _) fun KP Q hQ => ?_
  by_cases h1 : k = k'
  case neg =>
    have hne : ¬ (Val.mk k n s l m = Val.mk k' n' s' l' m') := by simp [h1]
    simp (disch := first | omega | assumption) only [ir23, cV_mk, h1, go_sem, ↓reduceIte]
    exact hQ _ _ _ _ nofun rfl (by simp [tupOf, envOf, AV.strip, AV.strip1, eqd_false hne])
  by_cases h2 : n = n'
  case neg =>
    have hne : ¬ (Val.mk k n s l m = Val.mk k' n' s' l' m') := by simp [h2]
    simp (disch := first | omega | assumption) only [ir23, cV_mk, h1, h2, go_sem, ↓reduceIte]
    exact hQ _ _ _ _ nofun rfl (by simp [tupOf, envOf, AV.strip, AV.strip1, eqd_false hne])
  by_cases h3 : s = s'
  case neg =>
    have hne : ¬ (Val.mk k n s l m = Val.mk k' n' s' l' m') := by simp [h3]
    simp (disch := first | omega | assumption) only [ir23, cV_mk, h1, h2, h3, go_sem, ↓reduceIte]
    exact hQ _ _ _ _ nofun rfl (by simp [tupOf, envOf, AV.strip, AV.strip1, eqd_false hne])
  simp (disch := first | omega | assumption) only [ir23, cV_mk, h1, h2, h3, go_sem, ↓reduceIte]
  refine goK_pure (eqFuncV _ (by kernel_rfl) l l' (by omega) il) ?_
  by_cases h4 : l = l'
  case neg =>
    have hne : ¬ (Val.mk k n s l m = Val.mk k' n' s' l' m') := by simp [h4]
    simp (disch := first | omega | assumption) only [eqd_false h4, go_sem, ↓reduceIte]
    exact hQ _ _ _ _ nofun rfl (by simp [tupOf, envOf, AV.strip, AV.strip1, eqd_false hne])
  simp (disch := first | omega | assumption) only [eqd_true h4, go_sem, ↓reduceIte]
  refine goK_pure (eqFuncM _ (by kernel_rfl) m m' (by omega) im) ?_
  simp (disch := first | omega | assumption) only [go_sem, ↓reduceIte]
  have : eqd (Val.mk k n s l m) (Val.mk k' n' s' l' m') = eqd m m' := by
    by_cases h : m = m'
    · rw [eqd_true h, eqd_true (by rw [h1, h2, h3, h4, h])]
    · rw [eqd_false h, eqd_false (by simp [h])]
  exact hQ _ _ _ _ nofun rfl (by simp [tupOf, envOf, AV.strip, AV.strip1, this])
end Go.Proofs.YtpjafglhdlfnbaaGreatDoor
namespace Go.Proofs.YtpjafglhdlfnbaaGreatDoor
open Go.Ab
theorem membersR (a b : List Mem) (ha : a.length ≤ Lim) (hc : ∀ s v, Mem.mk s v ∈ a → ∀ u, Pure Tryz.prog 15 [.agg (cV v), .agg (cV u)] (.bool (eqd v u))) :
    Pure Tryz.prog 11 [.sl .no 6 (cMs a), .sl .no 6 (cMs b)] (.bool (eqd a b)) := by
  refine Pure.go ir11 ck11 (Nat.le_refl _) fun KP Q hQ => ?_
  have h1 := cMs_len a
  have h2 := cMs_len b
  simp only [Lim] at ha
  by_cases hl : a.length = b.length
  case neg =>
    have hl' : ¬ ((a.length : Int) = b.length) := by omega
    have hne : a ≠ b := fun e => hl (by rw [e])
    simp (disch := first | omega | assumption) only [ir11, h1, h2, hl', go_sem, ↓reduceIte]
    exact hQ _ _ _ _ nofun rfl (by simp [tupOf, envOf, AV.strip, AV.strip1, eqd_false hne])
  have hl' : ((a.length : Int) = b.length) = True := eq_true (by omega)
  simp (disch := first | omega | assumption) only [ir11, h1, h2, hl', go_sem, ↓reduceIte]
  refine goL_range a 5 (fun _ : Unit => []) (fun done rest n H => b.take done.length = done) () (by simp (disch := first | omega | assumption) only [go_sem, ↓reduceIte]) rfl ?_ ?_
  · rintro n H J hp hlt
    simp (disch := first | omega | assumption) only [h1, hlt, go_sem, ↓reduceIte]
    exact hQ _ _ _ _ nofun rfl (by simp [tupOf, envOf, AV.strip, AV.strip1, eqd_true (two_end hl hp)])
  · rintro done x rest n H J hd hlt _ hp hJ
    obtain ⟨y, r, hb⟩ := two_mid hd hl hp
    have g1 := cMs_get hd
    have g2 := cMs_get hb
    have hlt2 : (done.length : Int) < b.length := by omega
    have hmem : x ∈ a := by rw [hd]; simp
    have hst := two_step hb
    have hne : x ≠ y → a ≠ b := two_ne hd hb
    obtain ⟨s, v⟩ := x
    obtain ⟨t, u⟩ := y
    by_cases hs : s = t
    case neg =>
      have hne2 := hne (by simp [hs])
      simp (disch := first | omega | assumption) only [cV_len, cV_take, cV_splice, cM_len, cM_take, cM_splice, cM_mk, h1, h2, hlt, hlt2, g1, g2, hs, go_sem, ↓reduceIte]
      exact hQ _ _ _ _ nofun rfl (by simp [tupOf, envOf, AV.strip, AV.strip1, eqd_false hne2])
    simp (disch := first | omega | assumption) only [cV_len, cV_take, cV_splice, cM_len, cM_take, cM_splice, cM_mk, h1, h2, hlt, hlt2, g1, g2, hs, go_sem, ↓reduceIte]
    refine goK_pure (hc s v hmem u) ?_
    by_cases hv : v = u
    · simp (disch := first | omega | assumption) only [eqd_true hv, go_sem, ↓reduceIte]
      exact goJ (hJ () _ (by rw [hs, hv]; exact hst)) (by simp (disch := first | omega | assumption) only [wrap64, go_sem, ↓reduceIte])
    · have := hne (by simp [hv])
      simp (disch := first | omega | assumption) only [eqd_false hv, go_sem, ↓reduceIte]
      exact hQ _ _ _ _ nofun rfl (by simp [tupOf, envOf, AV.strip, AV.strip1, eqd_false this])
theorem sameR : ∀ v, bV v ≤ Lim → ∀ u, Pure Tryz.prog 15 [.agg (cV v), .agg (cV u)] (.bool (eqd v u)) := by
  refine Val.ind fun k n s l m ihl ihm hb u => ?_
  obtain ⟨k', n', s', l', m'⟩ := u
  have hb' : 1 + s.length + bVs l + bMs m ≤ Lim := hb
  have hll := bVs_len l
  have hml := bMs_len m
  have il : ∀ x ∈ l, ∀ y, Pure Tryz.prog 15 [.agg (cV x), .agg (cV y)] (.bool (eqd x y)) := fun x hx y => by
    obtain ⟨a, b, hd⟩ := List.append_of_mem hx
    have := bVs_mid a x b
    rw [← hd] at this
    exact ihl x hx (by omega) y
  have im : ∀ s v, Mem.mk s v ∈ m → ∀ u, Pure Tryz.prog 15 [.agg (cV v), .agg (cV u)] (.bool (eqd v u)) := fun t v hx u => by
    obtain ⟨a, b, hd⟩ := List.append_of_mem hx
    have := bMs_mid a (.mk t v) b
    rw [← hd] at this
    simp only [bM] at this
    exact ihm t v hx (by omega) u
  refine Pure.go ir15 ck15 (Nat.le_refl _) fun KP Q hQ => ?_
  have hlb := cVs_len l
  have hlb' := cVs_len l'
  by_cases h1 : k = k'
  case neg =>
    have hne : ¬ (Val.mk k n s l m = Val.mk k' n' s' l' m') := by simp [h1]
    simp (disch := first | omega | assumption) only [ir15, cV_mk, h1, go_sem, ↓reduceIte]
    exact hQ _ _ _ _ nofun rfl (by simp [tupOf, envOf, AV.strip, AV.strip1, eqd_false hne])
  by_cases h2 : n = n'
  case neg =>
    have hne : ¬ (Val.mk k n s l m = Val.mk k' n' s' l' m') := by simp [h2]
    simp (disch := first | omega | assumption) only [ir15, cV_mk, h1, h2, go_sem, ↓reduceIte]
    exact hQ _ _ _ _ nofun rfl (by simp [tupOf, envOf, AV.strip, AV.strip1, eqd_false hne])
  by_cases h3 : s = s'
  case neg =>
    have hne : ¬ (Val.mk k n s l m = Val.mk k' n' s' l' m') := by simp [h3]
    simp (disch := first | omega | assumption) only [ir15, cV_mk, h1, h2, h3, go_sem, ↓reduceIte]
    exact hQ _ _ _ _ nofun rfl (by simp [tupOf, envOf, AV.strip, AV.strip1, eqd_false hne])
  by_cases hl : l.length = l'.length
  case neg =>
    have hl' : ¬ ((l.length : Int) = l'.length) := by omega
    have hne : ¬ (Val.mk k n s l m = Val.mk k' n' s' l' m') := by simp only [Val.mk.injEq]; rintro ⟨_, _, _, e, _⟩; exact hl (by rw [e])
    simp (disch := first | omega | assumption) only [ir15, cV_mk, h1, h2, h3, hlb, hlb', hl', go_sem, ↓reduceIte]
    exact hQ _ _ _ _ nofun rfl (by simp [tupOf, envOf, AV.strip, AV.strip1, eqd_false hne])
  have hl' : ((l.length : Int) = l'.length) = True := eq_true (by omega)
  simp (disch := first | omega | assumption) only [ir15, cV_mk, h1, h2, h3, hlb, hlb', hl', go_sem, ↓reduceIte]
  simp only [Lim] at hb'
  refine goL_range l 5 (fun _ : Unit => []) (fun done rest n H => l'.take done.length = done) () (by simp (disch := first | omega | assumption) only [go_sem, ↓reduceIte]) rfl ?_ ?_
  · rintro _ H J hp hlt
    have e4 := two_end hl hp
    simp (disch := first | omega | assumption) only [hlb, hlt, go_sem, ↓reduceIte]
    refine goK_pure (membersR m m' (by simp only [Lim]; omega) im) ?_
    simp (disch := first | omega | assumption) only [go_sem, ↓reduceIte]
    have : eqd (Val.mk k n s l m) (Val.mk k' n' s' l' m') = eqd m m' := by
      by_cases h : m = m'
      · rw [eqd_true h, eqd_true (by rw [h1, h2, h3, e4, h])]
      · rw [eqd_false h, eqd_false (by simp [h])]
    exact hQ _ _ _ _ nofun rfl (by simp [tupOf, envOf, AV.strip, AV.strip1, this])
  · rintro done x rest _ H J hd hlt _ hp hJ
    obtain ⟨y, r, hb⟩ := two_mid hd hl hp
    have g1 := cVs_get hd
    have g2 := cVs_get hb
    have hlt2 : (done.length : Int) < l'.length := by omega
    simp (disch := first | omega | assumption) only [cV_len, cV_take, cV_splice, cM_len, cM_take, cM_splice, cM_mk, hlb, hlb', hlt, hlt2, g1, g2, go_sem, ↓reduceIte]
    refine goK_pure (il x (by rw [hd]; simp) y) ?_
    by_cases hxy : x = y
    · simp (disch := first | omega | assumption) only [eqd_true hxy, go_sem, ↓reduceIte]
      exact goJ (hJ () _ (by rw [hxy]; exact two_step hb)) (by simp (disch := first | omega | assumption) only [wrap64, go_sem, ↓reduceIte])
    · have hne : ¬ (Val.mk k n s l m = Val.mk k' n' s' l' m') := by simp only [Val.mk.injEq]; rintro ⟨_, _, _, e, _⟩; exact two_ne hd hb hxy e
      simp (disch := first | omega | assumption) only [eqd_false hxy, go_sem, ↓reduceIte]
      exact hQ _ _ _ _ nofun rfl (by simp [tupOf, envOf, AV.strip, AV.strip1, eqd_false hne])
end Go.Proofs.YtpjafglhdlfnbaaGreatDoor
namespace Go.Proofs.YtpjafglhdlfnbaaGreatDoor
open Go.Ab
theorem copyMs (m : List Mem) (hm : bMs m ≤ Lim) (hc : ∀ s v, Mem.mk s v ∈ m → Pure Tryz.prog 17 [.agg (cV v)] (.agg (cV v))) : Pure Tryz.prog 40 [.sl .no 6 (cMs m)] (.sl .no 6 (cMs m)) := by
  refine Pure.go ir40 ck40 (Nat.le_refl _) fun KP Q hQ => ?_
  have h1 := cMs_len m
  have hml := bMs_len m
  simp only [Lim] at hm
  simp (disch := first | omega | assumption) only [ir40, go_sem, ↓reduceIte]
  refine goL_range m 4 (fun x : Own × List Mem => [(3, .sl x.1 6 (cMs x.2))]) (fun done rest x H => x.2 = done ∧ OwnF Heap.emp H x.1 done.length 6) (.nil, []) (by simp (disch := first | omega | assumption) only [cMs, go_sem, ↓reduceIte]) ⟨rfl, OwnF.nil _ _⟩ ?_ ?_
  · rintro ⟨o, done⟩ H J ⟨rfl, ho⟩ hlt
    simp (disch := first | omega | assumption) only [h1, hlt, go_sem, ↓reduceIte]
    exact hQ _ _ _ _ nofun rfl (by simp [tupOf, envOf, AV.strip, AV.strip1])
  · rintro done x rest ⟨o, ds⟩ H J hd hlt hlt' ⟨hds, ho⟩ hJ
    simp only at hds ho hJ ⊢
    obtain rfl : done = ds := hds.symm
    have hg := cMs_get hd
    have hmem : x ∈ m := by rw [hd]; simp
    have h2 := cMs_len done
    obtain ⟨s, v⟩ := x
    simp (disch := first | omega | assumption) only [cV_len, cV_take, cV_splice, cM_len, cM_take, cM_splice, cM_mk, h1, hlt, hg, go_sem, ↓reduceIte]
    refine goK_pure (hc s v hmem) ?_
    simp (disch := first | omega | assumption) only [cV_len, cV_take, cV_splice, cM_len, cM_take, cM_splice, cM_mk, h1, hlt, hg, go_sem, ↓reduceIte]
    refine goP_ownS (by rw [h2]; exact ho.own) ?_ ?_ fun o' H' hs => ?_
    · simp only [h2, List.length_cons, List.length_nil]; omega
    · simp only [h2, List.length_cons, List.length_nil, maxLen]; omega
    rw [h2] at hs
    simp (disch := first | omega | assumption) only [wrap64, go_sem, ↓reduceIte]
    refine goJ (hJ (o', done ++ [.mk s v]) H' ⟨rfl, (ho.stepS hs).cast (by simp)⟩) (by simp (disch := first | omega | assumption) only [cMs_map, List.map_append, List.map_cons, cM_mk, cV_strip, AV.strip1, go_sem, ↓reduceIte])
theorem copyV : ∀ v, bV v ≤ Lim → Pure Tryz.prog 17 [.agg (cV v)] (.agg (cV v)) := by
  refine Val.ind fun k n s l m ihl ihm hb => ?_
  have hb' : 1 + s.length + bVs l + bMs m ≤ Lim := hb
  have hll := bVs_len l
  have hml := bMs_len m
  have il : ∀ x ∈ l, Pure Tryz.prog 17 [.agg (cV x)] (.agg (cV x)) := fun x hx => by
    obtain ⟨a, b, hd⟩ := List.append_of_mem hx
    have := bVs_mid a x b
    rw [← hd] at this
    exact ihl x hx (by omega)
  have im : ∀ s v, Mem.mk s v ∈ m → Pure Tryz.prog 17 [.agg (cV v)] (.agg (cV v)) := fun t v hx => by
    obtain ⟨a, b, hd⟩ := List.append_of_mem hx
    have := bMs_mid a (.mk t v) b
    rw [← hd] at this
    simp only [bM] at this
    exact ihm t v hx (by omega)
  refine Pure.go ir17 ck17 (Nat.le_refl _) fun KP Q hQ => ?_
  have h1 := cVs_len l
  simp (disch := first | omega | assumption) only [ir17, cV_mk, go_sem, ↓reduceIte]
  refine goA_intro fun b hb => ?_
  simp (disch := first | omega | assumption) only [go_sem, ↓reduceIte]
  refine goA_intro fun b2 hb2 => ?_
  have hne := ne_fresh hb2
  have hb0 := fresh_of hb2
  simp (disch := first | omega | assumption) only [go_sem, ↓reduceIte]
  simp only [Lim] at hb'
  refine goL_range l 4 (fun x : Own × List Val => [(3, .sl x.1 5 (cVs x.2))]) (fun done rest x H => x.2 = done ∧ OwnF ((Heap.emp.upd b (.cells [.int .i64 k, .int .i64 n, .str s, .sl .no 5 (cVs l), .sl .no 6 (cMs m)])).upd b2 (.cells [.int .i64 0, .int .i64 0, .str [], .sl .nil 5 [], .sl .nil 6 []])) H x.1 done.length 5) (.nil, []) (by simp (disch := first | omega | assumption) only [cVs, go_sem, ↓reduceIte]) ⟨rfl, OwnF.nil _ _⟩ ?_ ?_
  · rintro ⟨o, done⟩ H J ⟨rfl, ho⟩ hlt
    have e1 : H b = some (.cells [.int .i64 k, .int .i64 n, .str s, .sl .no 5 (cVs done), .sl .no 6 (cMs m)]) := ho.sub b _ (by simp [Heap.upd, Ne.symm hne])
    have e2 : H b2 = some (.cells [.int .i64 0, .int .i64 0, .str [], .sl .nil 5 [], .sl .nil 6 []]) := ho.sub b2 _ (by simp [Heap.upd])
    simp (disch := first | omega | assumption) only [h1, hlt, e1, go_sem, ↓reduceIte]
    refine goK_pure (copyMs m (by simp only [Lim]; omega) im) ?_
    simp (disch := first | omega | assumption) only [e1, e2, hne, Ne.symm hne, go_sem, ↓reduceIte]
    refine hQ _ _ _ [.agg [.int .i64 k, .int .i64 n, .str s, .sl o 5 (cVs done), .sl .no 6 (cMs m)]] nofun (by simp (disch := first | omega | assumption) only [ir17, resvs, resv, hne, Ne.symm hne, go_sem, ↓reduceIte]) ?_
    simp [tupOf, AV.strip, AV.strip1, cV_mk]
  · rintro done x rest ⟨o, ds⟩ H J hd hlt hlt' ⟨hds, ho⟩ hJ
    simp only at hds ho hJ ⊢
    obtain rfl : done = ds := hds.symm
    have hg := cVs_get hd
    have hmem : x ∈ l := by rw [hd]; simp
    have h2 := cVs_len done
    have e1 : H b = some (.cells [.int .i64 k, .int .i64 n, .str s, .sl .no 5 (cVs l), .sl .no 6 (cMs m)]) := ho.sub b _ (by simp [Heap.upd, Ne.symm hne])
    simp (disch := first | omega | assumption) only [cV_len, cV_take, cV_splice, cM_len, cM_take, cM_splice, cM_mk, h1, hlt, hg, e1, go_sem, ↓reduceIte]
    refine goK_pure (il x hmem) ?_
    simp (disch := first | omega | assumption) only [cV_len, cV_take, cV_splice, cM_len, cM_take, cM_splice, cM_mk, h1, hlt, hg, go_sem, ↓reduceIte]
    refine goP_ownS (by rw [h2]; exact ho.own) ?_ ?_ fun o' H' hs => ?_
    · simp only [h2, List.length_cons, List.length_nil]; omega
    · simp only [h2, List.length_cons, List.length_nil, maxLen]; omega
    rw [h2] at hs
    simp (disch := first | omega | assumption) only [wrap64, go_sem, ↓reduceIte]
    refine goJ (hJ (o', done ++ [x]) H' ⟨rfl, (ho.stepS hs).cast (by simp)⟩) (by simp (disch := first | omega | assumption) only [cVs_map, List.map_append, List.map_cons, cV_strip, AV.strip1, go_sem, ↓reduceIte])
end Go.Proofs.YtpjafglhdlfnbaaGreatDoor
namespace Go.Proofs.YtpjafglhdlfnbaaGreatDoor
open Go.Ab
abbrev OwnR (H : Heap) (o : Own) (sz : Nat) (xs : List (List AV)) : AV → Heap → Prop := fun v H' => ∃ o', v = .sl o' sz xs ∧ OwnS H o H' o' xs.length sz
abbrev Gives (P : Program) (f : FuncId) (args : List AV) (H : Heap) (o : Own) (sz : Nat) (xs : List (List AV)) : Prop :=
  ACalls P f args H (fun e H' => match e with | .ret v => OwnR H o sz xs v H' | .pan _ => False)
theorem goK_gives {P : Program} {KP : AV → Heap → Prop} {Q : AExit → Env → Heap → Prop} {st : List Fr} {ρ : Env} {H : Heap} {all l : List AItem} {d : Option Nat} {R : List Chk} {f : FuncId} {args : List AV} {o : Own} {sz : Nat} {xs : List (List AV)}
    (h : Gives P f args H o sz xs) (hk : ∀ o' H', OwnS H o H' o' xs.length sz → goR P KP Q all l st R (ρ.set d (.sl o' sz xs)) H') : goK P KP Q all l st d R ρ f args H :=
  goK_both (XP := fun _ _ => False) h (fun v H' ⟨o', e, hs⟩ => by subst e; exact hk o' H' hs) (fun _ _ h => h.elim)
end Go.Proofs.YtpjafglhdlfnbaaGreatDoor
namespace Go.Proofs.YtpjafglhdlfnbaaGreatDoor
open Go.Ab
def tipOf : Own → Option Nat
  | .tip b _ => some b
  | _ => none
structure Sep (H : Heap) (l : List (Own × Nat × Nat)) : Prop where
  own : ∀ x ∈ l, Owned H x.1 x.2.1 x.2.2
  nd : (l.filterMap fun x => tipOf x.1).Nodup
theorem tipOf_some {o : Own} {b : Nat} (h : tipOf o = some b) : ∃ d, o = .tip b d := by
  cases o <;> simp [tipOf] at h
  rename_i c d; subst h; exact ⟨d, rfl⟩
theorem Owned.ofKept {H H' : Heap} {o o2 : Own} {n sz : Nat} (h : Owned H o n sz) (hk : Kept H o2 H') (hne : ∀ b d d2, o = .tip b d → o2 ≠ .tip b d2) : Owned H' o n sz := by
  cases o with
  | tip b d => exact hk b _ h fun d2 e => hne b d d2 rfl e
  | no => exact h
  | nil => exact h
  | full => exact h
theorem Sep.step {H H' : Heap} {a b : List (Own × Nat × Nat)} {o o' : Own} {n n' sz : Nat} (h : Sep H (a ++ (o, n, sz) :: b)) (h' : OwnS H o H' o' n' sz) : Sep H' (a ++ (o', n', sz) :: b) := by
  have hnd := h.nd
  simp only [List.filterMap_append, List.filterMap_cons] at hnd
  have hother : ∀ x, x ∈ a ∨ x ∈ b → ∀ c d d2, x.1 = .tip c d → o ≠ .tip c d2 := fun x hx c d d2 hxe e => by
    subst e
    simp only [tipOf] at hnd
    rw [List.nodup_append] at hnd
    obtain ⟨_, hb, hab⟩ := hnd
    rcases hx with hx | hx
    · exact hab c (List.mem_filterMap.2 ⟨x, hx, by rw [hxe]⟩) c (List.mem_cons_self ..) rfl
    · exact (List.nodup_cons.1 hb).1 (List.mem_filterMap.2 ⟨x, hx, by rw [hxe]⟩)
  refine ⟨fun x hx => ?_, ?_⟩
  · rcases List.mem_append.1 hx with hx | hx
    · exact Owned.ofKept (h.own x (by simp [hx])) h'.kept fun c d d2 => hother x (.inl hx) c d d2
    · rcases List.mem_cons.1 hx with rfl | hx
      · exact h'.own
      · exact Owned.ofKept (h.own x (by simp [hx])) h'.kept fun c d d2 => hother x (.inr hx) c d d2
  · simp only [List.filterMap_append, List.filterMap_cons]
    have hsub : ∀ c, c ∈ a.filterMap (fun x => tipOf x.1) ∨ c ∈ b.filterMap (fun x => tipOf x.1) → tipOf o' ≠ some c := fun c hc e => by
      obtain ⟨d', e⟩ := tipOf_some e
      have hH : H c ≠ none ∧ ∀ d0, o ≠ .tip c d0 := by
        rcases hc with hc | hc <;> obtain ⟨x, hx, hxe⟩ := List.mem_filterMap.1 hc <;> obtain ⟨d, hxe⟩ := tipOf_some hxe
        · have := h.own x (by simp [hx]); rw [hxe] at this
          have h2 : H c = some _ := this
          exact ⟨by simp [h2], fun d0 => hother x (.inl hx) c d d0 hxe⟩
        · have := h.own x (by simp [hx]); rw [hxe] at this
          have h2 : H c = some _ := this
          exact ⟨by simp [h2], fun d0 => hother x (.inr hx) c d d0 hxe⟩
      rcases h'.new c d' e with h1 | ⟨d0, h1⟩
      · exact hH.1 h1
      · exact hH.2 d0 h1
    have hnd2 : (a.filterMap (fun x => tipOf x.1) ++ b.filterMap (fun x => tipOf x.1)).Nodup := by
      cases ho : tipOf o with
      | none => rw [ho] at hnd; exact hnd
      | some c =>
        rw [ho] at hnd
        rw [List.nodup_append] at hnd ⊢
        exact ⟨hnd.1, (List.nodup_cons.1 hnd.2.1).2, fun x hx y hy => hnd.2.2 x hx y (List.mem_cons_of_mem _ hy)⟩
    cases ho : tipOf o' with
    | none => exact hnd2
    | some c =>
      have hc := hsub c
      rw [List.nodup_append] at hnd2 ⊢
      refine ⟨hnd2.1, List.nodup_cons.2 ⟨fun hm => hc (.inr hm) ho, hnd2.2.1⟩, fun x hx y hy => ?_⟩
      rcases List.mem_cons.1 hy with rfl | hy
      · exact fun e => hc (.inl (e ▸ hx)) ho
      · exact hnd2.2.2 x hx y hy
theorem Sep.mono {H H' : Heap} {l : List (Own × Nat × Nat)} (h : Sep H l) (hk : ∀ c n sz, H c = some (.tip n sz) → H' c = some (.tip n sz)) : Sep H' l :=
  ⟨fun x hx => by
    have := h.own x hx
    obtain ⟨o, n, sz⟩ := x
    cases o with
    | tip c d => exact hk c _ _ this
    | no => exact this
    | nil => exact this
    | full => exact this, h.nd⟩
end Go.Proofs.YtpjafglhdlfnbaaGreatDoor
namespace Go.Proofs.YtpjafglhdlfnbaaGreatDoor
open Go.Ab Go.RowKit Go.Sort Go.Lib
theorem idxByteC (s : List UInt8) (c : UInt8) : Pure Tryz.prog 68 [.str s, .int .u8 c.toNat] (.int .i64 (Lib.indexByte s c)) := by
  refine Pure.of_calls fun γ w vs ht hv => ?_
  obtain ⟨hl, hr⟩ := hv
  match vs, hl with
  | [v, u], _ =>
    cases hr 0 _ _ rfl rfl
    cases hr 1 _ _ rfl rfl
    refine (Tryz.strings_IndexByte ⟨s.toArray⟩ c.toNat w).mono fun e w' ⟨he, hw⟩ => ⟨hw, _, he, ?_⟩
    have e1 : ((c.toNat : Int)).toNat.toUInt8 = c := by simp
    rw [e1]
    exact .int _ _
theorem containsC1 (s : List UInt8) (c : UInt8) : Pure Tryz.prog 64 [.str s, .str [c]] (.bool (decide (0 ≤ Lib.indexByte s c))) := by
  refine Pure.of_calls fun γ w vs ht hv => ?_
  obtain ⟨hl, hr⟩ := hv
  match vs, hl with
  | [v, u], _ =>
    cases hr 0 _ _ rfl rfl
    cases hr 1 _ _ rfl rfl
    exact (Tryz.strings_Contains_one ⟨s.toArray⟩ c w).mono fun e w' ⟨he, hw⟩ => ⟨hw, _, he, .bool _⟩
theorem smallC (n : Nat) (h : n < 100) : Pure Tryz.prog 155 [.int .i64 n] (.str (decDigits n)) := by
  refine Pure.of_calls fun γ w vs ht hv => ?_
  obtain ⟨hl, hr⟩ := hv
  match vs, hl with
  | [v], _ =>
    cases hr 0 _ _ rfl rfl
    exact (Tryz.internal_strconv_small n h w).mono fun e w' ⟨he, hw⟩ => ⟨hw, _, he, .str _⟩
theorem numDigitsC (u : Nat) (h1 : 1 ≤ u) (h2 : u < 18446744073709551616) : Pure Tryz.prog 156 [.int .u64 u] (.int .i64 (nDigits u)) := by
  refine Pure.of_calls fun γ w vs ht hv => ?_
  obtain ⟨hl, hr⟩ := hv
  match vs, hl with
  | [v], _ =>
    cases hr 0 _ _ rfl rfl
    exact (Tryz.internal_strconv_numDigits u h1 h2 w (powTab ht)).mono fun e w' ⟨he, hw⟩ => ⟨hw, _, he, .int _ _⟩
theorem putRow_set {w : World} {b : Nat} {old : Array Value} {E : TypeId} {fr : Nat × Nat} (hb : w.heap[b]? = some (.cells old E fr)) (enc : UInt8 → Value) (d : Array UInt8) : putRow enc w b 0 d = w.setRow b (putCells enc 0 d old) := by
  have e : ∀ (w1 w2 : World), w1.heap = w2.heap → { w with heap := w1.heap } = { w with heap := w2.heap } := fun _ _ h => by rw [h]
  unfold putRow mapBlock World.setRow
  congr 1
  refine Array.ext_getElem? fun i => ?_
  rw [Array.getElem?_modify, Array.getElem?_modify]
  split
  · rename_i h; subst h
    rw [hb]; rfl
  · rfl
theorem ext_drewN (F : Nat → Prop) (γ : Gh) (w : World) (n : Nat) : Ext F γ w γ (w.drewN n) :=
  ⟨⟨Nat.le_refl _, fun b o v h hp => ⟨hp, h⟩, fun b arr E fr h => ⟨arr, h, rfl⟩⟩, rfl, rfl, fun _ _ => rfl, fun _ _ _ => ⟨rfl, rfl⟩⟩
theorem flat_bytes (l : List UInt8) : (bytesOf l).flatten = l.map fun (c : UInt8) => AV.int .u8 (c.toNat : Int) := by
  simp only [bytesOf]; induction l with
  | nil => rfl
  | cons x r ih => simp [ih]
def digV (u : Nat) : List Value := (decDigits u).map fun (c : UInt8) => Value.int .u8 (c.toNat : Int)
theorem digV_len (u : Nat) : (digV u).length = nDigits u := by rw [digV, List.length_map, decDigits_length]
theorem fmtC {H : Heap} {b : Nat} (u : Nat) (hb : H b = some (.cells (List.replicate 24 (.int .u8 0)))) (h2 : u < 18446744073709551616) :
    ACalls Tryz.prog 157 [.ms b 0 (nDigits u) 24, .int .u64 u] H (fun e H' => ∃ v, e = .ret v ∧ (v = .tup [] ∧ H' = H.upd b (.cells ((bytesOf (decDigits u)).flatten ++ List.replicate (24 - nDigits u) (.int .u8 0))))) := by
  intro γ w vs ht hs hv
  obtain ⟨hl, hr⟩ := hv
  have hnd := nDigits_le20 u h2
  match vs, hl with
  | [v, x], _ =>
    cases hr 1 _ _ rfl rfl
    cases hr 0 _ _ rfl rfl
    cases hs b _ hb with
    | cells _ vs E hk hbb hl h1 hr2 =>
      simp only [List.length_replicate] at hl
      have hz : ∀ i, i < 24 → vs[i]? = some (.int .u8 0) := fun i hi => by
        have h3 : i < vs.length := by omega
        have := hr2 i (.int .u8 0) vs[i] (by rw [List.getElem?_replicate, if_pos hi]) (List.getElem?_eq_getElem h3)
        rw [List.getElem?_eq_getElem h3]
        generalize vs[i] = x at this
        cases this; rfl
      have hH : Holds (fun (b : UInt8) => Value.int .u8 (b.toNat : Int)) w b 0 (Array.replicate (nDigits u) (0 : UInt8)) := fun j hj => by
        have hj' : j < nDigits u := by simpa using hj
        have hj2 : j < 24 := by omega
        refine ⟨?_, ?_⟩
        · simp only [World.cell?, hbb, Option.isSome_none, Bool.false_eq_true, if_false, Nat.zero_add, List.getElem?_toArray, hz j hj2]
          rw [getElem!_pos _ j hj]; simp
        · simp [World.frozen?, hbb]
      have hc := Tryz.internal_strconv_formatBase10 b 0 24 u (Array.replicate (nDigits u) 0) w hH (by simpa using lt_pow_nDigits u) h2 (by simp; omega)
      simp only [Array.size_replicate] at hc
      refine hc.mono fun e w' ⟨he, n, v', dk, hw, hf⟩ => ?_
      subst he
      rw [putRow_set hbb] at hw
      subst hw
      have hsz : dk.size = nDigits u := hf.size
      have hlen := decDigits_length u
      have hpc : (putCells (fun (b : UInt8) => Value.int .u8 (b.toNat : Int)) 0 dk vs.toArray) = (digV u ++ List.replicate (24 - nDigits u) (Value.int .u8 0)).toArray := by
        refine Array.ext_getElem? fun i => ?_
        unfold putCells
        rw [Array.getElem?_mapIdx, List.getElem?_toArray, List.getElem?_toArray]
        by_cases hi : i < nDigits u
        · rw [hz i (by omega), List.getElem?_append_left (by rw [digV_len]; exact hi), digV, List.getElem?_map]
          simp only [Option.map_some, Nat.zero_le, Nat.zero_add, hsz, hi, and_self, if_true, Nat.sub_zero]
          rw [List.getElem?_eq_getElem (by rw [hlen]; exact hi), ← row_is_numeral hf i (by rw [hlen]; exact hi)]
          rfl
        · rw [List.getElem?_append_right (by rw [digV_len]; omega)]
          simp only [digV_len, List.getElem?_replicate]
          by_cases h24 : i < 24
          · rw [hz i h24, if_pos (by omega)]
            simp [hsz, hi]
          · rw [List.getElem?_eq_none (by omega), if_neg (by omega)]; rfl
      rw [hpc]
      have hext : Ext (fun c => c = b) γ w γ (w.setRow b (digV u ++ List.replicate (24 - nDigits u) (Value.int .u8 0)).toArray) :=
        ext_setRow hbb (by simp [digV_len]; omega) rfl (fun q hq => by simp [Prot, hk] at hq) (fun _ _ => rfl)
      have hst := state_upd hs hext (x := .cells ((bytesOf (decDigits u)).flatten ++ List.replicate (24 - nDigits u) (.int .u8 0))) (.cells _ _ E hk (setRow_get w b _ _ E _ hbb) (by simp [flat_bytes, digV_len, hlen]) (fun i v hi => by
          rcases List.mem_append.1 (List.mem_of_getElem? hi) with h | h
          · unfold digV at h; obtain ⟨c, _, rfl⟩ := List.mem_map.1 h; rfl
          · obtain ⟨_, rfl⟩ := List.mem_replicate.1 h; rfl) (fun i c v hi hvi => by
          rw [flat_bytes] at hi
          by_cases h3 : i < nDigits u
          · rw [List.getElem?_append_left (by simp [hlen]; exact h3), List.getElem?_map] at hi
            rw [List.getElem?_append_left (by rw [digV_len]; exact h3), digV, List.getElem?_map] at hvi
            cases hx : (decDigits u)[i]? with
            | none => simp [hx] at hi
            | some x => simp only [hx, Option.map_some, Option.some.injEq] at hi hvi; subst hi; subst hvi; exact .int _ _
          · rw [List.getElem?_append_right (by simp [hlen]; omega)] at hi
            rw [List.getElem?_append_right (by rw [digV_len]; omega)] at hvi
            cases (List.mem_replicate.1 (List.mem_of_getElem? hi)).2
            cases (List.mem_replicate.1 (List.mem_of_getElem? hvi)).2
            exact .int _ _))
      have h4 := ext_drewN (fun _ => False) γ (w.setRow b (digV u ++ List.replicate (24 - nDigits u) (Value.int .u8 0)).toArray) n
      have d1 := hext.trans h4 fun _ _ f => f.elim
      have d2 := hst.kept h4 fun _ _ _ f => f
      exact ⟨γ, _, .ret (.tup []), d1.weaken fun c e => by subst e; simp [keysOf, hb], d2, fun c hc => by
        by_cases e : c = b
        · subst e; exact .inl (by simp [hb])
        · exact .inl (by simpa [Heap.upd, e] using hc), .tup [] [] rfl (by simp), .tup [], rfl, rfl, rfl⟩
end Go.Proofs.YtpjafglhdlfnbaaGreatDoor
namespace Go.Proofs.YtpjafglhdlfnbaaGreatDoor
open Go.Ab
def isD (c : UInt8) : Bool := decide (48 ≤ c.toNat) && decide (c.toNat ≤ 57)
def isL (c : UInt8) : Bool := (decide (97 ≤ c.toNat) && decide (c.toNat ≤ 122)) || ((decide (65 ≤ c.toNat) && decide (c.toNat ≤ 90)) || decide (c.toNat = 95))
theorem digitC (c : UInt8) : Pure Tryz.prog 107 [.int .u8 (c.toNat : Int)] (.bool (isD c)) := by
  refine Pure.go ir107 ck107 (Nat.le_refl _) fun KP Q hQ => ?_
  by_cases h : (48 : Int) ≤ c.toNat
  · simp (disch := first | omega | assumption) only [ir107, h, go_sem, ↓reduceIte]
    have h' : 48 ≤ c.toNat := by omega
    have e : decide ((c.toNat : Int) ≤ 57) = decide (c.toNat ≤ 57) := by rw [decide_eq_decide]; omega
    exact hQ _ _ _ _ nofun rfl (by simp [tupOf, envOf, AV.strip, AV.strip1, isD, h', e])
  · simp (disch := first | omega | assumption) only [ir107, h, go_sem, ↓reduceIte]
    have h' : ¬ 48 ≤ c.toNat := by omega
    exact hQ _ _ _ _ nofun rfl (by simp [tupOf, envOf, AV.strip, AV.strip1, isD, h'])
theorem digitR (c : UInt8) : Pure Tryz.prog 127 [.int .u8 (c.toNat : Int)] (.bool (isD c)) := by
  refine Pure.go ir127 ck127 (Nat.le_refl _) fun KP Q hQ => ?_
  by_cases h : (48 : Int) ≤ c.toNat
  · simp (disch := first | omega | assumption) only [ir127, h, go_sem, ↓reduceIte]
    have h' : 48 ≤ c.toNat := by omega
    have e : decide ((c.toNat : Int) ≤ 57) = decide (c.toNat ≤ 57) := by rw [decide_eq_decide]; omega
    exact hQ _ _ _ _ nofun rfl (by simp [tupOf, envOf, AV.strip, AV.strip1, isD, h', e])
  · simp (disch := first | omega | assumption) only [ir127, h, go_sem, ↓reduceIte]
    have h' : ¬ 48 ≤ c.toNat := by omega
    exact hQ _ _ _ _ nofun rfl (by simp [tupOf, envOf, AV.strip, AV.strip1, isD, h'])
theorem letterC (c : UInt8) : Pure Tryz.prog 104 [.int .u8 (c.toNat : Int)] (.bool (isL c)) := by
  refine Pure.go ir104 ck104 (Nat.le_refl _) fun KP Q hQ => ?_
  have e : decide ((c.toNat : Int) = 95) = decide (c.toNat = 95) := by rw [decide_eq_decide]; omega
  by_cases h : (97 : Int) ≤ c.toNat
  · have h' : 97 ≤ c.toNat := by omega
    by_cases h2 : (c.toNat : Int) ≤ 122
    · have h2' : c.toNat ≤ 122 := by omega
      simp (disch := first | omega | assumption) only [ir104, h, h2, go_sem, ↓reduceIte]
      exact hQ _ _ _ _ nofun rfl (by simp [tupOf, envOf, AV.strip, AV.strip1, isL, h', h2'])
    · have h2' : ¬ c.toNat ≤ 122 := by omega
      have h3 : (65 : Int) ≤ c.toNat := by omega
      have h4 : ¬ (c.toNat : Int) ≤ 90 := by omega
      have h4' : ¬ c.toNat ≤ 90 := by omega
      simp (disch := first | omega | assumption) only [ir104, h, h2, h3, h4, go_sem, ↓reduceIte]
      exact hQ _ _ _ _ nofun rfl (by simp [tupOf, envOf, AV.strip, AV.strip1, isL, h', h2', h4', e])
  · have h' : ¬ 97 ≤ c.toNat := by omega
    by_cases h3 : (65 : Int) ≤ c.toNat
    · have h3' : 65 ≤ c.toNat := by omega
      by_cases h4 : (c.toNat : Int) ≤ 90
      · have h4' : c.toNat ≤ 90 := by omega
        simp (disch := first | omega | assumption) only [ir104, h, h3, h4, go_sem, ↓reduceIte]
        exact hQ _ _ _ _ nofun rfl (by simp [tupOf, envOf, AV.strip, AV.strip1, isL, h', h3', h4'])
      · have h4' : ¬ c.toNat ≤ 90 := by omega
        simp (disch := first | omega | assumption) only [ir104, h, h3, h4, go_sem, ↓reduceIte]
        exact hQ _ _ _ _ nofun rfl (by simp [tupOf, envOf, AV.strip, AV.strip1, isL, h', h3', h4', e])
    · have h3' : ¬ 65 ≤ c.toNat := by omega
      simp (disch := first | omega | assumption) only [ir104, h, h3, go_sem, ↓reduceIte]
      exact hQ _ _ _ _ nofun rfl (by simp [tupOf, envOf, AV.strip, AV.strip1, isL, h', h3', e])
theorem letterR (c : UInt8) : Pure Tryz.prog 126 [.int .u8 (c.toNat : Int)] (.bool (isL c)) := by
  refine Pure.go ir126 ck126 (Nat.le_refl _) fun KP Q hQ => ?_
  have e : decide ((c.toNat : Int) = 95) = decide (c.toNat = 95) := by rw [decide_eq_decide]; omega
  by_cases h : (97 : Int) ≤ c.toNat
  · have h' : 97 ≤ c.toNat := by omega
    by_cases h2 : (c.toNat : Int) ≤ 122
    · have h2' : c.toNat ≤ 122 := by omega
      simp (disch := first | omega | assumption) only [ir126, h, h2, go_sem, ↓reduceIte]
      exact hQ _ _ _ _ nofun rfl (by simp [tupOf, envOf, AV.strip, AV.strip1, isL, h', h2'])
    · have h2' : ¬ c.toNat ≤ 122 := by omega
      have h3 : (65 : Int) ≤ c.toNat := by omega
      have h4 : ¬ (c.toNat : Int) ≤ 90 := by omega
      have h4' : ¬ c.toNat ≤ 90 := by omega
      simp (disch := first | omega | assumption) only [ir126, h, h2, h3, h4, go_sem, ↓reduceIte]
      exact hQ _ _ _ _ nofun rfl (by simp [tupOf, envOf, AV.strip, AV.strip1, isL, h', h2', h4', e])
  · have h' : ¬ 97 ≤ c.toNat := by omega
    by_cases h3 : (65 : Int) ≤ c.toNat
    · have h3' : 65 ≤ c.toNat := by omega
      by_cases h4 : (c.toNat : Int) ≤ 90
      · have h4' : c.toNat ≤ 90 := by omega
        simp (disch := first | omega | assumption) only [ir126, h, h3, h4, go_sem, ↓reduceIte]
        exact hQ _ _ _ _ nofun rfl (by simp [tupOf, envOf, AV.strip, AV.strip1, isL, h', h3', h4'])
      · have h4' : ¬ c.toNat ≤ 90 := by omega
        simp (disch := first | omega | assumption) only [ir126, h, h3, h4, go_sem, ↓reduceIte]
        exact hQ _ _ _ _ nofun rfl (by simp [tupOf, envOf, AV.strip, AV.strip1, isL, h', h3', h4', e])
    · have h3' : ¬ 65 ≤ c.toNat := by omega
      simp (disch := first | omega | assumption) only [ir126, h, h3, go_sem, ↓reduceIte]
      exact hQ _ _ _ _ nofun rfl (by simp [tupOf, envOf, AV.strip, AV.strip1, isL, h', h3', e])
def nameG : List UInt8 → Nat → Bool
  | [], _ => true
  | c :: r, i => if isL c || (decide (i ≠ 0) && isD c) then nameG r (i + 1) else false
def nameM (s : List UInt8) : Bool := nameG s 0 && decide (s ≠ [])
theorem str_get {s a : List UInt8} {x : UInt8} {b : List UInt8} (h : s = a ++ x :: b) : s.getD a.length 0 = x := by subst h; simp
theorem nameC (s : List UInt8) (hs : s.length ≤ Lim) : Pure Tryz.prog 86 [.str s] (.bool (nameM s)) := by
  refine Pure.go ir86 ck86 (Nat.le_refl _) fun KP Q hQ => ?_
  simp only [Lim] at hs
  simp (disch := first | omega | assumption) only [ir86, go_sem, ↓reduceIte]
  refine goL_range s 6 (fun _ : Unit => []) (fun done rest n H => nameG rest done.length = nameG s 0) () (by simp (disch := first | omega | assumption) only [go_sem, ↓reduceIte]) rfl ?_ ?_
  · rintro n H J hn hlt
    simp only [nameG] at hn
    simp (disch := first | omega | assumption) only [hlt, go_sem, ↓reduceIte]
    have e : (!decide (s = [])) = decide (s ≠ []) := by simp
    exact hQ _ _ _ _ nofun rfl (by simp [tupOf, envOf, AV.strip, AV.strip1, nameM, ← hn])
  · rintro done x rest n H J hd hlt _ hn hJ
    have hg := str_get hd
    simp only [nameG] at hn
    simp (disch := first | omega | assumption) only [hlt, hg, go_sem, ↓reduceIte]
    refine goK_pure (letterC x) ?_
    cases hl : isL x with
    | true =>
      simp only [hl, Bool.true_or, if_true] at hn
      simp (disch := first | omega | assumption) only [hl, go_sem, ↓reduceIte]
      exact goJ (hJ () _ (by simpa using hn)) (by simp (disch := first | omega | assumption) only [wrap64, go_sem, ↓reduceIte])
    | false =>
      by_cases h0 : done.length = 0
      · have h0' : (done.length : Int) = 0 := by omega
        simp only [hl, h0, ne_eq, not_true_eq_false, decide_false, Bool.false_and, Bool.or_false, Bool.false_eq_true, if_false] at hn
        simp (disch := first | omega | assumption) only [hl, h0', go_sem, ↓reduceIte]
        exact hQ _ _ _ _ nofun rfl (by simp [tupOf, envOf, AV.strip, AV.strip1, nameM, ← hn])
      · have h0' : ¬ (done.length : Int) = 0 := by omega
        simp (disch := first | omega | assumption) only [hl, h0', hlt, hg, go_sem, ↓reduceIte]
        refine goK_pure (digitC x) ?_
        cases hdg : isD x with
        | true =>
          simp only [hl, hdg, h0, ne_eq, not_false_eq_true, decide_true, Bool.and_self, Bool.or_true, if_true] at hn
          simp (disch := first | omega | assumption) only [hdg, go_sem, ↓reduceIte]
          exact goJ (hJ () _ (by simpa using hn)) (by simp (disch := first | omega | assumption) only [wrap64, go_sem, ↓reduceIte])
        | false =>
          simp only [hl, hdg, Bool.and_false, Bool.or_false, Bool.false_eq_true, if_false] at hn
          simp (disch := first | omega | assumption) only [hdg, go_sem, ↓reduceIte]
          exact hQ _ _ _ _ nofun rfl (by simp [tupOf, envOf, AV.strip, AV.strip1, nameM, ← hn])
theorem nameR (s : List UInt8) (hs : s.length ≤ Lim) : Pure Tryz.prog 85 [.str s] (.bool (nameM s)) := by
  refine Pure.go ir85 ck85 (Nat.le_refl _) fun KP Q hQ => ?_
  simp only [Lim] at hs
  cases s with
  | nil =>
    simp (disch := first | omega | assumption) only [ir85, go_sem, ↓reduceIte]
    exact hQ _ _ _ _ nofun rfl (by simp [tupOf, envOf, AV.strip, AV.strip1, nameM, nameG])
  | cons c r =>
    have hne : ¬ (c :: r = []) := by simp
    have hp : (0 : Int) < ((c :: r).length : Nat) := by simp
    simp (disch := first | omega | assumption) only [ir85, hne, hp, go_sem, ↓reduceIte]
    refine goK_pure (letterR c) ?_
    cases hl : isL c with
    | false =>
      simp (disch := first | omega | assumption) only [hl, go_sem, ↓reduceIte]
      exact hQ _ _ _ _ nofun rfl (by simp [tupOf, envOf, AV.strip, AV.strip1, nameM, nameG, hl])
    | true =>
      simp (disch := first | omega | assumption) only [hl, go_sem, ↓reduceIte]
      have hm : nameM (c :: r) = nameG r 1 := by simp [nameM, nameG, hl]
      refine goL_st (fun x : List UInt8 × List UInt8 => [(3, .int .i64 ((x.1.length : Int) + 1))]) (fun x H => r = x.1 ++ x.2 ∧ nameG x.2 (x.1.length + 1) = nameG r 1) (fun x => x.2.length) ([], r) (by simp (disch := first | omega | assumption) only [go_sem, ↓reduceIte]) ⟨rfl, rfl⟩ ?_
      rintro ⟨done, rest⟩ H J ⟨hd, hn⟩ hJ
      simp only at hd hn hJ ⊢
      have hlen : r.length = done.length + rest.length := by rw [hd]; simp
      simp only [List.length_cons] at hs
      have hL : (((c :: r).length : Nat) : Int) = done.length + rest.length + 1 := by simp [hlen]
      cases rest with
      | nil =>
        have hlt : ¬ ((done.length : Int) + 1 < ((r.length + 1 : Nat) : Int)) := by simp at hlen; omega
        simp only [nameG] at hn
        simp (disch := first | omega | assumption) only [hlt, go_sem, ↓reduceIte]
        exact hQ _ _ _ _ nofun rfl (by simp [tupOf, envOf, AV.strip, AV.strip1, hm, ← hn])
      | cons x t =>
        simp only [List.length_cons] at hlen
        have hlt : ((done.length : Int) + 1 < ((r.length + 1 : Nat) : Int)) := by omega
        have hlt0 : (0 : Int) ≤ (done.length : Int) + 1 := by omega
        have hto : ((done.length : Int) + 1).toNat = done.length + 1 := by omega
        have hg : r.getD done.length 0 = x := str_get hd
        simp only [nameG] at hn
        simp (disch := first | omega | assumption) only [hlt, hlt0, hto, hg, go_sem, ↓reduceIte]
        refine goK_pure (letterR x) ?_
        have hd' : r = (done ++ [x]) ++ t := by rw [hd]; simp
        cases hlx : isL x with
        | true =>
          simp only [hlx, Bool.true_or, if_true] at hn
          simp (disch := first | omega | assumption) only [hlx, go_sem, ↓reduceIte]
          refine goJ (hJ (done ++ [x], t) _ (by simp) ⟨hd', by simpa using hn⟩) (by simp (disch := first | omega | assumption) only [wrap64, List.length_append, Int.natCast_add, Int.natCast_one, go_sem, ↓reduceIte])
        | false =>
          simp (disch := first | omega | assumption) only [hlx, hlt, hlt0, hto, hg, go_sem, ↓reduceIte]
          refine goK_pure (digitR x) ?_
          cases hdg : isD x with
          | true =>
            have h0 : done.length + 1 ≠ 0 := by omega
            simp only [hlx, hdg, h0, ne_eq, not_false_eq_true, decide_true, Bool.and_self, Bool.or_true, if_true] at hn
            simp (disch := first | omega | assumption) only [hdg, go_sem, ↓reduceIte]
            refine goJ (hJ (done ++ [x], t) _ (by simp) ⟨hd', by simpa using hn⟩) (by simp (disch := first | omega | assumption) only [wrap64, List.length_append, Int.natCast_add, Int.natCast_one, go_sem, ↓reduceIte])
          | false =>
            simp only [hlx, hdg, Bool.and_false, Bool.or_false, Bool.false_eq_true, if_false] at hn
            simp (disch := first | omega | assumption) only [hdg, go_sem, ↓reduceIte]
            exact hQ _ _ _ _ nofun rfl (by simp [tupOf, envOf, AV.strip, AV.strip1, hm, ← hn])
def run1 : List UInt8 → Nat
  | [] => 0
  | c :: r => if isD c then run1 r + 1 else 0
theorem run1_le : ∀ l, run1 l ≤ l.length
  | [] => Nat.le_refl _
  | c :: r => by have := run1_le r; simp only [run1, List.length_cons]; split <;> omega
theorem drop_cases (s : List UInt8) (k : Nat) : (s.drop k = [] ∧ s.length ≤ k) ∨ (k < s.length ∧ s.drop k = s.getD k 0 :: s.drop (k + 1)) := by
  rcases Nat.lt_or_ge k s.length with h | h
  · right
    refine ⟨h, ?_⟩
    rw [List.drop_eq_getElem_cons h]
    simp [h]
  · left; exact ⟨List.drop_of_length_le h, h⟩
theorem digitsC (s : List UInt8) (hs : s.length ≤ Lim) : Pure Tryz.prog 142 [.str s] (.int .i64 (run1 s)) := by
  refine Pure.go ir142 ck142 (Nat.le_refl _) fun KP Q hQ => ?_
  simp only [Lim] at hs
  have hr1 := run1_le s
  simp (disch := first | omega | assumption) only [ir142, go_sem, ↓reduceIte]
  refine goL_st (fun n : Nat => [(3, .int .i64 n)]) (fun n H => run1 s = n + run1 (s.drop n) ∧ n ≤ s.length) (fun n => s.length - n) 0 (by simp (disch := first | omega | assumption) only [go_sem, ↓reduceIte]) ⟨by simp, by omega⟩ ?_
  rintro n H J ⟨hn, hle⟩ hJ
  rcases drop_cases s n with ⟨h1, h2⟩ | ⟨h1, h2⟩
  · have hlt : ¬ ((n : Int) < s.length) := by omega
    rw [h1] at hn
    simp only [run1, Nat.add_zero] at hn
    simp (disch := first | omega | assumption) only [hlt, go_sem, ↓reduceIte]
    exact hQ _ _ _ _ nofun rfl (by simp [tupOf, envOf, AV.strip, AV.strip1, hn])
  · have hlt : ((n : Int) < s.length) := by omega
    rw [h2] at hn
    simp only [run1] at hn
    simp (disch := first | omega | assumption) only [hlt, go_sem, ↓reduceIte]
    refine goK_pure (digitC (s.getD n 0)) ?_
    cases hd : isD (s.getD n 0) with
    | true =>
      simp only [hd, if_true] at hn
      simp (disch := first | omega | assumption) only [hd, go_sem, ↓reduceIte]
      exact goJ (hJ (n + 1) _ (by omega) ⟨by omega, by omega⟩) (by simp (disch := first | omega | assumption) only [wrap64, Int.natCast_add, Int.natCast_one, go_sem, ↓reduceIte])
    | false =>
      simp only [hd, Bool.false_eq_true, if_false, Nat.add_zero] at hn
      simp (disch := first | omega | assumption) only [hd, go_sem, ↓reduceIte]
      exact hQ _ _ _ _ nofun rfl (by simp [tupOf, envOf, AV.strip, AV.strip1, hn])
theorem runR (s : List UInt8) (i : Int) (h0 : 0 ≤ i) (h1 : i ≤ s.length) (hs : s.length ≤ Lim) : Pure Tryz.prog 154 [.str s, .int .i64 i] (.int .i64 (run1 (s.drop i.toNat))) := by
  obtain ⟨k, rfl⟩ : ∃ k : Nat, i = k := ⟨i.toNat, by omega⟩
  refine Pure.go ir154 ck154 (Nat.le_refl _) fun KP Q hQ => ?_
  simp only [Lim] at hs
  have hr1 := run1_le (s.drop k)
  rw [List.length_drop] at hr1
  simp (disch := first | omega | assumption) only [ir154, go_sem, ↓reduceIte]
  refine goL_st (fun n : Nat => [(5, .int .i64 n)]) (fun n H => run1 (s.drop k) = n + run1 (s.drop (k + n)) ∧ k + n ≤ s.length) (fun n => s.length - n) 0 (by simp (disch := first | omega | assumption) only [go_sem, ↓reduceIte]) ⟨by simp, by omega⟩ ?_
  rintro n H J ⟨hn, hle⟩ hJ
  have hto : ((k : Int) + n).toNat = k + n := by omega
  have hnn : (0 : Int) ≤ (k : Int) + n := by omega
  rcases drop_cases s (k + n) with ⟨h1, h2⟩ | ⟨h1, h2⟩
  · have hlt : ¬ ((k : Int) + n < s.length) := by omega
    rw [h1] at hn
    simp only [run1, Nat.add_zero] at hn
    simp (disch := first | omega | assumption) only [hlt, wrap64, go_sem, ↓reduceIte]
    exact hQ _ _ _ _ nofun rfl (by simp [tupOf, envOf, AV.strip, AV.strip1, hn])
  · have hlt : ((k : Int) + n < s.length) := by omega
    rw [h2] at hn
    simp only [run1] at hn
    simp (disch := first | omega | assumption) only [hlt, wrap64, hto, hnn, go_sem, ↓reduceIte]
    refine goK_pure (digitR (s.getD (k + n) 0)) ?_
    cases hd : isD (s.getD (k + n) 0) with
    | true =>
      simp only [hd, if_true] at hn
      simp (disch := first | omega | assumption) only [hd, go_sem, ↓reduceIte]
      exact goJ (hJ (n + 1) _ (by omega) ⟨by rw [← Nat.add_assoc]; omega, by omega⟩) (by simp (disch := first | omega | assumption) only [wrap64, Int.natCast_add, Int.natCast_one, go_sem, ↓reduceIte])
    | false =>
      simp only [hd, Bool.false_eq_true, if_false, Nat.add_zero] at hn
      simp (disch := first | omega | assumption) only [hd, go_sem, ↓reduceIte]
      exact hQ _ _ _ _ nofun rfl (by simp [tupOf, envOf, AV.strip, AV.strip1, hn])
end Go.Proofs.YtpjafglhdlfnbaaGreatDoor
