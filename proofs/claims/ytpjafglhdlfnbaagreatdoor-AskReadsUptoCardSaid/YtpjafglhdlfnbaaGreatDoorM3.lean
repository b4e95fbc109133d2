/- Texts joined: Shelf Lib Ir Dat Val ValB Sam ValC ValD Sep LibB Num NumB NumC ValE Jm Jn Enc Quo. -/
import Derived.Shelf.Strings.Builder1
import Derived.Shelf.Strings.Builder2
import Derived.Shelf.Strings.OnBuilder
import Derived.Shelf.Small.Utf8
import Derived.Shelf.Small.Strs
import Derived.Shelf.Small.Wraps
import Derived.Shelf.Strings.BuilderF
import Derived.Shelf.Strings.BuilderK
import Derived.Shelf.Utf8.AppendRune
import Derived.Shelf.Strconv.Itoa0
import Derived.Shelf.Strconv.Itoa1
import Derived.Shelf.LaysM
import Derived.Shelf.Strconv.Itoa2
import Derived.Shelf.Strconv.Itoa3
import Derived.Shelf.Strconv.Itoa4
import Derived.Shelf.Strconv.ParseIntEmpty
import Derived.Shelf.Strconv.Clone
import Derived.Shelf.Strconv.SyntaxError
import Derived.Shelf.LaysC
import Derived.Shelf.Strconv.ToError
import Derived.Shelf.Strconv.Lower
import Derived.Shelf.Strconv.ParseUint10
import Derived.Shelf.Strconv.ParseUint10Empty
import Derived.Shelf.Strconv.ParseUint10Any
import Derived.Shelf.Strconv.ParseInt10
import Derived.Shelf.Strconv.RangeError
import Derived.Shelf.Strconv.ToErrorRange
import Derived.Shelf.Strconv.ParseUintEmpty
import Derived.Shelf.Strconv.ParseUint10b64
import Derived.Shelf.Strconv.ParseUint10b32
import Derived.Shelf.Strconv.ParseUint10b16
import Derived.Shelf.Strconv.ParseUint10b8
import Derived.Shelf.Strconv.ParseUint10At
import Derived.Shelf.Strconv.ParseInt10At64
import Derived.Shelf.Strconv.ParseInt10At32
import Derived.Shelf.Strconv.ParseInt10At16
import Derived.Shelf.Strconv.ParseInt10At8
import Derived.Shelf.Strconv.ParseInt10All
import Derived.Shelf.Strconv.ParseIntPublic10
import Derived.Shelf.Strconv.ErrVarParseInt
import Derived.Shelf.Strings.Search1
import Derived.Shelf.Strings.Search2
import Derived.Shelf.Strings.Search3
import Derived.Shelf.Strings.Shaped
import Derived.Shelf.Strconv.AppendUint10
import Derived.Shelf.Strconv.AppendInt10
import Derived.Shelf.Strconv.AppendIntPublic10
import Derived.Shelf.Strings.Prefix
import Derived.Shelf.Unicode.Decode
import Derived.Shelf.Strings.Runes
import Derived.Shelf.Strings.IndexAny
import Derived.Shelf.Strings.AsciiSet
import Derived.Shelf.Strings.IndexAnyAll
import Derived.Shelf.Unicode.DecodeSlow
import Derived.Shelf.Unicode.DecodeAny
import Derived.Test.YtpjafglhdlfnbaaGreatDoorProg
import Derived.Shelf.Unicode.ValidAny
import Derived.Test.YtpjafglhdlfnbaaGreatDoorRows
import Derived.Lib.ItoaMem
import Derived.Lib.ItoaLen
import Derived.Test.YtpjafglhdlfnbaaGreatDoorM1
import Derived.Test.YtpjafglhdlfnbaaGreatDoorM2
set_option maxRecDepth 100000
set_option linter.unusedSimpArgs false
set_option linter.unusedVariables false
namespace Go.Proofs
open Go.Shelf
def Tryz.lays137_ren : Go.Shelf.Ren := ⟨fun | 137 => 68 | 217 => 114 | 266 => 146 | n => n, fun | 9 => 9 | 5 => 5 | 3 => 3 | n => n, fun | n => n⟩
theorem Tryz.lays137 : Go.Proofs.Lays.n137 Tryz.prog Tryz.lays137_ren := {
  mixed := by kernel_rfl
  f137 := Tryz.func68.trans (congrArg some (by kernel_rfl))
  f217 := Tryz.func114.trans (congrArg some (by kernel_rfl))
  f266 := Tryz.func146.trans (congrArg some (by kernel_rfl))
  t3 := Tryz.underlying3
  a3 := Tryz.isAgg3
  z3 := Tryz.sizeOf3
  v3 := Tryz.zeroValue3
  t5 := Tryz.underlying5
  a5 := Tryz.isAgg5
  z5 := Tryz.sizeOf5
  v5 := Tryz.zeroValue5
  t9 := Tryz.underlying9
  a9 := Tryz.isAgg9
  z9 := Tryz.sizeOf9
  v9 := Tryz.zeroValue9 }
def Tryz.laysC174_ren : Go.Shelf.Ren := ⟨fun | 174 => 145 | 247 => 171 | 245 => 172 | 287 => 181 | 279 => 182 | 280 => 183 | 281 => 184 | 282 => 185 | 321 => 189 | 322 => 190 | 316 => 191 | 171 => 193 | 205 => 192 | 243 => 194 | 246 => 129 | 283 => 155 | 284 => 156 | 285 => 157 | 286 => 158 | 129 => 174 | 317 => 173 | 318 => 175 | 319 => 176 | 320 => 177 | 337 => 186 | 338 => 187 | n => n, fun | 9 => 9 | 3 => 3 | 2 => 2 | 75 => 111 | 85 => 144 | 4 => 4 | 167 => 175 | 5 => 5 | 53 => 143 | 175 => 176 | 46 => 126 | 168 => 178 | 37 => 66 | 0 => 0 | 210 => 184 | 21 => 21 | 127 => 134 | 145 => 190 | 143 => 188 | 171 => 150 | 173 => 153 | 212 => 168 | 51 => 169 | 20 => 20 | 213 => 170 | 232 => 186 | 233 => 187 | 80 => 83 | n => n, fun | 15 => 4 | 16 => 5 | 17 => 3 | 18 => 6 | 19 => 7 | n => n⟩
theorem Tryz.laysC174 : Go.Proofs.LaysC.n174 Tryz.prog Tryz.laysC174_ren := {
  mixed := by kernel_rfl
  f129 := Tryz.func174.trans (congrArg some (by kernel_rfl))
  f171 := Tryz.func193.trans (congrArg some (by kernel_rfl))
  f174 := Tryz.func145.trans (congrArg some (by kernel_rfl))
  f205 := Tryz.func192.trans (congrArg some (by kernel_rfl))
  f243 := Tryz.func194.trans (congrArg some (by kernel_rfl))
  f245 := Tryz.func172.trans (congrArg some (by kernel_rfl))
  f246 := Tryz.func129.trans (congrArg some (by kernel_rfl))
  f247 := Tryz.func171.trans (congrArg some (by kernel_rfl))
  f279 := Tryz.func182.trans (congrArg some (by kernel_rfl))
  f280 := Tryz.func183.trans (congrArg some (by kernel_rfl))
  f281 := Tryz.func184.trans (congrArg some (by kernel_rfl))
  f282 := Tryz.func185.trans (congrArg some (by kernel_rfl))
  f283 := Tryz.func155.trans (congrArg some (by kernel_rfl))
  f284 := Tryz.func156.trans (congrArg some (by kernel_rfl))
  f285 := Tryz.func157.trans (congrArg some (by kernel_rfl))
  f286 := Tryz.func158.trans (congrArg some (by kernel_rfl))
  f287 := Tryz.func181.trans (congrArg some (by kernel_rfl))
  f316 := Tryz.func191.trans (congrArg some (by kernel_rfl))
  f317 := Tryz.func173.trans (congrArg some (by kernel_rfl))
  f318 := Tryz.func175.trans (congrArg some (by kernel_rfl))
  f319 := Tryz.func176.trans (congrArg some (by kernel_rfl))
  f320 := Tryz.func177.trans (congrArg some (by kernel_rfl))
  f321 := Tryz.func189.trans (congrArg some (by kernel_rfl))
  f322 := Tryz.func190.trans (congrArg some (by kernel_rfl))
  f337 := Tryz.func186.trans (congrArg some (by kernel_rfl))
  f338 := Tryz.func187.trans (congrArg some (by kernel_rfl))
  t0 := Tryz.underlying0
  a0 := Tryz.isAgg0
  z0 := Tryz.sizeOf0
  v0 := Tryz.zeroValue0
  t2 := Tryz.underlying2
  a2 := Tryz.isAgg2
  z2 := Tryz.sizeOf2
  v2 := Tryz.zeroValue2
  t3 := Tryz.underlying3
  a3 := Tryz.isAgg3
  z3 := Tryz.sizeOf3
  v3 := Tryz.zeroValue3
  t4 := Tryz.underlying4
  a4 := Tryz.isAgg4
  z4 := Tryz.sizeOf4
  v4 := Tryz.zeroValue4
  t5 := Tryz.underlying5
  a5 := Tryz.isAgg5
  z5 := Tryz.sizeOf5
  v5 := Tryz.zeroValue5
  t9 := Tryz.underlying9
  a9 := Tryz.isAgg9
  z9 := Tryz.sizeOf9
  v9 := Tryz.zeroValue9
  t20 := Tryz.underlying20
  a20 := Tryz.isAgg20
  z20 := Tryz.sizeOf20
  v20 := Tryz.zeroValue20
  t21 := Tryz.underlying21
  a21 := Tryz.isAgg21
  z21 := Tryz.sizeOf21
  v21 := Tryz.zeroValue21
  t37 := Tryz.underlying66
  a37 := Tryz.isAgg66
  z37 := Tryz.sizeOf66
  v37 := Tryz.zeroValue66
  t46 := Tryz.underlying126
  a46 := Tryz.isAgg126
  z46 := Tryz.sizeOf126
  v46 := Tryz.zeroValue126
  t51 := Tryz.underlying169
  a51 := Tryz.isAgg169
  z51 := Tryz.sizeOf169
  v51 := Tryz.zeroValue169
  t53 := Tryz.underlying143
  a53 := Tryz.isAgg143
  z53 := Tryz.sizeOf143
  v53 := Tryz.zeroValue143
  t75 := Tryz.underlying111
  a75 := Tryz.isAgg111
  z75 := Tryz.sizeOf111
  v75 := Tryz.zeroValue111
  t85 := Tryz.underlying144
  a85 := Tryz.isAgg144
  z85 := Tryz.sizeOf144
  v85 := Tryz.zeroValue144
  t127 := Tryz.underlying134
  a127 := Tryz.isAgg134
  z127 := Tryz.sizeOf134
  v127 := Tryz.zeroValue134
  t143 := Tryz.underlying188
  a143 := Tryz.isAgg188
  z143 := Tryz.sizeOf188
  v143 := Tryz.zeroValue188
  t145 := Tryz.underlying190
  a145 := Tryz.isAgg190
  z145 := Tryz.sizeOf190
  v145 := Tryz.zeroValue190
  t167 := Tryz.underlying175
  a167 := Tryz.isAgg175
  z167 := Tryz.sizeOf175
  v167 := Tryz.zeroValue175
  t168 := Tryz.underlying178
  a168 := Tryz.isAgg178
  z168 := Tryz.sizeOf178
  v168 := Tryz.zeroValue178
  t171 := Tryz.underlying150
  a171 := Tryz.isAgg150
  z171 := Tryz.sizeOf150
  v171 := Tryz.zeroValue150
  t173 := Tryz.underlying153
  a173 := Tryz.isAgg153
  z173 := Tryz.sizeOf153
  v173 := Tryz.zeroValue153
  t175 := Tryz.underlying176
  a175 := Tryz.isAgg176
  z175 := Tryz.sizeOf176
  v175 := Tryz.zeroValue176
  t210 := Tryz.underlying184
  a210 := Tryz.isAgg184
  z210 := Tryz.sizeOf184
  v210 := Tryz.zeroValue184
  t212 := Tryz.underlying168
  a212 := Tryz.isAgg168
  z212 := Tryz.sizeOf168
  v212 := Tryz.zeroValue168
  t213 := Tryz.underlying170
  a213 := Tryz.isAgg170
  z213 := Tryz.sizeOf170
  t232 := Tryz.underlying186
  a232 := Tryz.isAgg186
  z232 := Tryz.sizeOf186
  v232 := Tryz.zeroValue186
  t233 := Tryz.underlying187
  a233 := Tryz.isAgg187
  z233 := Tryz.sizeOf187
  v233 := Tryz.zeroValue187
  g15 := by kernel_rfl
  g16 := by kernel_rfl
  g17 := by kernel_rfl
  g18 := by kernel_rfl
  g19 := by kernel_rfl
  t80 := Tryz.underlying83
  a80 := Tryz.isAgg83
  z80 := Tryz.sizeOf83
  v80 := Tryz.zeroValue83
  i0 := by kernel_rfl
  i2 := by kernel_rfl
  i3 := by kernel_rfl
  i4 := by kernel_rfl
  i5 := by kernel_rfl
  i9 := by kernel_rfl
  i20 := by kernel_rfl
  i21 := by kernel_rfl
  i37 := by kernel_rfl
  i46 := by kernel_rfl
  i51 := by kernel_rfl
  i53 := by kernel_rfl
  i75 := by kernel_rfl
  i80 := by kernel_rfl
  i85 := by kernel_rfl
  i127 := by kernel_rfl
  i143 := by kernel_rfl
  i145 := by kernel_rfl
  i167 := by kernel_rfl
  i168 := by kernel_rfl
  i171 := by kernel_rfl
  i173 := by kernel_rfl
  i175 := by kernel_rfl
  i210 := by kernel_rfl
  i212 := by kernel_rfl
  i232 := by kernel_rfl
  i233 := by kernel_rfl
  m15 := by kernel_rfl
  m16 := by kernel_rfl
  m17 := by kernel_rfl
  m18 := by kernel_rfl
  m19 := by kernel_rfl
  c0 := by kernel_rfl
  c2 := by kernel_rfl
  c3 := by kernel_rfl
  c4 := by kernel_rfl
  c5 := by kernel_rfl
  c9 := by kernel_rfl
  c20 := by kernel_rfl
  c21 := by kernel_rfl
  c37 := by kernel_rfl
  c46 := by kernel_rfl
  c51 := by kernel_rfl
  c53 := by kernel_rfl
  c75 := by kernel_rfl
  c80 := by kernel_rfl
  c85 := by kernel_rfl
  c127 := by kernel_rfl
  c143 := by kernel_rfl
  c145 := by kernel_rfl
  c167 := by kernel_rfl
  c168 := by kernel_rfl
  c171 := by kernel_rfl
  c173 := by kernel_rfl
  c175 := by kernel_rfl
  c210 := by kernel_rfl
  c212 := by kernel_rfl
  c213 := by kernel_rfl
  c232 := by kernel_rfl
  c233 := by kernel_rfl }
def Tryz.lays144_ren : Go.Shelf.Ren := ⟨fun | 144 => 64 | 143 => 111 | 219 => 144 | 217 => 114 | 225 => 164 | 224 => 163 | 267 => 170 | 266 => 146 | 314 => 180 | n => n, fun | 9 => 9 | 4 => 4 | 3 => 3 | 5 => 5 | 46 => 126 | 146 => 173 | 51 => 169 | n => n, fun | 1 => 2 | n => n⟩
theorem Tryz.lays144 : Go.Proofs.Lays.n144 Tryz.prog Tryz.lays144_ren := {
  mixed := by kernel_rfl
  f143 := Tryz.func111.trans (congrArg some (by kernel_rfl))
  f144 := Tryz.func64.trans (congrArg some (by kernel_rfl))
  f217 := Tryz.func114.trans (congrArg some (by kernel_rfl))
  f219 := Tryz.func144.trans (congrArg some (by kernel_rfl))
  f224 := Tryz.func163.trans (congrArg some (by kernel_rfl))
  f225 := Tryz.func164.trans (congrArg some (by kernel_rfl))
  f266 := Tryz.func146.trans (congrArg some (by kernel_rfl))
  f267 := Tryz.func170.trans (congrArg some (by kernel_rfl))
  f314 := Tryz.func180.trans (congrArg some (by kernel_rfl))
  t3 := Tryz.underlying3
  a3 := Tryz.isAgg3
  z3 := Tryz.sizeOf3
  v3 := Tryz.zeroValue3
  t4 := Tryz.underlying4
  a4 := Tryz.isAgg4
  z4 := Tryz.sizeOf4
  v4 := Tryz.zeroValue4
  t5 := Tryz.underlying5
  a5 := Tryz.isAgg5
  z5 := Tryz.sizeOf5
  v5 := Tryz.zeroValue5
  t9 := Tryz.underlying9
  a9 := Tryz.isAgg9
  z9 := Tryz.sizeOf9
  v9 := Tryz.zeroValue9
  t46 := Tryz.underlying126
  a46 := Tryz.isAgg126
  z46 := Tryz.sizeOf126
  v46 := Tryz.zeroValue126
  t51 := Tryz.underlying169
  a51 := Tryz.isAgg169
  z51 := Tryz.sizeOf169
  v51 := Tryz.zeroValue169
  t146 := Tryz.underlying173
  a146 := Tryz.isAgg173
  z146 := Tryz.sizeOf173
  v146 := Tryz.zeroValue173
  g1 := by kernel_rfl }
def Tryz.lays99_ren : Go.Shelf.Ren := ⟨fun | 99 => 99 | 206 => 133 | n => n, fun | 9 => 9 | 4 => 4 | 3 => 3 | n => n, fun | n => n⟩
theorem Tryz.lays99 : Go.Proofs.Lays.n99 Tryz.prog Tryz.lays99_ren := {
  mixed := by kernel_rfl
  f99 := Tryz.func99.trans (congrArg some (by kernel_rfl))
  f206 := Tryz.func133.trans (congrArg some (by kernel_rfl))
  t3 := Tryz.underlying3
  a3 := Tryz.isAgg3
  z3 := Tryz.sizeOf3
  v3 := Tryz.zeroValue3
  t4 := Tryz.underlying4
  a4 := Tryz.isAgg4
  z4 := Tryz.sizeOf4
  v4 := Tryz.zeroValue4
  t9 := Tryz.underlying9
  a9 := Tryz.isAgg9
  z9 := Tryz.sizeOf9
  v9 := Tryz.zeroValue9 }
open Go.RowKit in
theorem Tryz.strings_IndexByte (s : ByteArray) (c : Int) (w : World) :
    Calls Tryz.prog 68 #[.string s, .int .u8 c] w fun e w' => e = .returned (.int .i64 (Lib.indexByte s.data.toList c.toNat.toUInt8)) ∧ w' = w := Any.strings_IndexByte Tryz.lays137 s c w
open Go.RowKit in
theorem Tryz.strconv_ParseInt_10_at64_ok (s : ByteArray) (hmax : s.size ≤ 9223372036854775806) (v : Int) (h : Lib.parseIntB 64 s.data.toList = .ok v) (w : World) :
    Calls Tryz.prog 145 #[.string s, .int .i64 10, .int .i64 64] w fun e w' => e = .returned (.tuple #[.int .i64 v, .nilIface]) ∧ (w' = w ∨ ∃ t, w' = Lib.bytesWorld w 5 t) := Any.strconv_ParseInt_10_at64_ok Tryz.laysC174 s hmax v h w
open Go.RowKit in
theorem Tryz.strconv_ParseInt_10_at64_syntax (s : ByteArray) (hlim : s.size ≤ 281474976710656) (h : Lib.parseIntB 64 s.data.toList = Lib.NumEnd.syntax) (ev : Value) (w : World) (hv : w.cell? ⟨4, 0, none⟩ = some ev) (hev : ev = .nilIface ∨ ∃ te pe, ev = .iface te pe) :
    Calls Tryz.prog 145 #[.string s, .int .i64 10, .int .i64 64] w fun e w' => ∃ N, e = .returned (.tuple #[.int .i64 (0), .iface 178 (.pointer (some ⟨N, 0, none⟩))]) ∧ w.heap.size ≤ N ∧ w'.heap[N]? = some (.cells #[.string ⟨#[80, 97, 114, 115, 101, 73, 110, 116]⟩, .string s, ev] 184 (0, 0)) ∧ Below w.heap.size w w' := Any.strconv_ParseInt_10_at64_syntax Tryz.laysC174 s hlim h ev w hv hev
open Go.RowKit in
theorem Tryz.strconv_ParseInt_10_at64_range (s : ByteArray) (hlim : s.size ≤ 281474976710656) (h : Lib.parseIntB 64 s.data.toList = .range) (ev : Value) (w : World) (hv : w.cell? ⟨5, 0, none⟩ = some ev) (hev : ev = .nilIface ∨ ∃ te pe, ev = .iface te pe) :
    Calls Tryz.prog 145 #[.string s, .int .i64 10, .int .i64 64] w fun e w' => ∃ N, e = .returned (.tuple #[.int .i64 (Lib.intSat 64 s.data.toList), .iface 178 (.pointer (some ⟨N, 0, none⟩))]) ∧ w.heap.size ≤ N ∧ w'.heap[N]? = some (.cells #[.string ⟨#[80, 97, 114, 115, 101, 73, 110, 116]⟩, .string s, ev] 184 (0, 0)) ∧ Below w.heap.size w w' := Any.strconv_ParseInt_10_at64_range Tryz.laysC174 s hlim h ev w hv hev
open Go.RowKit Go.Lib in
theorem Tryz.strings_Contains_one (s : ByteArray) (c : UInt8) (w : World) :
    Calls Tryz.prog 64 #[.string s, .string ⟨#[c]⟩] w fun e w' => e = .returned (.bool (decide (0 ≤ Lib.indexByte s.data.toList c))) ∧ w' = w := Any.strings_Contains_one Tryz.lays144 s c w
open Go.RowKit Go.Lib in
theorem Tryz.strings_HasPrefix (s p : ByteArray) (w : World) :
    Calls Tryz.prog 99 #[.string s, .string p] w fun e w' => e = .returned (.bool (Lib.hasPrefix s.data.toList p.data.toList)) ∧ w' = w := Any.strings_HasPrefix Tryz.lays99 s p w
def Tryz.lays196_ren : Go.Shelf.Ren := ⟨fun | 196 => 58 | 259 => 108 | n => n, fun | 9 => 9 | 4 => 4 | 3 => 3 | 5 => 5 | 12 => 12 | 119 => 122 | 0 => 0 | 46 => 126 | 139 => 125 | 138 => 124 | 53 => 143 | n => n, fun | 3 => 0 | 4 => 1 | n => n⟩
theorem Tryz.lays196 : Go.Proofs.Lays.n196 Tryz.prog Tryz.lays196_ren := {
  mixed := by kernel_rfl
  f196 := Tryz.func58.trans (congrArg some (by kernel_rfl))
  f259 := Tryz.func108.trans (congrArg some (by kernel_rfl))
  t0 := Tryz.underlying0
  a0 := Tryz.isAgg0
  z0 := Tryz.sizeOf0
  v0 := Tryz.zeroValue0
  t3 := Tryz.underlying3
  a3 := Tryz.isAgg3
  z3 := Tryz.sizeOf3
  v3 := Tryz.zeroValue3
  t4 := Tryz.underlying4
  a4 := Tryz.isAgg4
  z4 := Tryz.sizeOf4
  v4 := Tryz.zeroValue4
  t5 := Tryz.underlying5
  a5 := Tryz.isAgg5
  z5 := Tryz.sizeOf5
  v5 := Tryz.zeroValue5
  t9 := Tryz.underlying9
  a9 := Tryz.isAgg9
  z9 := Tryz.sizeOf9
  v9 := Tryz.zeroValue9
  t12 := Tryz.underlying12
  a12 := Tryz.isAgg12
  z12 := Tryz.sizeOf12
  v12 := Tryz.zeroValue12
  t46 := Tryz.underlying126
  a46 := Tryz.isAgg126
  z46 := Tryz.sizeOf126
  v46 := Tryz.zeroValue126
  t53 := Tryz.underlying143
  a53 := Tryz.isAgg143
  z53 := Tryz.sizeOf143
  v53 := Tryz.zeroValue143
  t119 := Tryz.underlying122
  a119 := Tryz.isAgg122
  z119 := Tryz.sizeOf122
  t138 := Tryz.underlying124
  a138 := Tryz.isAgg124
  z138 := Tryz.sizeOf124
  v138 := Tryz.zeroValue124
  t139 := Tryz.underlying125
  a139 := Tryz.isAgg125
  z139 := Tryz.sizeOf125
  v139 := Tryz.zeroValue125
  g3 := by kernel_rfl
  g4 := by kernel_rfl }
end Go.Proofs
namespace Go.Proofs.YtpjafglhdlfnbaaGreatDoor
open Go.Ab Go.RowKit Go.Sort Go.Lib
theorem ext_below {γ : Gh} {w w' : World} (h : Below w.heap.size w w') : Ext (fun _ => False) γ w γ w' := by
  refine ⟨⟨h.size, fun b o v hc hp => ⟨hp, ?_⟩, fun b arr E fr hb => ⟨arr, ?_, rfl⟩⟩, h.os, h.output, fun a ha => ?_, fun b hb _ => ⟨rfl, h.block b hb⟩⟩
  · have hlt := World.block_lt_of_cell? w _ hc
    unfold World.cell? at hc ⊢
    rw [h.block _ hlt]; exact hc
  · have hlt := (Array.getElem?_eq_some_iff.1 hb).1
    rw [h.block b hlt]; exact hb
  · exact World.frozen?_of_block (h.block _ ha)
theorem Pure.of_below {P : Program} {f : FuncId} {args : List AV} {r : AV} (h : ∀ (γ : Gh) (w : World) (vs : List Value), TabOk γ w → RepAll γ w args vs → Calls P f vs.toArray w fun e w' => Below w.heap.size w w' ∧ ∃ v, e = .returned v ∧ Rep γ w' r v) : Pure P f args r := by
  intro γ w vs ht _ hv
  refine (h γ w vs ht hv).mono fun e w' ⟨hw, v, he, hr⟩ => ?_
  subst he
  exact ⟨γ, Heap.emp, .ret r, (ext_below hw).weaken fun _ f => f.elim, fun b o hb => by simp [Heap.emp] at hb, fun b hb => by simp [Heap.emp] at hb, hr, rfl, rfl⟩
theorem below_bytes (w : World) (e : TypeId) (t : ByteArray) : Below w.heap.size w (Lib.bytesWorld w e t) := by
  have h1 : Below w.heap.size w (w.drew.alloc (.cells (bytesCells w e t) e)) := (Below.refl _ w).drew.alloc (Nat.le_refl _) _
  unfold Lib.bytesWorld World.freeze
  simp only [Nat.one_ne_zero, if_false]
  refine ⟨h1.os, h1.tape, h1.output, ?_, fun i hi => ?_⟩
  · rw [Array.size_modify]; exact h1.size
  · rw [Array.getElem?_modify]
    have : ¬ (w.heap.size = i) := by omega
    simp only [this, if_false]
    exact h1.block i hi
theorem tab_at {γ : Gh} {w : World} (h : TabOk γ w) {i b : Nat} {ps : List (Value → Prop)} (hi : tabL[i]? = some (b, ps)) {j : Nat} {p : Value → Prop} (hj : ps[j]? = some p) : ∃ v, w.cell? ⟨b, j, none⟩ = some v ∧ p v := by
  obtain ⟨v, h1, h2⟩ := (h _ (List.mem_of_getElem? hi)).2 j p hj
  exact ⟨v, h1.1, h2⟩
theorem first_at : ∀ c : Fin 256, Go.Pinned.utf8FirstZ[c.val]? = some (Lib.firstT c.val) := by decide +kernel
def accZ : List Nat := [128, 191, 160, 191, 128, 159, 144, 191, 128, 143, 0, 0, 0, 0, 0, 0, 0, 0, 0, 0, 0, 0, 0, 0, 0, 0, 0, 0, 0, 0, 0, 0]
theorem acc_at : ∀ c : Fin 16, accZ[2 * c.val]? = some (Lib.accLo c.val) ∧ accZ[2 * c.val + 1]? = some (Lib.accHi c.val) := by decide +kernel
theorem utf8Tabs {γ : Gh} {w : World} (h : TabOk γ w) : Lib.Utf8Tabs 0 1 w := by
  refine ⟨fun c hc => ?_, fun c hc => ?_⟩
  · have hf := first_at ⟨c, hc⟩
    obtain ⟨v, h1, h2⟩ := tab_at h (i := 0) rfl (j := c) (p := fun v => v = .int .u8 (Lib.firstT c)) (by rw [List.getElem?_map, hf]; rfl)
    rw [h1, h2]
  · obtain ⟨g1, g2⟩ := acc_at ⟨c, hc⟩
    have hi : tabL[1]? = some (1, accZ.map fun (n : Nat) (v : Value) => v = .int .u8 n) := rfl
    obtain ⟨v, h1, h2⟩ := tab_at h hi (j := 2 * c) (p := fun v => v = .int .u8 (Lib.accLo c)) (by rw [List.getElem?_map, g1]; rfl)
    obtain ⟨u, h3, h4⟩ := tab_at h hi (j := 2 * c + 1) (p := fun v => v = .int .u8 (Lib.accHi c)) (by rw [List.getElem?_map, g2]; rfl)
    exact ⟨by rw [h1, h2], by rw [h3, h4]⟩
theorem arg_str {γ : Gh} {w : World} {s : List UInt8} {vs : List Value} (h : RepAll γ w [.str s] vs) : vs = [.string ⟨s.toArray⟩] := by
  obtain ⟨hl, hr⟩ := h
  match vs, hl with
  | [v], _ => cases hr 0 _ _ rfl rfl; rfl
theorem validC (s : List UInt8) (hs : s.length ≤ 9223372036854775807) : Pure Tryz.prog 58 [.str s] (.bool (Lib.validD s)) := by
  refine Pure.of_below fun γ w vs ht hv => ?_
  rw [arg_str hv]
  have h := Any.utf8_ValidString Tryz.lays196 ⟨s.toArray⟩ w (by simpa [ByteArray.size] using hs) (utf8Tabs ht)
  refine Calls.mono h fun e w' ⟨he, hb⟩ => ⟨hb, _, he, .bool _⟩
theorem prefixC (s p : List UInt8) : Pure Tryz.prog 99 [.str s, .str p] (.bool (p.isPrefixOf s)) := by
  refine Pure.of_below fun γ w vs ht hv => ?_
  obtain ⟨hl, hr⟩ := hv
  match vs, hl with
  | [v, u], _ =>
    cases hr 0 _ _ rfl rfl
    cases hr 1 _ _ rfl rfl
    exact (Tryz.strings_HasPrefix ⟨s.toArray⟩ ⟨p.toArray⟩ w).mono fun e w' ⟨he, hw⟩ => ⟨by rw [hw]; exact Below.refl _ _, _, he, .bool _⟩
theorem errRange_at {γ : Gh} {w : World} (h : TabOk γ w) : ∃ v, w.cell? ⟨5, 0, none⟩ = some v ∧ ∃ te pe, v = .iface te pe := tab_at h (i := 5) rfl (j := 0) rfl
theorem errSyntax_at {γ : Gh} {w : World} (h : TabOk γ w) : ∃ v, w.cell? ⟨4, 0, none⟩ = some v ∧ ∃ te pe, v = .iface te pe := tab_at h (i := 4) rfl (j := 0) rfl
def parseA (s : List UInt8) : AV :=
  match Lib.parseIntB 64 s with
  | .ok v => .tup [.int .i64 v, .oth .nilIface]
  | Lib.NumEnd.syntax => .tup [.int .i64 0, .ifc 178 .any]
  | .range => .tup [.int .i64 (Lib.intSat 64 s), .ifc 178 .any]
theorem rep_two {γ : Gh} {w : World} {a b : AV} {v u : Value} (h1 : Rep γ w a v) (h2 : Rep γ w b u) : Rep γ w (.tup [a, b]) (.tuple #[v, u]) := .tup _ [v, u] rfl (RepAll.cons h1 (RepAll.cons h2 RepAll.nil)).2
theorem parseIntC (s : List UInt8) (hs : s.length ≤ 281474976710656) : Pure Tryz.prog 145 [.str s, .int .i64 10, .int .i64 64] (parseA s) := by
  refine Pure.of_below fun γ w vs ht hv => ?_
  obtain ⟨hl, hr⟩ := hv
  match vs, hl with
  | [v, u, x], _ =>
    cases hr 0 _ _ rfl rfl
    cases hr 1 _ _ rfl rfl
    cases hr 2 _ _ rfl rfl
    have hsz : (⟨s.toArray⟩ : ByteArray).size = s.length := rfl
    unfold parseA
    rcases hp : Lib.parseIntB 64 s with v | _ | _
    · refine (Tryz.strconv_ParseInt_10_at64_ok ⟨s.toArray⟩ (by rw [hsz]; omega) v hp w).mono fun e w' ⟨he, hw⟩ => ⟨?_, _, he, rep_two (.int _ _) (.oth _)⟩
      rcases hw with rfl | ⟨t, rfl⟩
      · exact Below.refl _ _
      · exact below_bytes _ _ _
    · obtain ⟨ev, h1, h2⟩ := errSyntax_at ht
      exact (Tryz.strconv_ParseInt_10_at64_syntax ⟨s.toArray⟩ (by rw [hsz]; omega) hp ev w h1 (.inr h2)).mono fun e w' ⟨N, he, _, _, hb⟩ => ⟨hb, _, he, rep_two (.int _ _) (.ifc _ _ _ (.any _))⟩
    · obtain ⟨ev, h1, h2⟩ := errRange_at ht
      exact (Tryz.strconv_ParseInt_10_at64_range ⟨s.toArray⟩ (by rw [hsz]; omega) hp ev w h1 (.inr h2)).mono fun e w' ⟨N, he, _, _, hb⟩ => ⟨hb, _, he, rep_two (.int _ _) (.ifc _ _ _ (.any _))⟩
end Go.Proofs.YtpjafglhdlfnbaaGreatDoor
namespace Go.Proofs.YtpjafglhdlfnbaaGreatDoor
open Go.Ab
def ir11 : AFn := ⟨42, 2, [.t 4], .seq (.reg [] [⟨some 4, none, .mv (.k (.bool false)), []⟩])
 (.seq (.seq (.reg [] [⟨some 6, none, .mv (.t 0), []⟩, ⟨some 7, none, .len (.t 6), []⟩, ⟨some 8, none, .mv (.t 1), []⟩, ⟨some 9, none, .len (.t 8), []⟩, ⟨some 10, none, .bi .neq .i64 (.t 7) (.t 9), []⟩])
 (.cond (.t 10) (.seq (.reg [] [⟨some 4, none, .mv (.k (.bool false)), []⟩])
 (.ret)) (.skip)))
 (.seq (.seq (.reg [] [⟨some 5, none, .mv (.k (.int .i64 0)), []⟩])
 (.block 0 (.loop [0, 1, 5] (.seq (.seq (.reg [] [⟨some 11, none, .mv (.t 5), []⟩, ⟨some 12, none, .mv (.t 0), []⟩, ⟨some 13, none, .len (.t 12), []⟩, ⟨some 14, none, .bi .lss .i64 (.t 11) (.t 13), []⟩])
 (.cond (.t 14) (.skip) (.exit 0)))
 (.seq (.block 1 (.seq (.reg [0, 1, 2, 3, 4, 5, 6, 7, 8, 9, 10, 11, 12, 13, 14, 15, 16, 17, 18, 19, 20, 21, 22, 23, 24] [⟨some 17, none, .mv (.t 0), []⟩, ⟨some 18, none, .mv (.t 5), []⟩, ⟨some 19, none, .ia 6 (.t 17) (.t 18), []⟩, ⟨some 20, none, .fa 0 (.t 19), []⟩, ⟨some 21, none, .ld 1 false (.t 20), []⟩, ⟨some 22, none, .mv (.t 1), []⟩, ⟨some 23, none, .mv (.t 5), []⟩, ⟨some 24, none, .ia 6 (.t 22) (.t 23), []⟩, ⟨some 25, none, .fa 0 (.t 24), []⟩, ⟨some 26, none, .ld 1 false (.t 25), []⟩, ⟨some 27, none, .bs .neq (.t 21) (.t 26), []⟩, ⟨some 28, none, .mv (.t 27), []⟩, ⟨some 29, (some (28, false)), .mv (.t 0), []⟩, ⟨some 30, (some (28, false)), .mv (.t 5), []⟩, ⟨some 31, (some (28, false)), .ia 6 (.t 29) (.t 30), []⟩, ⟨some 32, (some (28, false)), .fa 1 (.t 31), []⟩, ⟨some 33, (some (28, false)), .ld 5 true (.t 32), []⟩, ⟨some 34, (some (28, false)), .mv (.t 1), []⟩, ⟨some 35, (some (28, false)), .mv (.t 5), []⟩, ⟨some 36, (some (28, false)), .ia 6 (.t 34) (.t 35), []⟩, ⟨some 37, (some (28, false)), .fa 1 (.t 36), []⟩, ⟨some 38, (some (28, false)), .ld 5 true (.t 37), []⟩, ⟨some 39, (some (28, false)), .call 15 [(.t 33), (.t 38)], []⟩, ⟨some 40, (some (28, false)), .not (.t 39), []⟩, ⟨some 41, none, .pick (.t 28) (.k (.bool true)) (.t 40), []⟩])
 (.cond (.t 41) (.seq (.reg [] [⟨some 4, none, .mv (.k (.bool false)), []⟩])
 (.ret)) (.skip))))
 (.reg [] [⟨some 15, none, .mv (.t 5), []⟩, ⟨some 16, none, .bi .add .i64 (.t 15) (.k (.int .i64 1)), []⟩, ⟨some 5, none, .mv (.t 16), []⟩]))))))
 (.seq (.reg [] [⟨some 4, none, .mv (.k (.bool true)), []⟩])
 (.ret))))⟩
theorem ck11 : chkFn Tryz.prog 11 ir11 = true := by kernel_rfl
def ir15 : AFn := ⟨58, 2, [.t 4], .seq (.reg [] [⟨some 2, none, .boxv (.t 0), []⟩, ⟨some 3, none, .boxv (.t 1), []⟩, ⟨some 4, none, .mv (.k (.bool false)), []⟩])
 (.seq (.seq (.reg [] [⟨some 6, none, .fa 0 (.t 2), []⟩, ⟨some 7, none, .ld 1 false (.t 6), []⟩, ⟨some 8, none, .fa 0 (.t 3), []⟩, ⟨some 9, none, .ld 1 false (.t 8), []⟩, ⟨some 10, none, .bi .neq .i64 (.t 7) (.t 9), []⟩, ⟨some 11, none, .mv (.t 10), []⟩, ⟨some 12, (some (11, false)), .fa 1 (.t 2), []⟩, ⟨some 13, (some (11, false)), .ld 1 false (.t 12), []⟩, ⟨some 14, (some (11, false)), .fa 1 (.t 3), []⟩, ⟨some 15, (some (11, false)), .ld 1 false (.t 14), []⟩, ⟨some 16, (some (11, false)), .bi .neq .i64 (.t 13) (.t 15), []⟩, ⟨some 17, none, .pick (.t 11) (.k (.bool true)) (.t 16), []⟩, ⟨some 18, none, .mv (.t 17), []⟩, ⟨some 19, (some (18, false)), .fa 2 (.t 2), []⟩, ⟨some 20, (some (18, false)), .ld 1 false (.t 19), []⟩, ⟨some 21, (some (18, false)), .fa 2 (.t 3), []⟩, ⟨some 22, (some (18, false)), .ld 1 false (.t 21), []⟩, ⟨some 23, (some (18, false)), .bs .neq (.t 20) (.t 22), []⟩, ⟨some 24, none, .pick (.t 18) (.k (.bool true)) (.t 23), []⟩, ⟨some 25, none, .mv (.t 24), []⟩, ⟨some 26, (some (25, false)), .fa 3 (.t 2), []⟩, ⟨some 27, (some (25, false)), .ld 1 false (.t 26), []⟩, ⟨some 28, (some (25, false)), .len (.t 27), []⟩, ⟨some 29, (some (25, false)), .fa 3 (.t 3), []⟩, ⟨some 30, (some (25, false)), .ld 1 false (.t 29), []⟩, ⟨some 31, (some (25, false)), .len (.t 30), []⟩, ⟨some 32, (some (25, false)), .bi .neq .i64 (.t 28) (.t 31), []⟩, ⟨some 33, none, .pick (.t 25) (.k (.bool true)) (.t 32), []⟩])
 (.cond (.t 33) (.seq (.reg [] [⟨some 4, none, .mv (.k (.bool false)), []⟩])
 (.ret)) (.skip)))
 (.seq (.seq (.reg [] [⟨some 5, none, .mv (.k (.int .i64 0)), []⟩])
 (.block 0 (.loop [2, 3, 5] (.seq (.seq (.reg [] [⟨some 34, none, .mv (.t 5), []⟩, ⟨some 35, none, .fa 3 (.t 2), []⟩, ⟨some 36, none, .ld 1 false (.t 35), []⟩, ⟨some 37, none, .len (.t 36), []⟩, ⟨some 38, none, .bi .lss .i64 (.t 34) (.t 37), []⟩])
 (.cond (.t 38) (.skip) (.exit 0)))
 (.seq (.block 1 (.seq (.reg [0, 1, 2, 3, 4, 5, 6, 7, 8, 9, 10, 11] [⟨some 41, none, .fa 3 (.t 2), []⟩, ⟨some 42, none, .ld 1 false (.t 41), []⟩, ⟨some 43, none, .mv (.t 5), []⟩, ⟨some 44, none, .ia 5 (.t 42) (.t 43), []⟩, ⟨some 45, none, .ld 5 true (.t 44), []⟩, ⟨some 46, none, .fa 3 (.t 3), []⟩, ⟨some 47, none, .ld 1 false (.t 46), []⟩, ⟨some 48, none, .mv (.t 5), []⟩, ⟨some 49, none, .ia 5 (.t 47) (.t 48), []⟩, ⟨some 50, none, .ld 5 true (.t 49), []⟩, ⟨some 51, none, .call 15 [(.t 45), (.t 50)], []⟩, ⟨some 52, none, .not (.t 51), []⟩])
 (.cond (.t 52) (.seq (.reg [] [⟨some 4, none, .mv (.k (.bool false)), []⟩])
 (.ret)) (.skip))))
 (.reg [] [⟨some 39, none, .mv (.t 5), []⟩, ⟨some 40, none, .bi .add .i64 (.t 39) (.k (.int .i64 1)), []⟩, ⟨some 5, none, .mv (.t 40), []⟩]))))))
 (.seq (.reg [] [⟨some 53, none, .fa 4 (.t 2), []⟩, ⟨some 54, none, .ld 1 false (.t 53), []⟩, ⟨some 55, none, .fa 4 (.t 3), []⟩, ⟨some 56, none, .ld 1 false (.t 55), []⟩, ⟨some 57, none, .call 11 [(.t 54), (.t 56)], []⟩, ⟨some 4, none, .mv (.t 57), []⟩])
 (.ret))))⟩
theorem ck15 : chkFn Tryz.prog 15 ir15 = true := by kernel_rfl
def ir29 : AFn := ⟨22, 2, [.c 4 5 true, .t 5], .seq (.reg [] [⟨some 4, none, .alloc [.int .i64 0, .int .i64 0, .str [], .sl .nil 5 [], .sl .nil 6 []], []⟩, ⟨some 5, none, .mv (.k (.bool false)), []⟩])
 (.seq (.seq (.reg [] [⟨some 8, none, .mv (.t 1), []⟩, ⟨some 9, none, .len (.t 8), []⟩, ⟨some 10, none, .mv (.k (.int .i64 0)), []⟩])
 (.block 0 (.loop [0, 4, 8, 9, 10] (.seq (.reg [] [⟨some 11, none, .bi .lss .i64 (.t 10) (.t 9), []⟩])
 (.seq (.cond (.t 11) (.skip) (.exit 0))
 (.seq (.block 1 (.seq (.reg [] [⟨some 12, none, .ia 6 (.t 8) (.t 10), []⟩, ⟨some 13, none, .ld 6 true (.t 12), []⟩, ⟨some 7, none, .alloc [.str [], .int .i64 0, .int .i64 0, .str [], .sl .nil 5 [], .sl .nil 6 []], []⟩, ⟨none, none, .st 6 (.t 7) (.t 13), []⟩])
 (.seq (.reg [] [⟨some 14, none, .fa 0 (.t 7), []⟩, ⟨some 15, none, .ld 1 false (.t 14), []⟩, ⟨some 16, none, .mv (.t 0), []⟩, ⟨some 17, none, .bs .eql (.t 15) (.t 16), []⟩])
 (.cond (.t 17) (.seq (.reg [] [⟨some 18, none, .fa 1 (.t 7), []⟩, ⟨some 19, none, .ld 5 true (.t 18), []⟩, ⟨none, none, .st 5 (.t 4) (.t 19), []⟩, ⟨some 5, none, .mv (.k (.bool true)), []⟩])
 (.ret)) (.skip)))))
 (.reg [] [⟨some 20, none, .bi .add .i64 (.t 10) (.k (.int .i64 1)), []⟩, ⟨some 10, none, .mv (.t 20), []⟩])))))))
 (.seq (.reg [] [⟨some 21, none, .bld [.int .i64 0, .int .i64 0, .str [], .sl .nil 5 [], .sl .nil 6 []] [], []⟩, ⟨none, none, .st 5 (.t 4) (.t 21), []⟩, ⟨some 5, none, .mv (.k (.bool false)), []⟩])
 (.ret)))⟩
theorem ck29 : chkFn Tryz.prog 29 ir29 = true := by kernel_rfl
def ir30 : AFn := ⟨26, 2, [.c 4 5 true, .t 5], .seq (.reg [] [⟨some 4, none, .alloc [.int .i64 0, .int .i64 0, .str [], .sl .nil 5 [], .sl .nil 6 []], []⟩, ⟨some 5, none, .mv (.k (.bool false)), []⟩])
 (.seq (.seq (.reg [] [⟨some 6, none, .mv (.k (.int .i64 0)), []⟩])
 (.block 0 (.loop [0, 1, 4, 6] (.seq (.seq (.reg [] [⟨some 7, none, .mv (.t 6), []⟩, ⟨some 8, none, .mv (.t 1), []⟩, ⟨some 9, none, .len (.t 8), []⟩, ⟨some 10, none, .bi .lss .i64 (.t 7) (.t 9), []⟩])
 (.cond (.t 10) (.skip) (.exit 0)))
 (.seq (.block 1 (.seq (.reg [] [⟨some 13, none, .mv (.t 1), []⟩, ⟨some 14, none, .mv (.t 6), []⟩, ⟨some 15, none, .ia 6 (.t 13) (.t 14), []⟩, ⟨some 16, none, .fa 0 (.t 15), []⟩, ⟨some 17, none, .ld 1 false (.t 16), []⟩, ⟨some 18, none, .mv (.t 0), []⟩, ⟨some 19, none, .bs .eql (.t 17) (.t 18), []⟩])
 (.cond (.t 19) (.seq (.reg [] [⟨some 20, none, .mv (.t 1), []⟩, ⟨some 21, none, .mv (.t 6), []⟩, ⟨some 22, none, .ia 6 (.t 20) (.t 21), []⟩, ⟨some 23, none, .fa 1 (.t 22), []⟩, ⟨some 24, none, .ld 5 true (.t 23), []⟩, ⟨none, none, .st 5 (.t 4) (.t 24), []⟩, ⟨some 5, none, .mv (.k (.bool true)), []⟩])
 (.ret)) (.skip))))
 (.reg [] [⟨some 11, none, .mv (.t 6), []⟩, ⟨some 12, none, .bi .add .i64 (.t 11) (.k (.int .i64 1)), []⟩, ⟨some 6, none, .mv (.t 12), []⟩]))))))
 (.seq (.reg [] [⟨some 25, none, .bld [.int .i64 0, .int .i64 0, .str [], .sl .nil 5 [], .sl .nil 6 []] [], []⟩, ⟨none, none, .st 5 (.t 4) (.t 25), []⟩, ⟨some 5, none, .mv (.k (.bool false)), []⟩])
 (.ret)))⟩
theorem ck30 : chkFn Tryz.prog 30 ir30 = true := by kernel_rfl
def ir31 : AFn := ⟨5, 1, [.t 2], .seq (.reg [] [⟨some 2, none, .mv (.k (.bool false)), []⟩])
 (.seq (.reg [] [⟨some 3, none, .mv (.t 0), []⟩, ⟨some 4, none, .call 58 [(.t 3)], []⟩, ⟨some 2, none, .mv (.t 4), []⟩])
 (.ret))⟩
theorem ck31 : chkFn Tryz.prog 31 ir31 = true := by kernel_rfl
def ir36 : AFn := ⟨11, 1, [.t 2], .seq (.reg [] [⟨some 2, none, .mv (.k (.bool false)), []⟩])
 (.seq (.reg [] [⟨some 6, none, .mv (.t 0), []⟩, ⟨some 7, none, .call 69 [(.t 6)], []⟩, ⟨some 5, none, .mv (.t 7), []⟩, ⟨some 8, none, .ext (.t 5) 0, []⟩, ⟨some 9, none, .ext (.t 5) 1, []⟩, ⟨some 3, none, .mv (.t 8), []⟩, ⟨some 4, none, .mv (.t 9), []⟩])
 (.seq (.reg [] [⟨some 10, none, .mv (.t 4), []⟩, ⟨some 2, none, .mv (.t 10), []⟩])
 (.ret)))⟩
theorem ck36 : chkFn Tryz.prog 36 ir36 = true := by kernel_rfl
def ir62 : AFn := ⟨5, 1, [.c 2 5 true], .seq (.reg [] [⟨some 2, none, .alloc [.int .i64 0, .int .i64 0, .str [], .sl .nil 5 [], .sl .nil 6 []], []⟩])
 (.seq (.reg [] [⟨some 3, none, .mv (.t 0), []⟩, ⟨some 4, none, .bld [.int .i64 0, .int .i64 0, .str [], .sl .nil 5 [], .sl .nil 6 []] [(0, 1, (.k (.int .i64 4))), (2, 1, (.t 3))], []⟩, ⟨none, none, .st 5 (.t 2) (.t 4), []⟩])
 (.ret))⟩
theorem ck62 : chkFn Tryz.prog 62 ir62 = true := by kernel_rfl
def ir69 : AFn := ⟨28, 1, [.t 2, .t 3], .seq (.reg [] [⟨some 2, none, .mv (.k (.sl .nil 1 [])), []⟩, ⟨some 3, none, .mv (.k (.bool false)), []⟩])
 (.seq (.reg [] [⟨some 4, none, .mv (.k (.sl .nil 1 [])), []⟩])
 (.seq (.seq (.reg [] [⟨some 5, none, .mv (.k (.int .i64 0)), []⟩])
 (.block 0 (.loop [0, 4, 5] (.seq (.seq (.reg [] [⟨some 8, none, .mv (.t 5), []⟩, ⟨some 9, none, .mv (.t 0), []⟩, ⟨some 10, none, .lens (.t 9), []⟩, ⟨some 11, none, .bi .lss .i64 (.t 8) (.t 10), []⟩])
 (.cond (.t 11) (.skip) (.exit 0)))
 (.block 1 (.seq (.reg [] [⟨some 13, none, .mv (.t 0), []⟩, ⟨some 14, none, .mv (.t 5), []⟩, ⟨some 15, none, .call 115 [(.t 13), (.t 14)], []⟩, ⟨some 12, none, .mv (.t 15), []⟩, ⟨some 16, none, .ext (.t 12) 0, []⟩, ⟨some 17, none, .ext (.t 12) 1, []⟩, ⟨some 6, none, .mv (.t 16), []⟩, ⟨some 7, none, .mv (.t 17), []⟩])
 (.seq (.seq (.reg [] [⟨some 18, none, .mv (.t 7), []⟩, ⟨some 19, none, .bi .eql .i64 (.t 18) (.k (.int .i64 0)), []⟩])
 (.cond (.t 19) (.seq (.reg [] [⟨some 2, none, .mv (.k (.sl .nil 1 [])), []⟩, ⟨some 3, none, .mv (.k (.bool false)), []⟩])
 (.ret)) (.skip)))
 (.seq (.reg [] [⟨some 20, none, .mv (.t 4), []⟩, ⟨some 21, none, .mv (.t 6), []⟩, ⟨some 22, none, .bls 1 1 [.int .i64 0] [(0, (.t 21))], []⟩, ⟨some 23, none, .app 1 8 (.t 20) (.t 22), []⟩, ⟨some 4, none, .mv (.t 23), []⟩])
 (.reg [] [⟨some 24, none, .mv (.t 5), []⟩, ⟨some 25, none, .mv (.t 7), []⟩, ⟨some 26, none, .bi .add .i64 (.t 24) (.t 25), []⟩, ⟨some 5, none, .mv (.t 26), []⟩])))))))))
 (.seq (.reg [] [⟨some 27, none, .mv (.t 4), []⟩, ⟨some 2, none, .mv (.t 27), []⟩, ⟨some 3, none, .mv (.k (.bool true)), []⟩])
 (.ret))))⟩
theorem ck69 : chkFn Tryz.prog 69 ir69 = true := by kernel_rfl
def ir73 : AFn := ⟨5, 1, [.c 2 5 true], .seq (.reg [] [⟨some 2, none, .alloc [.int .i64 0, .int .i64 0, .str [], .sl .nil 5 [], .sl .nil 6 []], []⟩])
 (.seq (.reg [] [⟨some 3, none, .mv (.t 0), []⟩, ⟨some 4, none, .bld [.int .i64 0, .int .i64 0, .str [], .sl .nil 5 [], .sl .nil 6 []] [(0, 1, (.k (.int .i64 4))), (2, 1, (.t 3))], []⟩, ⟨none, none, .st 5 (.t 2) (.t 4), []⟩])
 (.ret))⟩
theorem ck73 : chkFn Tryz.prog 73 ir73 = true := by kernel_rfl
def ir83 : AFn := ⟨15, 1, [.t 2], .seq (.reg [] [⟨some 2, none, .mv (.k (.int .i64 0)), []⟩])
 (.seq (.reg [] [⟨some 6, none, .mv (.t 0), []⟩, ⟨some 7, none, .call 125 [(.t 6)], []⟩, ⟨some 5, none, .mv (.t 7), []⟩, ⟨some 8, none, .ext (.t 5) 0, []⟩, ⟨some 9, none, .ext (.t 5) 1, []⟩, ⟨some 3, none, .mv (.t 8), []⟩, ⟨some 4, none, .mv (.t 9), []⟩])
 (.seq (.seq (.reg [] [⟨some 10, none, .mv (.t 3), []⟩, ⟨some 11, none, .mv (.t 0), []⟩, ⟨some 12, none, .lens (.t 11), []⟩, ⟨some 13, none, .bi .neq .i64 (.t 10) (.t 12), []⟩])
 (.cond (.t 13) (.seq (.reg [] [⟨some 2, none, .mv (.k (.int .i64 0)), []⟩])
 (.ret)) (.skip)))
 (.seq (.reg [] [⟨some 14, none, .mv (.t 4), []⟩, ⟨some 2, none, .mv (.t 14), []⟩])
 (.ret))))⟩
theorem ck83 : chkFn Tryz.prog 83 ir83 = true := by kernel_rfl
def ir84 : AFn := ⟨41, 1, [.t 2, .t 3], .seq (.reg [] [⟨some 2, none, .mv (.k (.int .i64 0)), []⟩, ⟨some 3, none, .mv (.k (.bool false)), []⟩])
 (.seq (.reg [] [⟨some 4, none, .mv (.k (.int .i64 0)), []⟩, ⟨some 5, none, .mv (.k (.bool false)), []⟩])
 (.join [0, 4, 5] (.seq (.reg [] [⟨some 8, none, .mv (.t 0), []⟩, ⟨some 9, none, .bs .neq (.t 8) (.k (.str [])), []⟩, ⟨some 10, none, .mv (.t 9), []⟩, ⟨some 11, (some (10, true)), .mv (.t 0), []⟩, ⟨some 12, (some (10, true)), .ixs (.t 11) (.k (.int .i64 0)), []⟩, ⟨some 13, (some (10, true)), .bi .eql .u8 (.t 12) (.k (.int .u8 45)), []⟩, ⟨some 14, none, .pick (.t 10) (.t 13) (.k (.bool false)), []⟩])
 (.cond (.t 14) (.reg [] [⟨some 4, none, .mv (.k (.int .i64 1)), []⟩, ⟨some 5, none, .mv (.k (.bool true)), []⟩]) (.skip)))
 (.seq (.reg [] [⟨some 6, none, .mv (.k (.int .i64 0)), []⟩])
 (.seq (.block 0 (.loop [0, 4, 5, 6] (.seq (.seq (.reg [] [⟨some 15, none, .mv (.t 4), []⟩, ⟨some 16, none, .mv (.t 0), []⟩, ⟨some 17, none, .lens (.t 16), []⟩, ⟨some 18, none, .bi .lss .i64 (.t 15) (.t 17), []⟩])
 (.cond (.t 18) (.skip) (.exit 0)))
 (.seq (.block 1 (.seq (.reg [] [⟨some 21, none, .mv (.t 0), []⟩, ⟨some 22, none, .mv (.t 4), []⟩, ⟨some 23, none, .ixs (.t 21) (.t 22), []⟩, ⟨some 24, none, .bi .sub .u8 (.t 23) (.k (.int .u8 48)), []⟩, ⟨some 25, none, .cvi .i64 (.t 24), []⟩, ⟨some 7, none, .mv (.t 25), []⟩])
 (.seq (.seq (.reg [] [⟨some 26, none, .mv (.t 6), []⟩, ⟨some 27, none, .mv (.t 7), []⟩, ⟨some 28, none, .bi .add .i64 (.k (.int .i64 (-9223372036854775808))) (.t 27), []⟩, ⟨some 29, none, .bi .quo .i64 (.t 28) (.k (.int .i64 10)), []⟩, ⟨some 30, none, .bi .lss .i64 (.t 26) (.t 29), []⟩])
 (.cond (.t 30) (.seq (.reg [] [⟨some 2, none, .mv (.k (.int .i64 0)), []⟩, ⟨some 3, none, .mv (.k (.bool false)), []⟩])
 (.ret)) (.skip)))
 (.reg [] [⟨some 31, none, .mv (.t 6), []⟩, ⟨some 32, none, .bi .mul .i64 (.k (.int .i64 10)) (.t 31), []⟩, ⟨some 33, none, .mv (.t 7), []⟩, ⟨some 34, none, .bi .sub .i64 (.t 32) (.t 33), []⟩, ⟨some 6, none, .mv (.t 34), []⟩]))))
 (.reg [] [⟨some 19, none, .mv (.t 4), []⟩, ⟨some 20, none, .bi .add .i64 (.t 19) (.k (.int .i64 1)), []⟩, ⟨some 4, none, .mv (.t 20), []⟩])))))
 (.seq (.seq (.reg [] [⟨some 35, none, .mv (.t 5), []⟩])
 (.cond (.t 35) (.seq (.reg [] [⟨some 36, none, .mv (.t 6), []⟩, ⟨some 2, none, .mv (.t 36), []⟩, ⟨some 3, none, .mv (.k (.bool true)), []⟩])
 (.ret)) (.skip)))
 (.seq (.seq (.reg [] [⟨some 37, none, .mv (.t 6), []⟩, ⟨some 38, none, .bi .eql .i64 (.t 37) (.k (.int .i64 (-9223372036854775808))), []⟩])
 (.cond (.t 38) (.seq (.reg [] [⟨some 2, none, .mv (.k (.int .i64 0)), []⟩, ⟨some 3, none, .mv (.k (.bool false)), []⟩])
 (.ret)) (.skip)))
 (.seq (.reg [] [⟨some 39, none, .mv (.t 6), []⟩, ⟨some 40, none, .ineg (.t 39), []⟩, ⟨some 2, none, .mv (.t 40), []⟩, ⟨some 3, none, .mv (.k (.bool true)), []⟩])
 (.ret))))))))⟩
theorem ck84 : chkFn Tryz.prog 84 ir84 = true := by kernel_rfl
def ir90 : AFn := ⟨15, 1, [.t 2], .seq (.reg [] [⟨some 2, none, .mv (.k (.int .i64 0)), []⟩])
 (.seq (.reg [] [⟨some 6, none, .mv (.t 0), []⟩, ⟨some 7, none, .call 106 [(.t 6)], []⟩, ⟨some 5, none, .mv (.t 7), []⟩, ⟨some 8, none, .ext (.t 5) 0, []⟩, ⟨some 9, none, .ext (.t 5) 1, []⟩, ⟨some 3, none, .mv (.t 8), []⟩, ⟨some 4, none, .mv (.t 9), []⟩])
 (.seq (.seq (.reg [] [⟨some 10, none, .mv (.t 3), []⟩, ⟨some 11, none, .mv (.t 0), []⟩, ⟨some 12, none, .lens (.t 11), []⟩, ⟨some 13, none, .bi .neq .i64 (.t 10) (.t 12), []⟩])
 (.cond (.t 13) (.seq (.reg [] [⟨some 2, none, .mv (.k (.int .i64 0)), []⟩])
 (.ret)) (.skip)))
 (.seq (.reg [] [⟨some 14, none, .mv (.t 4), []⟩, ⟨some 2, none, .mv (.t 14), []⟩])
 (.ret))))⟩
theorem ck90 : chkFn Tryz.prog 90 ir90 = true := by kernel_rfl
def ir102 : AFn := ⟨75, 2, [.t 4, .t 5], .seq (.reg [] [⟨some 4, none, .mv (.k (.str [])), []⟩, ⟨some 5, none, .mv (.k (.int .i64 0)), []⟩])
 (.scope (.seq (.reg [] [⟨some 9, none, .bld [.sl .nil 1 [], .sl .nil 1 [], .bool false] [(2, 1, (.k (.bool true)))], []⟩, ⟨some 10, none, .box (.t 9), []⟩, ⟨some 6, none, .mv (.t 10), []⟩])
 (.seq (.reg [] [⟨some 7, none, .mv (.k (.int .i64 1)), []⟩])
 (.seq (.skip)
 (.seq (.block 0 (.loop [0, 1, 6, 7] (.block 1 (.seq (.block 2 (.seq (.reg [] [⟨some 12, none, .mv (.t 7), []⟩, ⟨some 13, none, .mv (.t 0), []⟩, ⟨some 14, none, .lens (.t 13), []⟩, ⟨some 15, none, .bi .geq .i64 (.t 12) (.t 14), []⟩, ⟨some 11, none, .mv (.t 15), []⟩])
 (.cond (.t 11) (.seq (.reg [] [⟨some 4, none, .mv (.k (.str [])), []⟩, ⟨some 5, none, .mv (.k (.int .i64 0)), []⟩])
 (.ret)) (.seq (.reg [] [⟨some 17, none, .mv (.t 0), []⟩, ⟨some 18, none, .mv (.t 7), []⟩, ⟨some 19, none, .ixs (.t 17) (.t 18), []⟩, ⟨some 20, none, .bi .eql .u8 (.t 19) (.k (.int .u8 34)), []⟩, ⟨some 16, none, .mv (.t 20), []⟩])
 (.cond (.t 16) (.exit 0) (.seq (.reg [] [⟨some 22, none, .mv (.t 0), []⟩, ⟨some 23, none, .mv (.t 7), []⟩, ⟨some 24, none, .ixs (.t 22) (.t 23), []⟩, ⟨some 25, none, .bi .eql .u8 (.t 24) (.k (.int .u8 92)), []⟩, ⟨some 21, none, .mv (.t 25), []⟩])
 (.cond (.t 21) (.seq (.reg [] [⟨some 26, none, .mv (.t 6), []⟩, ⟨some 27, none, .mv (.t 0), []⟩, ⟨some 28, none, .mv (.t 7), []⟩, ⟨some 29, none, .bi .add .i64 (.t 28) (.k (.int .i64 1)), []⟩, ⟨some 30, none, .sls (.t 27) (some (.t 29)) none, []⟩, ⟨some 31, none, .call 139 [(.t 26), (.t 30)], []⟩, ⟨some 8, none, .mv (.t 31), []⟩])
 (.seq (.seq (.reg [] [⟨some 32, none, .mv (.t 8), []⟩, ⟨some 33, none, .bi .eql .i64 (.t 32) (.k (.int .i64 0)), []⟩])
 (.cond (.t 33) (.seq (.reg [] [⟨some 4, none, .mv (.k (.str [])), []⟩, ⟨some 5, none, .mv (.k (.int .i64 0)), []⟩])
 (.ret)) (.skip)))
 (.seq (.reg [] [⟨some 34, none, .mv (.t 7), []⟩, ⟨some 35, none, .mv (.t 8), []⟩, ⟨some 36, none, .bi .add .i64 (.k (.int .i64 1)) (.t 35), []⟩, ⟨some 37, none, .bi .add .i64 (.t 34) (.t 36), []⟩, ⟨some 7, none, .mv (.t 37), []⟩])
 (.exit 1)))) (.seq (.reg [] [⟨some 39, none, .mv (.t 1), []⟩, ⟨some 40, none, .mv (.t 0), []⟩, ⟨some 41, none, .mv (.t 7), []⟩, ⟨some 42, none, .ixs (.t 40) (.t 41), []⟩, ⟨some 43, none, .callv (.t 39) [(.t 42)], []⟩, ⟨some 44, none, .not (.t 43), []⟩, ⟨some 38, none, .mv (.t 44), []⟩])
 (.cond (.t 38) (.seq (.reg [] [⟨some 4, none, .mv (.k (.str [])), []⟩, ⟨some 5, none, .mv (.k (.int .i64 0)), []⟩])
 (.ret)) (.skip))))))))))
 (.seq (.reg [] [⟨some 45, none, .mv (.t 6), []⟩, ⟨some 46, none, .call 140 [(.t 45)], []⟩])
 (.seq (.reg [0, 1, 2, 3, 4, 5, 6, 7, 8, 9, 10, 11, 12] [⟨some 47, none, .mv (.t 6), []⟩, ⟨some 48, none, .mv (.t 6), []⟩, ⟨some 49, none, .nilchk (.t 48), []⟩, ⟨some 50, none, .fa 0 (.t 49), []⟩, ⟨some 51, none, .ld 1 false (.t 50), []⟩, ⟨some 52, none, .mv (.t 0), []⟩, ⟨some 53, none, .mv (.t 7), []⟩, ⟨some 54, none, .ixs (.t 52) (.t 53), []⟩, ⟨some 55, none, .bls 1 1 [.int .u8 0] [(0, (.t 54))], []⟩, ⟨some 56, none, .app 1 1 (.t 51) (.t 55), []⟩, ⟨some 57, none, .nilchk (.t 47), []⟩, ⟨some 58, none, .fa 0 (.t 57), []⟩, ⟨none, none, .st 1 (.t 58) (.t 56), []⟩])
 (.reg [] [⟨some 59, none, .mv (.t 7), []⟩, ⟨some 60, none, .bi .add .i64 (.t 59) (.k (.int .i64 1)), []⟩, ⟨some 7, none, .mv (.t 60), []⟩])))))))
 (.seq (.reg [] [⟨some 61, none, .mv (.t 6), []⟩, ⟨some 62, none, .call 140 [(.t 61)], []⟩])
 (.seq (.seq (.reg [] [⟨some 63, none, .mv (.t 6), []⟩, ⟨some 64, none, .nilchk (.t 63), []⟩, ⟨some 65, none, .fa 2 (.t 64), []⟩, ⟨some 66, none, .ld 1 false (.t 65), []⟩, ⟨some 67, none, .not (.t 66), []⟩])
 (.cond (.t 67) (.seq (.reg [] [⟨some 4, none, .mv (.k (.str [])), []⟩, ⟨some 5, none, .mv (.k (.int .i64 0)), []⟩])
 (.ret)) (.skip)))
 (.seq (.reg [] [⟨some 68, none, .mv (.t 6), []⟩, ⟨some 69, none, .nilchk (.t 68), []⟩, ⟨some 70, none, .fa 0 (.t 69), []⟩, ⟨some 71, none, .ld 1 false (.t 70), []⟩, ⟨some 72, none, .cvb2s (.t 71), []⟩, ⟨some 73, none, .mv (.t 7), []⟩, ⟨some 74, none, .bi .add .i64 (.t 73) (.k (.int .i64 1)), []⟩, ⟨some 4, none, .mv (.t 72), []⟩, ⟨some 5, none, .mv (.t 74), []⟩])
 (.ret)))))))))⟩
theorem ck102 : chkFn Tryz.prog 102 ir102 = true := by kernel_rfl
def ir106 : AFn := ⟨38, 1, [.t 2, .t 3], .seq (.reg [] [⟨some 2, none, .mv (.k (.int .i64 0)), []⟩, ⟨some 3, none, .mv (.k (.int .i64 0)), []⟩])
 (.seq (.reg [] [⟨some 8, none, .mv (.t 0), []⟩, ⟨some 9, none, .call 141 [(.t 8)], []⟩, ⟨some 4, none, .mv (.t 9), []⟩])
 (.seq (.seq (.reg [] [⟨some 10, none, .mv (.t 4), []⟩, ⟨some 11, none, .bi .eql .i64 (.t 10) (.k (.int .i64 0)), []⟩])
 (.cond (.t 11) (.seq (.reg [] [⟨some 2, none, .mv (.k (.int .i64 0)), []⟩, ⟨some 3, none, .mv (.k (.int .i64 0)), []⟩])
 (.ret)) (.skip)))
 (.seq (.reg [] [⟨some 5, none, .mv (.k (.int .i64 3)), []⟩])
 (.seq (.seq (.reg [] [⟨some 12, none, .mv (.t 0), []⟩, ⟨some 13, none, .mv (.t 4), []⟩, ⟨some 14, none, .sls (.t 12) (some (.t 13)) none, []⟩, ⟨some 15, none, .call 99 [(.t 14), (.k (.str [46]))], []⟩])
 (.cond (.t 15) (.seq (.reg [] [⟨some 16, none, .mv (.t 0), []⟩, ⟨some 17, none, .mv (.t 4), []⟩, ⟨some 18, none, .bi .add .i64 (.t 17) (.k (.int .i64 1)), []⟩, ⟨some 19, none, .sls (.t 16) (some (.t 18)) none, []⟩, ⟨some 20, none, .call 142 [(.t 19)], []⟩, ⟨some 6, none, .mv (.t 20), []⟩])
 (.seq (.reg [] [⟨some 21, none, .mv (.t 6), []⟩, ⟨some 22, none, .bi .gtr .i64 (.t 21) (.k (.int .i64 0)), []⟩])
 (.cond (.t 22) (.reg [] [⟨some 23, none, .mv (.t 4), []⟩, ⟨some 24, none, .bi .add .i64 (.t 23) (.k (.int .i64 1)), []⟩, ⟨some 25, none, .mv (.t 6), []⟩, ⟨some 26, none, .bi .add .i64 (.t 24) (.t 25), []⟩, ⟨some 4, none, .mv (.t 26), []⟩, ⟨some 5, none, .mv (.k (.int .i64 4)), []⟩]) (.skip)))) (.skip)))
 (.seq (.seq (.reg [] [⟨some 27, none, .mv (.t 0), []⟩, ⟨some 28, none, .mv (.t 4), []⟩, ⟨some 29, none, .sls (.t 27) (some (.t 28)) none, []⟩, ⟨some 30, none, .call 143 [(.t 29)], []⟩, ⟨some 7, none, .mv (.t 30), []⟩])
 (.seq (.reg [] [⟨some 31, none, .mv (.t 7), []⟩, ⟨some 32, none, .bi .gtr .i64 (.t 31) (.k (.int .i64 0)), []⟩])
 (.cond (.t 32) (.reg [] [⟨some 33, none, .mv (.t 4), []⟩, ⟨some 34, none, .mv (.t 7), []⟩, ⟨some 35, none, .bi .add .i64 (.t 33) (.t 34), []⟩, ⟨some 4, none, .mv (.t 35), []⟩, ⟨some 5, none, .mv (.k (.int .i64 4)), []⟩]) (.skip))))
 (.seq (.reg [] [⟨some 36, none, .mv (.t 4), []⟩, ⟨some 37, none, .mv (.t 5), []⟩, ⟨some 2, none, .mv (.t 36), []⟩, ⟨some 3, none, .mv (.t 37), []⟩])
 (.ret)))))))⟩
theorem ck106 : chkFn Tryz.prog 106 ir106 = true := by kernel_rfl
def ir107 : AFn := ⟨9, 1, [.t 2], .seq (.reg [] [⟨some 2, none, .mv (.k (.bool false)), []⟩])
 (.seq (.reg [] [⟨some 3, none, .mv (.t 0), []⟩, ⟨some 4, none, .bi .geq .u8 (.t 3) (.k (.int .u8 48)), []⟩, ⟨some 5, none, .mv (.t 4), []⟩, ⟨some 6, (some (5, true)), .mv (.t 0), []⟩, ⟨some 7, (some (5, true)), .bi .leq .u8 (.t 6) (.k (.int .u8 57)), []⟩, ⟨some 8, none, .pick (.t 5) (.t 7) (.k (.bool false)), []⟩, ⟨some 2, none, .mv (.t 8), []⟩])
 (.ret))⟩
theorem ck107 : chkFn Tryz.prog 107 ir107 = true := by kernel_rfl
def ir112 : AFn := ⟨19, 1, [.t 2, .t 3], .seq (.reg [] [⟨some 2, none, .mv (.k (.int .i64 0)), []⟩, ⟨some 3, none, .mv (.k (.bool false)), []⟩])
 (.seq (.reg [] [⟨some 7, none, .mv (.t 0), []⟩, ⟨some 8, none, .call 145 [(.t 7), (.k (.int .i64 10)), (.k (.int .i64 64))], []⟩, ⟨some 6, none, .mv (.t 8), []⟩, ⟨some 9, none, .ext (.t 6) 0, []⟩, ⟨some 10, none, .ext (.t 6) 1, []⟩, ⟨some 4, none, .mv (.t 9), []⟩, ⟨some 5, none, .mv (.t 10), []⟩])
 (.seq (.reg [] [⟨some 11, none, .mv (.t 4), []⟩, ⟨some 12, none, .mv (.t 5), []⟩, ⟨some 13, none, .ifnil false (.t 12), []⟩, ⟨some 14, none, .mv (.t 13), []⟩, ⟨some 15, (some (14, true)), .mv (.t 0), []⟩, ⟨some 16, (some (14, true)), .call 90 [(.t 15)], []⟩, ⟨some 17, (some (14, true)), .bi .eql .i64 (.t 16) (.k (.int .i64 3)), []⟩, ⟨some 18, none, .pick (.t 14) (.t 17) (.k (.bool false)), []⟩, ⟨some 2, none, .mv (.t 11), []⟩, ⟨some 3, none, .mv (.t 18), []⟩])
 (.ret)))⟩
theorem ck112 : chkFn Tryz.prog 112 ir112 = true := by kernel_rfl
def ir113 : AFn := ⟨5, 1, [.c 2 5 true], .seq (.reg [] [⟨some 2, none, .alloc [.int .i64 0, .int .i64 0, .str [], .sl .nil 5 [], .sl .nil 6 []], []⟩])
 (.seq (.reg [] [⟨some 3, none, .mv (.t 0), []⟩, ⟨some 4, none, .bld [.int .i64 0, .int .i64 0, .str [], .sl .nil 5 [], .sl .nil 6 []] [(0, 1, (.k (.int .i64 2))), (1, 1, (.t 3))], []⟩, ⟨none, none, .st 5 (.t 2) (.t 4), []⟩])
 (.ret))⟩
theorem ck113 : chkFn Tryz.prog 113 ir113 = true := by kernel_rfl
def ir115 : AFn := ⟨98, 2, [.t 4, .t 5], .seq (.reg [] [⟨some 4, none, .mv (.k (.int .i64 0)), []⟩, ⟨some 5, none, .mv (.k (.int .i64 0)), []⟩])
 (.seq (.seq (.reg [] [⟨some 11, none, .mv (.t 1), []⟩, ⟨some 12, none, .bi .lss .i64 (.t 11) (.k (.int .i64 0)), []⟩, ⟨some 13, none, .mv (.t 12), []⟩, ⟨some 14, (some (13, false)), .mv (.t 1), []⟩, ⟨some 15, (some (13, false)), .mv (.t 0), []⟩, ⟨some 16, (some (13, false)), .lens (.t 15), []⟩, ⟨some 17, (some (13, false)), .bi .geq .i64 (.t 14) (.t 16), []⟩, ⟨some 18, none, .pick (.t 13) (.k (.bool true)) (.t 17), []⟩])
 (.cond (.t 18) (.seq (.reg [] [⟨some 4, none, .mv (.k (.int .i64 0)), []⟩, ⟨some 5, none, .mv (.k (.int .i64 0)), []⟩])
 (.ret)) (.skip)))
 (.seq (.reg [] [⟨some 19, none, .mv (.t 0), []⟩, ⟨some 20, none, .mv (.t 1), []⟩, ⟨some 21, none, .ixs (.t 19) (.t 20), []⟩, ⟨some 22, none, .cvi .i64 (.t 21), []⟩, ⟨some 6, none, .mv (.t 22), []⟩])
 (.seq (.seq (.reg [] [⟨some 23, none, .mv (.t 6), []⟩, ⟨some 24, none, .bi .lss .i64 (.t 23) (.k (.int .i64 128)), []⟩])
 (.cond (.t 24) (.seq (.reg [] [⟨some 25, none, .mv (.t 6), []⟩, ⟨some 4, none, .mv (.t 25), []⟩, ⟨some 5, none, .mv (.k (.int .i64 1)), []⟩])
 (.ret)) (.skip)))
 (.seq (.reg [] [⟨some 7, none, .mv (.k (.int .i64 0)), []⟩, ⟨some 8, none, .mv (.k (.int .i64 0)), []⟩])
 (.join [0, 1, 6, 7, 8] (.block 0 (.seq (.reg [] [⟨some 27, none, .mv (.t 6), []⟩, ⟨some 28, none, .bi .geq .i64 (.t 27) (.k (.int .i64 194)), []⟩, ⟨some 29, none, .mv (.t 28), []⟩, ⟨some 30, (some (29, true)), .mv (.t 6), []⟩, ⟨some 31, (some (29, true)), .bi .lss .i64 (.t 30) (.k (.int .i64 224)), []⟩, ⟨some 32, none, .pick (.t 29) (.t 31) (.k (.bool false)), []⟩, ⟨some 26, none, .mv (.t 32), []⟩])
 (.cond (.t 26) (.reg [] [⟨some 33, none, .mv (.t 6), []⟩, ⟨some 34, none, .bi .and .i64 (.t 33) (.k (.int .i64 31)), []⟩, ⟨some 7, none, .mv (.k (.int .i64 2)), []⟩, ⟨some 8, none, .mv (.k (.int .i64 128)), []⟩, ⟨some 6, none, .mv (.t 34), []⟩]) (.seq (.reg [] [⟨some 36, none, .mv (.t 6), []⟩, ⟨some 37, none, .bi .geq .i64 (.t 36) (.k (.int .i64 224)), []⟩, ⟨some 38, none, .mv (.t 37), []⟩, ⟨some 39, (some (38, true)), .mv (.t 6), []⟩, ⟨some 40, (some (38, true)), .bi .lss .i64 (.t 39) (.k (.int .i64 240)), []⟩, ⟨some 41, none, .pick (.t 38) (.t 40) (.k (.bool false)), []⟩, ⟨some 35, none, .mv (.t 41), []⟩])
 (.cond (.t 35) (.reg [] [⟨some 42, none, .mv (.t 6), []⟩, ⟨some 43, none, .bi .and .i64 (.t 42) (.k (.int .i64 15)), []⟩, ⟨some 7, none, .mv (.k (.int .i64 3)), []⟩, ⟨some 8, none, .mv (.k (.int .i64 2048)), []⟩, ⟨some 6, none, .mv (.t 43), []⟩]) (.seq (.reg [] [⟨some 45, none, .mv (.t 6), []⟩, ⟨some 46, none, .bi .geq .i64 (.t 45) (.k (.int .i64 240)), []⟩, ⟨some 47, none, .mv (.t 46), []⟩, ⟨some 48, (some (47, true)), .mv (.t 6), []⟩, ⟨some 49, (some (47, true)), .bi .lss .i64 (.t 48) (.k (.int .i64 245)), []⟩, ⟨some 50, none, .pick (.t 47) (.t 49) (.k (.bool false)), []⟩, ⟨some 44, none, .mv (.t 50), []⟩])
 (.cond (.t 44) (.reg [] [⟨some 51, none, .mv (.t 6), []⟩, ⟨some 52, none, .bi .and .i64 (.t 51) (.k (.int .i64 7)), []⟩, ⟨some 7, none, .mv (.k (.int .i64 4)), []⟩, ⟨some 8, none, .mv (.k (.int .i64 65536)), []⟩, ⟨some 6, none, .mv (.t 52), []⟩]) (.seq (.reg [] [⟨some 4, none, .mv (.k (.int .i64 0)), []⟩, ⟨some 5, none, .mv (.k (.int .i64 0)), []⟩])
 (.ret)))))))))
 (.seq (.seq (.reg [] [⟨some 53, none, .mv (.t 7), []⟩, ⟨some 54, none, .mv (.t 0), []⟩, ⟨some 55, none, .lens (.t 54), []⟩, ⟨some 56, none, .mv (.t 1), []⟩, ⟨some 57, none, .bi .sub .i64 (.t 55) (.t 56), []⟩, ⟨some 58, none, .bi .gtr .i64 (.t 53) (.t 57), []⟩])
 (.cond (.t 58) (.seq (.reg [] [⟨some 4, none, .mv (.k (.int .i64 0)), []⟩, ⟨some 5, none, .mv (.k (.int .i64 0)), []⟩])
 (.ret)) (.skip)))
 (.seq (.seq (.reg [] [⟨some 9, none, .mv (.k (.int .i64 1)), []⟩])
 (.block 1 (.loop [0, 1, 6, 7, 8, 9] (.seq (.seq (.reg [] [⟨some 59, none, .mv (.t 9), []⟩, ⟨some 60, none, .mv (.t 7), []⟩, ⟨some 61, none, .bi .lss .i64 (.t 59) (.t 60), []⟩])
 (.cond (.t 61) (.skip) (.exit 1)))
 (.seq (.block 2 (.seq (.reg [] [⟨some 64, none, .mv (.t 0), []⟩, ⟨some 65, none, .mv (.t 1), []⟩, ⟨some 66, none, .mv (.t 9), []⟩, ⟨some 67, none, .bi .add .i64 (.t 65) (.t 66), []⟩, ⟨some 68, none, .ixs (.t 64) (.t 67), []⟩, ⟨some 69, none, .cvi .i64 (.t 68), []⟩, ⟨some 10, none, .mv (.t 69), []⟩])
 (.seq (.seq (.reg [] [⟨some 70, none, .mv (.t 10), []⟩, ⟨some 71, none, .bi .lss .i64 (.t 70) (.k (.int .i64 128)), []⟩, ⟨some 72, none, .mv (.t 71), []⟩, ⟨some 73, (some (72, false)), .mv (.t 10), []⟩, ⟨some 74, (some (72, false)), .bi .gtr .i64 (.t 73) (.k (.int .i64 191)), []⟩, ⟨some 75, none, .pick (.t 72) (.k (.bool true)) (.t 74), []⟩])
 (.cond (.t 75) (.seq (.reg [] [⟨some 4, none, .mv (.k (.int .i64 0)), []⟩, ⟨some 5, none, .mv (.k (.int .i64 0)), []⟩])
 (.ret)) (.skip)))
 (.reg [] [⟨some 76, none, .mv (.t 6), []⟩, ⟨some 77, none, .shf .shl (.t 76) (.k (.int .u64 6)), []⟩, ⟨some 78, none, .mv (.t 10), []⟩, ⟨some 79, none, .bi .and .i64 (.t 78) (.k (.int .i64 63)), []⟩, ⟨some 80, none, .bi .or .i64 (.t 77) (.t 79), []⟩, ⟨some 6, none, .mv (.t 80), []⟩]))))
 (.reg [] [⟨some 62, none, .mv (.t 9), []⟩, ⟨some 63, none, .bi .add .i64 (.t 62) (.k (.int .i64 1)), []⟩, ⟨some 9, none, .mv (.t 63), []⟩]))))))
 (.seq (.seq (.reg [] [⟨some 81, none, .mv (.t 6), []⟩, ⟨some 82, none, .mv (.t 8), []⟩, ⟨some 83, none, .bi .lss .i64 (.t 81) (.t 82), []⟩, ⟨some 84, none, .mv (.t 83), []⟩, ⟨some 85, (some (84, false)), .mv (.t 6), []⟩, ⟨some 86, (some (84, false)), .bi .gtr .i64 (.t 85) (.k (.int .i64 1114111)), []⟩, ⟨some 87, none, .pick (.t 84) (.k (.bool true)) (.t 86), []⟩, ⟨some 88, none, .mv (.t 87), []⟩, ⟨some 89, (some (88, false)), .mv (.t 6), []⟩, ⟨some 90, (some (88, false)), .bi .geq .i64 (.t 89) (.k (.int .i64 55296)), []⟩, ⟨some 91, (some (88, false)), .mv (.t 90), []⟩, ⟨some 92, (some (91, true)), .mv (.t 6), []⟩, ⟨some 93, (some (91, true)), .bi .lss .i64 (.t 92) (.k (.int .i64 57344)), []⟩, ⟨some 94, (some (88, false)), .pick (.t 91) (.t 93) (.k (.bool false)), []⟩, ⟨some 95, none, .pick (.t 88) (.k (.bool true)) (.t 94), []⟩])
 (.cond (.t 95) (.seq (.reg [] [⟨some 4, none, .mv (.k (.int .i64 0)), []⟩, ⟨some 5, none, .mv (.k (.int .i64 0)), []⟩])
 (.ret)) (.skip)))
 (.seq (.reg [] [⟨some 96, none, .mv (.t 6), []⟩, ⟨some 97, none, .mv (.t 7), []⟩, ⟨some 4, none, .mv (.t 96), []⟩, ⟨some 5, none, .mv (.t 97), []⟩])
 (.ret))))))))))⟩
theorem ck115 : chkFn Tryz.prog 115 ir115 = true := by kernel_rfl
def ir116 : AFn := ⟨5, 1, [.c 2 5 true], .seq (.reg [] [⟨some 2, none, .alloc [.int .i64 0, .int .i64 0, .str [], .sl .nil 5 [], .sl .nil 6 []], []⟩])
 (.seq (.reg [] [⟨some 3, none, .mv (.t 0), []⟩, ⟨some 4, none, .bld [.int .i64 0, .int .i64 0, .str [], .sl .nil 5 [], .sl .nil 6 []] [(0, 1, (.k (.int .i64 2))), (1, 1, (.t 3))], []⟩, ⟨none, none, .st 5 (.t 2) (.t 4), []⟩])
 (.ret))⟩
theorem ck116 : chkFn Tryz.prog 116 ir116 = true := by kernel_rfl
def ir118 : AFn := ⟨114, 2, [.t 4, .t 5, .t 6], .seq (.reg [] [⟨some 4, none, .mv (.k (.str [])), []⟩, ⟨some 5, none, .mv (.k (.int .i64 0)), []⟩, ⟨some 6, none, .mv (.k (.bool false)), []⟩])
 (.seq (.reg [] [⟨some 7, none, .mv (.k (.str [])), []⟩])
 (.seq (.reg [] [⟨some 8, none, .mv (.k (.sl .nil 1 [])), []⟩])
 (.block 0 (.loop [0, 1, 7, 8] (.block 1 (.seq (.seq (.reg [] [⟨some 15, none, .mv (.t 1), []⟩, ⟨some 16, none, .mv (.t 0), []⟩, ⟨some 17, none, .lens (.t 16), []⟩, ⟨some 18, none, .bi .geq .i64 (.t 15) (.t 17), []⟩])
 (.cond (.t 18) (.seq (.reg [] [⟨some 4, none, .mv (.k (.str [])), []⟩, ⟨some 5, none, .mv (.k (.int .i64 0)), []⟩, ⟨some 6, none, .mv (.k (.bool false)), []⟩])
 (.ret)) (.skip)))
 (.seq (.seq (.reg [] [⟨some 19, none, .mv (.t 0), []⟩, ⟨some 20, none, .mv (.t 1), []⟩, ⟨some 21, none, .ixs (.t 19) (.t 20), []⟩, ⟨some 22, none, .bi .eql .u8 (.t 21) (.k (.int .u8 92)), []⟩, ⟨some 23, none, .mv (.t 22), []⟩, ⟨some 24, (some (23, true)), .mv (.t 1), []⟩, ⟨some 25, (some (23, true)), .bi .add .i64 (.t 24) (.k (.int .i64 1)), []⟩, ⟨some 26, (some (23, true)), .mv (.t 0), []⟩, ⟨some 27, (some (23, true)), .lens (.t 26), []⟩, ⟨some 28, (some (23, true)), .bi .lss .i64 (.t 25) (.t 27), []⟩, ⟨some 29, none, .pick (.t 23) (.t 28) (.k (.bool false)), []⟩, ⟨some 30, none, .mv (.t 29), []⟩, ⟨some 31, (some (30, true)), .mv (.t 0), []⟩, ⟨some 32, (some (30, true)), .mv (.t 1), []⟩, ⟨some 33, (some (30, true)), .bi .add .i64 (.t 32) (.k (.int .i64 1)), []⟩, ⟨some 34, (some (30, true)), .ixs (.t 31) (.t 33), []⟩, ⟨some 35, (some (30, true)), .bi .eql .u8 (.t 34) (.k (.int .u8 117)), []⟩, ⟨some 36, none, .pick (.t 30) (.t 35) (.k (.bool false)), []⟩])
 (.cond (.t 36) (.seq (.reg [] [⟨some 37, none, .mv (.t 0), []⟩, ⟨some 38, none, .mv (.t 1), []⟩, ⟨some 39, none, .bi .add .i64 (.t 38) (.k (.int .i64 2)), []⟩, ⟨some 40, none, .call 147 [(.t 37), (.t 39)], []⟩, ⟨some 9, none, .mv (.t 40), []⟩])
 (.seq (.seq (.reg [] [⟨some 41, none, .mv (.t 9), []⟩, ⟨some 42, none, .bi .lss .i64 (.t 41) (.k (.int .i64 0)), []⟩])
 (.cond (.t 42) (.seq (.reg [] [⟨some 4, none, .mv (.k (.str [])), []⟩, ⟨some 5, none, .mv (.k (.int .i64 0)), []⟩, ⟨some 6, none, .mv (.k (.bool false)), []⟩])
 (.ret)) (.skip)))
 (.seq (.reg [] [⟨some 43, none, .mv (.t 8), []⟩, ⟨some 44, none, .mv (.t 9), []⟩, ⟨some 45, none, .bls 1 1 [.int .i64 0] [(0, (.t 44))], []⟩, ⟨some 46, none, .app 1 8 (.t 43) (.t 45), []⟩, ⟨some 47, none, .mv (.t 1), []⟩, ⟨some 48, none, .bi .add .i64 (.t 47) (.k (.int .i64 6)), []⟩, ⟨some 8, none, .mv (.t 46), []⟩, ⟨some 1, none, .mv (.t 48), []⟩])
 (.exit 1)))) (.skip)))
 (.seq (.reg [] [⟨some 50, none, .mv (.t 8), []⟩, ⟨some 51, none, .call 148 [(.t 50)], []⟩, ⟨some 49, none, .mv (.t 51), []⟩, ⟨some 52, none, .ext (.t 49) 0, []⟩, ⟨some 53, none, .ext (.t 49) 1, []⟩, ⟨some 10, none, .mv (.t 52), []⟩, ⟨some 11, none, .mv (.t 53), []⟩])
 (.seq (.seq (.reg [] [⟨some 54, none, .mv (.t 11), []⟩, ⟨some 55, none, .not (.t 54), []⟩])
 (.cond (.t 55) (.seq (.reg [] [⟨some 4, none, .mv (.k (.str [])), []⟩, ⟨some 5, none, .mv (.k (.int .i64 0)), []⟩, ⟨some 6, none, .mv (.k (.bool false)), []⟩])
 (.ret)) (.skip)))
 (.seq (.reg [] [⟨some 56, none, .mv (.t 7), []⟩, ⟨some 57, none, .mv (.t 10), []⟩, ⟨some 58, none, .bs .add (.t 56) (.t 57), []⟩, ⟨some 7, none, .mv (.t 58), []⟩, ⟨some 8, none, .mv (.k (.sl .nil 1 [])), []⟩])
 (.seq (.seq (.reg [] [⟨some 59, none, .mv (.t 0), []⟩, ⟨some 60, none, .mv (.t 1), []⟩, ⟨some 61, none, .ixs (.t 59) (.t 60), []⟩, ⟨some 62, none, .bi .eql .u8 (.t 61) (.k (.int .u8 34)), []⟩])
 (.cond (.t 62) (.seq (.reg [] [⟨some 63, none, .mv (.t 7), []⟩, ⟨some 64, none, .mv (.t 1), []⟩, ⟨some 65, none, .bi .add .i64 (.t 64) (.k (.int .i64 1)), []⟩, ⟨some 4, none, .mv (.t 63), []⟩, ⟨some 5, none, .mv (.t 65), []⟩, ⟨some 6, none, .mv (.k (.bool true)), []⟩])
 (.ret)) (.skip)))
 (.seq (.seq (.reg [] [⟨some 66, none, .mv (.t 0), []⟩, ⟨some 67, none, .mv (.t 1), []⟩, ⟨some 68, none, .ixs (.t 66) (.t 67), []⟩, ⟨some 69, none, .bi .eql .u8 (.t 68) (.k (.int .u8 10)), []⟩, ⟨some 70, none, .mv (.t 69), []⟩, ⟨some 71, (some (70, false)), .mv (.t 0), []⟩, ⟨some 72, (some (70, false)), .mv (.t 1), []⟩, ⟨some 73, (some (70, false)), .ixs (.t 71) (.t 72), []⟩, ⟨some 74, (some (70, false)), .bi .eql .u8 (.t 73) (.k (.int .u8 13)), []⟩, ⟨some 75, none, .pick (.t 70) (.k (.bool true)) (.t 74), []⟩])
 (.cond (.t 75) (.seq (.reg [] [⟨some 4, none, .mv (.k (.str [])), []⟩, ⟨some 5, none, .mv (.k (.int .i64 0)), []⟩, ⟨some 6, none, .mv (.k (.bool false)), []⟩])
 (.ret)) (.skip)))
 (.seq (.seq (.reg [] [⟨some 76, none, .mv (.t 0), []⟩, ⟨some 77, none, .mv (.t 1), []⟩, ⟨some 78, none, .ixs (.t 76) (.t 77), []⟩, ⟨some 79, none, .bi .neq .u8 (.t 78) (.k (.int .u8 92)), []⟩])
 (.cond (.t 79) (.seq (.reg [] [⟨some 81, none, .mv (.t 0), []⟩, ⟨some 82, none, .mv (.t 1), []⟩, ⟨some 83, none, .call 115 [(.t 81), (.t 82)], []⟩, ⟨some 80, none, .mv (.t 83), []⟩, ⟨some 84, none, .ext (.t 80) 0, []⟩, ⟨some 85, none, .ext (.t 80) 1, []⟩, ⟨some 12, none, .mv (.t 84), []⟩, ⟨some 13, none, .mv (.t 85), []⟩])
 (.seq (.reg [] [⟨some 86, none, .mv (.t 7), []⟩, ⟨some 87, none, .mv (.t 12), []⟩, ⟨some 88, none, .call 149 [(.t 87)], []⟩, ⟨some 89, none, .bs .add (.t 86) (.t 88), []⟩, ⟨some 90, none, .mv (.t 1), []⟩, ⟨some 91, none, .mv (.t 13), []⟩, ⟨some 92, none, .mm true (.t 91) [(.k (.int .i64 1))], []⟩, ⟨some 93, none, .bi .add .i64 (.t 90) (.t 92), []⟩, ⟨some 7, none, .mv (.t 89), []⟩, ⟨some 1, none, .mv (.t 93), []⟩])
 (.exit 1))) (.skip)))
 (.seq (.seq (.reg [] [⟨some 94, none, .mv (.t 1), []⟩, ⟨some 95, none, .bi .add .i64 (.t 94) (.k (.int .i64 1)), []⟩, ⟨some 96, none, .mv (.t 0), []⟩, ⟨some 97, none, .lens (.t 96), []⟩, ⟨some 98, none, .bi .geq .i64 (.t 95) (.t 97), []⟩])
 (.cond (.t 98) (.seq (.reg [] [⟨some 4, none, .mv (.k (.str [])), []⟩, ⟨some 5, none, .mv (.k (.int .i64 0)), []⟩, ⟨some 6, none, .mv (.k (.bool false)), []⟩])
 (.ret)) (.skip)))
 (.seq (.reg [] [⟨some 99, none, .mv (.t 0), []⟩, ⟨some 100, none, .mv (.t 1), []⟩, ⟨some 101, none, .bi .add .i64 (.t 100) (.k (.int .i64 1)), []⟩, ⟨some 102, none, .ixs (.t 99) (.t 101), []⟩, ⟨some 103, none, .call 150 [(.k (.str [34, 92, 47, 98, 102, 110, 114, 116])), (.t 102)], []⟩, ⟨some 14, none, .mv (.t 103), []⟩])
 (.seq (.seq (.reg [] [⟨some 104, none, .mv (.t 14), []⟩, ⟨some 105, none, .bi .lss .i64 (.t 104) (.k (.int .i64 0)), []⟩])
 (.cond (.t 105) (.seq (.reg [] [⟨some 4, none, .mv (.k (.str [])), []⟩, ⟨some 5, none, .mv (.k (.int .i64 0)), []⟩, ⟨some 6, none, .mv (.k (.bool false)), []⟩])
 (.ret)) (.skip)))
 (.reg [] [⟨some 106, none, .mv (.t 7), []⟩, ⟨some 107, none, .mv (.t 14), []⟩, ⟨some 108, none, .ixs (.k (.str [34, 92, 47, 8, 12, 10, 13, 9])) (.t 107), []⟩, ⟨some 109, none, .bls 1 1 [.int .u8 0] [(0, (.t 108))], []⟩, ⟨some 110, none, .cvb2s (.t 109), []⟩, ⟨some 111, none, .bs .add (.t 106) (.t 110), []⟩, ⟨some 112, none, .mv (.t 1), []⟩, ⟨some 113, none, .bi .add .i64 (.t 112) (.k (.int .i64 2)), []⟩, ⟨some 7, none, .mv (.t 111), []⟩, ⟨some 1, none, .mv (.t 113), []⟩])))))))))))))))))⟩
theorem ck118 : chkFn Tryz.prog 118 ir118 = true := by kernel_rfl
def ir125 : AFn := ⟨103, 1, [.t 2, .t 3], .seq (.reg [] [⟨some 2, none, .mv (.k (.int .i64 0)), []⟩, ⟨some 3, none, .mv (.k (.int .i64 0)), []⟩])
 (.seq (.reg [] [⟨some 4, none, .mv (.k (.int .i64 0)), []⟩])
 (.join [0, 4] (.seq (.reg [] [⟨some 8, none, .mv (.t 4), []⟩, ⟨some 9, none, .mv (.t 0), []⟩, ⟨some 10, none, .lens (.t 9), []⟩, ⟨some 11, none, .bi .lss .i64 (.t 8) (.t 10), []⟩, ⟨some 12, none, .mv (.t 11), []⟩, ⟨some 13, (some (12, true)), .mv (.t 0), []⟩, ⟨some 14, (some (12, true)), .mv (.t 4), []⟩, ⟨some 15, (some (12, true)), .ixs (.t 13) (.t 14), []⟩, ⟨some 16, (some (12, true)), .bi .eql .u8 (.t 15) (.k (.int .u8 45)), []⟩, ⟨some 17, none, .pick (.t 12) (.t 16) (.k (.bool false)), []⟩])
 (.cond (.t 17) (.reg [] [⟨some 18, none, .mv (.t 4), []⟩, ⟨some 19, none, .bi .add .i64 (.t 18) (.k (.int .i64 1)), []⟩, ⟨some 4, none, .mv (.t 19), []⟩]) (.skip)))
 (.seq (.reg [] [⟨some 20, none, .mv (.t 0), []⟩, ⟨some 21, none, .mv (.t 4), []⟩, ⟨some 22, none, .call 154 [(.t 20), (.t 21)], []⟩, ⟨some 5, none, .mv (.t 22), []⟩])
 (.seq (.seq (.reg [] [⟨some 23, none, .mv (.t 5), []⟩, ⟨some 24, none, .bi .eql .i64 (.t 23) (.k (.int .i64 0)), []⟩])
 (.cond (.t 24) (.seq (.reg [] [⟨some 2, none, .mv (.k (.int .i64 0)), []⟩, ⟨some 3, none, .mv (.k (.int .i64 0)), []⟩])
 (.ret)) (.skip)))
 (.join [0, 4, 5] (.seq (.reg [] [⟨some 25, none, .mv (.t 0), []⟩, ⟨some 26, none, .mv (.t 4), []⟩, ⟨some 27, none, .ixs (.t 25) (.t 26), []⟩, ⟨some 28, none, .bi .eql .u8 (.t 27) (.k (.int .u8 48)), []⟩])
 (.cond (.t 28) (.reg [] [⟨some 5, none, .mv (.k (.int .i64 1)), []⟩]) (.skip)))
 (.seq (.reg [] [⟨some 29, none, .mv (.t 4), []⟩, ⟨some 30, none, .mv (.t 5), []⟩, ⟨some 31, none, .bi .add .i64 (.t 29) (.t 30), []⟩, ⟨some 4, none, .mv (.t 31), []⟩, ⟨some 6, none, .mv (.k (.int .i64 3)), []⟩])
 (.join [0, 4, 6] (.seq (.reg [] [⟨some 32, none, .mv (.t 4), []⟩, ⟨some 33, none, .mv (.t 0), []⟩, ⟨some 34, none, .lens (.t 33), []⟩, ⟨some 35, none, .bi .lss .i64 (.t 32) (.t 34), []⟩, ⟨some 36, none, .mv (.t 35), []⟩, ⟨some 37, (some (36, true)), .mv (.t 0), []⟩, ⟨some 38, (some (36, true)), .mv (.t 4), []⟩, ⟨some 39, (some (36, true)), .ixs (.t 37) (.t 38), []⟩, ⟨some 40, (some (36, true)), .bi .eql .u8 (.t 39) (.k (.int .u8 46)), []⟩, ⟨some 41, none, .pick (.t 36) (.t 40) (.k (.bool false)), []⟩, ⟨some 42, none, .mv (.t 41), []⟩, ⟨some 43, (some (42, true)), .mv (.t 0), []⟩, ⟨some 44, (some (42, true)), .mv (.t 4), []⟩, ⟨some 45, (some (42, true)), .bi .add .i64 (.t 44) (.k (.int .i64 1)), []⟩, ⟨some 46, (some (42, true)), .call 154 [(.t 43), (.t 45)], []⟩, ⟨some 47, (some (42, true)), .bi .gtr .i64 (.t 46) (.k (.int .i64 0)), []⟩, ⟨some 48, none, .pick (.t 42) (.t 47) (.k (.bool false)), []⟩])
 (.cond (.t 48) (.reg [] [⟨some 49, none, .mv (.t 4), []⟩, ⟨some 50, none, .bi .add .i64 (.t 49) (.k (.int .i64 1)), []⟩, ⟨some 51, none, .mv (.t 0), []⟩, ⟨some 52, none, .mv (.t 4), []⟩, ⟨some 53, none, .bi .add .i64 (.t 52) (.k (.int .i64 1)), []⟩, ⟨some 54, none, .call 154 [(.t 51), (.t 53)], []⟩, ⟨some 55, none, .bi .add .i64 (.t 50) (.t 54), []⟩, ⟨some 4, none, .mv (.t 55), []⟩, ⟨some 6, none, .mv (.k (.int .i64 4)), []⟩]) (.skip)))
 (.join [4, 6] (.seq (.reg [] [⟨some 56, none, .mv (.t 4), []⟩, ⟨some 57, none, .mv (.t 0), []⟩, ⟨some 58, none, .lens (.t 57), []⟩, ⟨some 59, none, .bi .lss .i64 (.t 56) (.t 58), []⟩, ⟨some 60, none, .mv (.t 59), []⟩, ⟨some 61, (some (60, true)), .mv (.t 0), []⟩, ⟨some 62, (some (60, true)), .mv (.t 4), []⟩, ⟨some 63, (some (60, true)), .ixs (.t 61) (.t 62), []⟩, ⟨some 64, (some (60, true)), .bi .eql .u8 (.t 63) (.k (.int .u8 101)), []⟩, ⟨some 65, (some (60, true)), .mv (.t 64), []⟩, ⟨some 66, (some (65, false)), .mv (.t 0), []⟩, ⟨some 67, (some (65, false)), .mv (.t 4), []⟩, ⟨some 68, (some (65, false)), .ixs (.t 66) (.t 67), []⟩, ⟨some 69, (some (65, false)), .bi .eql .u8 (.t 68) (.k (.int .u8 69)), []⟩, ⟨some 70, (some (60, true)), .pick (.t 65) (.k (.bool true)) (.t 69), []⟩, ⟨some 71, none, .pick (.t 60) (.t 70) (.k (.bool false)), []⟩])
 (.cond (.t 71) (.seq (.reg [] [⟨some 72, none, .mv (.t 4), []⟩, ⟨some 73, none, .bi .add .i64 (.t 72) (.k (.int .i64 1)), []⟩, ⟨some 7, none, .mv (.t 73), []⟩])
 (.join [0, 4, 6, 7] (.seq (.reg [] [⟨some 74, none, .mv (.t 7), []⟩, ⟨some 75, none, .mv (.t 0), []⟩, ⟨some 76, none, .lens (.t 75), []⟩, ⟨some 77, none, .bi .lss .i64 (.t 74) (.t 76), []⟩, ⟨some 78, none, .mv (.t 77), []⟩, ⟨some 79, (some (78, true)), .mv (.t 0), []⟩, ⟨some 80, (some (78, true)), .mv (.t 7), []⟩, ⟨some 81, (some (78, true)), .ixs (.t 79) (.t 80), []⟩, ⟨some 82, (some (78, true)), .bi .eql .u8 (.t 81) (.k (.int .u8 43)), []⟩, ⟨some 83, (some (78, true)), .mv (.t 82), []⟩, ⟨some 84, (some (83, false)), .mv (.t 0), []⟩, ⟨some 85, (some (83, false)), .mv (.t 7), []⟩, ⟨some 86, (some (83, false)), .ixs (.t 84) (.t 85), []⟩, ⟨some 87, (some (83, false)), .bi .eql .u8 (.t 86) (.k (.int .u8 45)), []⟩, ⟨some 88, (some (78, true)), .pick (.t 83) (.k (.bool true)) (.t 87), []⟩, ⟨some 89, none, .pick (.t 78) (.t 88) (.k (.bool false)), []⟩])
 (.cond (.t 89) (.reg [] [⟨some 90, none, .mv (.t 7), []⟩, ⟨some 91, none, .bi .add .i64 (.t 90) (.k (.int .i64 1)), []⟩, ⟨some 7, none, .mv (.t 91), []⟩]) (.skip)))
 (.seq (.reg [] [⟨some 92, none, .mv (.t 0), []⟩, ⟨some 93, none, .mv (.t 7), []⟩, ⟨some 94, none, .call 154 [(.t 92), (.t 93)], []⟩, ⟨some 95, none, .bi .gtr .i64 (.t 94) (.k (.int .i64 0)), []⟩])
 (.cond (.t 95) (.reg [] [⟨some 96, none, .mv (.t 7), []⟩, ⟨some 97, none, .mv (.t 0), []⟩, ⟨some 98, none, .mv (.t 7), []⟩, ⟨some 99, none, .call 154 [(.t 97), (.t 98)], []⟩, ⟨some 100, none, .bi .add .i64 (.t 96) (.t 99), []⟩, ⟨some 4, none, .mv (.t 100), []⟩, ⟨some 6, none, .mv (.k (.int .i64 4)), []⟩]) (.skip))))) (.skip)))
 (.seq (.reg [] [⟨some 101, none, .mv (.t 4), []⟩, ⟨some 102, none, .mv (.t 6), []⟩, ⟨some 2, none, .mv (.t 101), []⟩, ⟨some 3, none, .mv (.t 102), []⟩])
 (.ret))))))))))⟩
theorem ck125 : chkFn Tryz.prog 125 ir125 = true := by kernel_rfl
def ir127 : AFn := ⟨9, 1, [.t 2], .seq (.reg [] [⟨some 2, none, .mv (.k (.bool false)), []⟩])
 (.seq (.reg [] [⟨some 3, none, .mv (.t 0), []⟩, ⟨some 4, none, .bi .geq .u8 (.t 3) (.k (.int .u8 48)), []⟩, ⟨some 5, none, .mv (.t 4), []⟩, ⟨some 6, (some (5, true)), .mv (.t 0), []⟩, ⟨some 7, (some (5, true)), .bi .leq .u8 (.t 6) (.k (.int .u8 57)), []⟩, ⟨some 8, none, .pick (.t 5) (.t 7) (.k (.bool false)), []⟩, ⟨some 2, none, .mv (.t 8), []⟩])
 (.ret))⟩
theorem ck127 : chkFn Tryz.prog 127 ir127 = true := by kernel_rfl
def ir139 : AFn := ⟨48, 2, [.t 4], .seq (.reg [] [⟨some 4, none, .mv (.k (.int .i64 0)), []⟩])
 (.seq (.seq (.reg [] [⟨some 8, none, .mv (.t 1), []⟩, ⟨some 9, none, .call 99 [(.t 8), (.k (.str [117]))], []⟩])
 (.cond (.t 9) (.seq (.reg [] [⟨some 11, none, .mv (.t 1), []⟩, ⟨some 12, none, .sls (.t 11) (some (.k (.int .i64 1))) none, []⟩, ⟨some 13, none, .call 168 [(.t 12)], []⟩, ⟨some 10, none, .mv (.t 13), []⟩, ⟨some 14, none, .ext (.t 10) 0, []⟩, ⟨some 15, none, .ext (.t 10) 1, []⟩, ⟨some 5, none, .mv (.t 14), []⟩, ⟨some 6, none, .mv (.t 15), []⟩])
 (.seq (.seq (.reg [] [⟨some 16, none, .mv (.t 6), []⟩, ⟨some 17, none, .not (.t 16), []⟩])
 (.cond (.t 17) (.seq (.reg [] [⟨some 4, none, .mv (.k (.int .i64 0)), []⟩])
 (.ret)) (.skip)))
 (.seq (.reg [] [⟨some 18, none, .mv (.t 0), []⟩, ⟨some 19, none, .mv (.t 0), []⟩, ⟨some 20, none, .nilchk (.t 19), []⟩, ⟨some 21, none, .fa 1 (.t 20), []⟩, ⟨some 22, none, .ld 1 false (.t 21), []⟩, ⟨some 23, none, .mv (.t 5), []⟩, ⟨some 24, none, .bls 1 1 [.int .i64 0] [(0, (.t 23))], []⟩, ⟨some 25, none, .app 1 8 (.t 22) (.t 24), []⟩, ⟨some 26, none, .nilchk (.t 18), []⟩, ⟨some 27, none, .fa 1 (.t 26), []⟩, ⟨none, none, .st 1 (.t 27) (.t 25), []⟩])
 (.seq (.reg [] [⟨some 4, none, .mv (.k (.int .i64 5)), []⟩])
 (.ret))))) (.skip)))
 (.seq (.seq (.reg [] [⟨some 28, none, .mv (.t 1), []⟩, ⟨some 29, none, .bs .eql (.t 28) (.k (.str [])), []⟩])
 (.cond (.t 29) (.seq (.reg [] [⟨some 4, none, .mv (.k (.int .i64 0)), []⟩])
 (.ret)) (.skip)))
 (.seq (.reg [] [⟨some 30, none, .mv (.t 1), []⟩, ⟨some 31, none, .ixs (.t 30) (.k (.int .i64 0)), []⟩, ⟨some 32, none, .call 68 [(.k (.str [34, 92, 47, 98, 102, 110, 114, 116])), (.t 31)], []⟩, ⟨some 7, none, .mv (.t 32), []⟩])
 (.seq (.seq (.reg [] [⟨some 33, none, .mv (.t 7), []⟩, ⟨some 34, none, .bi .lss .i64 (.t 33) (.k (.int .i64 0)), []⟩])
 (.cond (.t 34) (.seq (.reg [] [⟨some 4, none, .mv (.k (.int .i64 0)), []⟩])
 (.ret)) (.skip)))
 (.seq (.reg [] [⟨some 35, none, .mv (.t 0), []⟩, ⟨some 36, none, .call 140 [(.t 35)], []⟩])
 (.seq (.reg [0, 1, 2, 3, 4, 5, 6, 7, 8, 9, 10, 11] [⟨some 37, none, .mv (.t 0), []⟩, ⟨some 38, none, .mv (.t 0), []⟩, ⟨some 39, none, .nilchk (.t 38), []⟩, ⟨some 40, none, .fa 0 (.t 39), []⟩, ⟨some 41, none, .ld 1 false (.t 40), []⟩, ⟨some 42, none, .mv (.t 7), []⟩, ⟨some 43, none, .ixs (.k (.str [34, 92, 47, 8, 12, 10, 13, 9])) (.t 42), []⟩, ⟨some 44, none, .bls 1 1 [.int .u8 0] [(0, (.t 43))], []⟩, ⟨some 45, none, .app 1 1 (.t 41) (.t 44), []⟩, ⟨some 46, none, .nilchk (.t 37), []⟩, ⟨some 47, none, .fa 0 (.t 46), []⟩, ⟨none, none, .st 1 (.t 47) (.t 45), []⟩])
 (.seq (.reg [] [⟨some 4, none, .mv (.k (.int .i64 1)), []⟩])
 (.ret))))))))⟩
theorem ck139 : chkFn Tryz.prog 139 ir139 = true := by kernel_rfl
def ir140 : AFn := ⟨34, 1, [], .seq (.reg [] [⟨some 5, none, .mv (.t 0), []⟩, ⟨some 6, none, .nilchk (.t 5), []⟩, ⟨some 7, none, .fa 1 (.t 6), []⟩, ⟨some 8, none, .ld 1 false (.t 7), []⟩, ⟨some 9, none, .call 169 [(.t 8)], []⟩, ⟨some 4, none, .mv (.t 9), []⟩, ⟨some 10, none, .ext (.t 4) 0, []⟩, ⟨some 11, none, .ext (.t 4) 1, []⟩, ⟨some 2, none, .mv (.t 10), []⟩, ⟨some 3, none, .mv (.t 11), []⟩])
 (.reg [0, 1, 2, 3, 4, 5, 6, 7, 9, 10, 11, 12, 8, 13, 14, 15, 16, 17, 18, 19, 20, 21, 22, 23, 24] [⟨some 12, none, .mv (.t 0), []⟩, ⟨some 13, none, .mv (.t 0), []⟩, ⟨some 14, none, .mv (.t 0), []⟩, ⟨some 15, none, .mv (.t 0), []⟩, ⟨some 16, none, .nilchk (.t 15), []⟩, ⟨some 17, none, .fa 0 (.t 16), []⟩, ⟨some 18, none, .ld 1 false (.t 17), []⟩, ⟨some 19, none, .mv (.t 2), []⟩, ⟨some 21, none, .mv (.t 0), []⟩, ⟨some 22, none, .nilchk (.t 21), []⟩, ⟨some 23, none, .fa 2 (.t 22), []⟩, ⟨some 24, none, .ld 1 false (.t 23), []⟩, ⟨some 20, none, .apps (.t 18) (.t 19), [11]⟩, ⟨some 25, none, .mv (.t 24), []⟩, ⟨some 26, (some (25, true)), .mv (.t 3), []⟩, ⟨some 27, none, .pick (.t 25) (.t 26) (.k (.bool false)), []⟩, ⟨some 28, none, .nilchk (.t 12), []⟩, ⟨some 29, none, .fa 0 (.t 28), []⟩, ⟨none, none, .st 1 (.t 29) (.t 20), []⟩, ⟨some 30, none, .nilchk (.t 13), []⟩, ⟨some 31, none, .fa 1 (.t 30), []⟩, ⟨none, none, .st 1 (.t 31) (.k (.sl .nil 1 [])), []⟩, ⟨some 32, none, .nilchk (.t 14), []⟩, ⟨some 33, none, .fa 2 (.t 32), []⟩, ⟨none, none, .st 1 (.t 33) (.t 27), []⟩])⟩
theorem ck140 : chkFn Tryz.prog 140 ir140 = true := by kernel_rfl
def ir141 : AFn := ⟨24, 1, [.t 2], .seq (.reg [] [⟨some 2, none, .mv (.k (.int .i64 0)), []⟩])
 (.seq (.reg [] [⟨some 3, none, .mv (.k (.int .i64 0)), []⟩])
 (.seq (.seq (.reg [] [⟨some 5, none, .mv (.t 0), []⟩, ⟨some 6, none, .call 99 [(.t 5), (.k (.str [45]))], []⟩])
 (.cond (.t 6) (.reg [] [⟨some 3, none, .mv (.k (.int .i64 1)), []⟩]) (.skip)))
 (.seq (.reg [] [⟨some 7, none, .mv (.t 0), []⟩, ⟨some 8, none, .mv (.t 3), []⟩, ⟨some 9, none, .sls (.t 7) (some (.t 8)) none, []⟩, ⟨some 10, none, .call 142 [(.t 9)], []⟩, ⟨some 4, none, .mv (.t 10), []⟩])
 (.seq (.block 0 (.seq (.reg [] [⟨some 12, none, .mv (.t 4), []⟩, ⟨some 13, none, .bi .eql .i64 (.t 12) (.k (.int .i64 0)), []⟩, ⟨some 11, none, .mv (.t 13), []⟩])
 (.cond (.t 11) (.seq (.reg [] [⟨some 2, none, .mv (.k (.int .i64 0)), []⟩])
 (.ret)) (.seq (.reg [] [⟨some 15, none, .mv (.t 0), []⟩, ⟨some 16, none, .mv (.t 3), []⟩, ⟨some 17, none, .ixs (.t 15) (.t 16), []⟩, ⟨some 18, none, .bi .eql .u8 (.t 17) (.k (.int .u8 48)), []⟩, ⟨some 14, none, .mv (.t 18), []⟩])
 (.cond (.t 14) (.seq (.reg [] [⟨some 19, none, .mv (.t 3), []⟩, ⟨some 20, none, .bi .add .i64 (.t 19) (.k (.int .i64 1)), []⟩, ⟨some 2, none, .mv (.t 20), []⟩])
 (.ret)) (.skip))))))
 (.seq (.reg [] [⟨some 21, none, .mv (.t 3), []⟩, ⟨some 22, none, .mv (.t 4), []⟩, ⟨some 23, none, .bi .add .i64 (.t 21) (.t 22), []⟩, ⟨some 2, none, .mv (.t 23), []⟩])
 (.ret))))))⟩
theorem ck141 : chkFn Tryz.prog 141 ir141 = true := by kernel_rfl
def ir142 : AFn := ⟨17, 1, [.t 2], .seq (.reg [] [⟨some 2, none, .mv (.k (.int .i64 0)), []⟩])
 (.seq (.reg [] [⟨some 3, none, .mv (.k (.int .i64 0)), []⟩])
 (.seq (.block 0 (.loop [0, 3] (.seq (.seq (.reg [] [⟨some 4, none, .mv (.t 3), []⟩, ⟨some 5, none, .mv (.t 0), []⟩, ⟨some 6, none, .lens (.t 5), []⟩, ⟨some 7, none, .bi .lss .i64 (.t 4) (.t 6), []⟩, ⟨some 8, none, .mv (.t 7), []⟩, ⟨some 9, (some (8, true)), .mv (.t 0), []⟩, ⟨some 10, (some (8, true)), .mv (.t 3), []⟩, ⟨some 11, (some (8, true)), .ixs (.t 9) (.t 10), []⟩, ⟨some 12, (some (8, true)), .call 107 [(.t 11)], []⟩, ⟨some 13, none, .pick (.t 8) (.t 12) (.k (.bool false)), []⟩])
 (.cond (.t 13) (.skip) (.exit 0)))
 (.block 1 (.reg [] [⟨some 14, none, .mv (.t 3), []⟩, ⟨some 15, none, .bi .add .i64 (.t 14) (.k (.int .i64 1)), []⟩, ⟨some 3, none, .mv (.t 15), []⟩])))))
 (.seq (.reg [] [⟨some 16, none, .mv (.t 3), []⟩, ⟨some 2, none, .mv (.t 16), []⟩])
 (.ret))))⟩
theorem ck142 : chkFn Tryz.prog 142 ir142 = true := by kernel_rfl
def ir143 : AFn := ⟨39, 1, [.t 2], .seq (.reg [] [⟨some 2, none, .mv (.k (.int .i64 0)), []⟩])
 (.seq (.seq (.reg [] [⟨some 5, none, .mv (.t 0), []⟩, ⟨some 6, none, .bs .eql (.t 5) (.k (.str [])), []⟩, ⟨some 7, none, .mv (.t 6), []⟩, ⟨some 8, (some (7, false)), .mv (.t 0), []⟩, ⟨some 9, (some (7, false)), .ixs (.t 8) (.k (.int .i64 0)), []⟩, ⟨some 10, (some (7, false)), .bi .neq .u8 (.t 9) (.k (.int .u8 101)), []⟩, ⟨some 11, (some (7, false)), .mv (.t 10), []⟩, ⟨some 12, (some (11, true)), .mv (.t 0), []⟩, ⟨some 13, (some (11, true)), .ixs (.t 12) (.k (.int .i64 0)), []⟩, ⟨some 14, (some (11, true)), .bi .neq .u8 (.t 13) (.k (.int .u8 69)), []⟩, ⟨some 15, (some (7, false)), .pick (.t 11) (.t 14) (.k (.bool false)), []⟩, ⟨some 16, none, .pick (.t 7) (.k (.bool true)) (.t 15), []⟩])
 (.cond (.t 16) (.seq (.reg [] [⟨some 2, none, .mv (.k (.int .i64 0)), []⟩])
 (.ret)) (.skip)))
 (.seq (.reg [] [⟨some 3, none, .mv (.k (.int .i64 1)), []⟩])
 (.seq (.seq (.reg [] [⟨some 17, none, .mv (.t 0), []⟩, ⟨some 18, none, .lens (.t 17), []⟩, ⟨some 19, none, .bi .gtr .i64 (.t 18) (.k (.int .i64 1)), []⟩, ⟨some 20, none, .mv (.t 19), []⟩, ⟨some 21, (some (20, true)), .mv (.t 0), []⟩, ⟨some 22, (some (20, true)), .ixs (.t 21) (.k (.int .i64 1)), []⟩, ⟨some 23, (some (20, true)), .bi .eql .u8 (.t 22) (.k (.int .u8 43)), []⟩, ⟨some 24, (some (20, true)), .mv (.t 23), []⟩, ⟨some 25, (some (24, false)), .mv (.t 0), []⟩, ⟨some 26, (some (24, false)), .ixs (.t 25) (.k (.int .i64 1)), []⟩, ⟨some 27, (some (24, false)), .bi .eql .u8 (.t 26) (.k (.int .u8 45)), []⟩, ⟨some 28, (some (20, true)), .pick (.t 24) (.k (.bool true)) (.t 27), []⟩, ⟨some 29, none, .pick (.t 20) (.t 28) (.k (.bool false)), []⟩])
 (.cond (.t 29) (.reg [] [⟨some 3, none, .mv (.k (.int .i64 2)), []⟩]) (.skip)))
 (.seq (.reg [] [⟨some 30, none, .mv (.t 0), []⟩, ⟨some 31, none, .mv (.t 3), []⟩, ⟨some 32, none, .sls (.t 30) (some (.t 31)) none, []⟩, ⟨some 33, none, .call 142 [(.t 32)], []⟩, ⟨some 4, none, .mv (.t 33), []⟩])
 (.seq (.seq (.reg [] [⟨some 34, none, .mv (.t 4), []⟩, ⟨some 35, none, .bi .eql .i64 (.t 34) (.k (.int .i64 0)), []⟩])
 (.cond (.t 35) (.seq (.reg [] [⟨some 2, none, .mv (.k (.int .i64 0)), []⟩])
 (.ret)) (.skip)))
 (.seq (.reg [] [⟨some 36, none, .mv (.t 3), []⟩, ⟨some 37, none, .mv (.t 4), []⟩, ⟨some 38, none, .bi .add .i64 (.t 36) (.t 37), []⟩, ⟨some 2, none, .mv (.t 38), []⟩])
 (.ret)))))))⟩
theorem ck143 : chkFn Tryz.prog 143 ir143 = true := by kernel_rfl
def ir147 : AFn := ⟨61, 2, [.t 4], .seq (.reg [] [⟨some 4, none, .mv (.k (.int .i64 0)), []⟩])
 (.seq (.seq (.reg [] [⟨some 8, none, .mv (.t 0), []⟩, ⟨some 9, none, .lens (.t 8), []⟩, ⟨some 10, none, .mv (.t 1), []⟩, ⟨some 11, none, .bi .sub .i64 (.t 9) (.t 10), []⟩, ⟨some 12, none, .bi .lss .i64 (.t 11) (.k (.int .i64 4)), []⟩])
 (.cond (.t 12) (.seq (.reg [] [⟨some 4, none, .mv (.k (.int .i64 (-1))), []⟩])
 (.ret)) (.skip)))
 (.seq (.reg [] [⟨some 5, none, .mv (.k (.int .i64 0)), []⟩])
 (.seq (.seq (.reg [] [⟨some 13, none, .mv (.t 1), []⟩, ⟨some 6, none, .mv (.t 13), []⟩])
 (.block 0 (.loop [0, 1, 5, 6] (.seq (.seq (.reg [] [⟨some 14, none, .mv (.t 6), []⟩, ⟨some 15, none, .mv (.t 1), []⟩, ⟨some 16, none, .bi .add .i64 (.t 15) (.k (.int .i64 4)), []⟩, ⟨some 17, none, .bi .lss .i64 (.t 14) (.t 16), []⟩])
 (.cond (.t 17) (.skip) (.exit 0)))
 (.seq (.block 1 (.seq (.reg [] [⟨some 20, none, .mv (.t 0), []⟩, ⟨some 21, none, .mv (.t 6), []⟩, ⟨some 22, none, .ixs (.t 20) (.t 21), []⟩, ⟨some 7, none, .mv (.t 22), []⟩])
 (.block 2 (.seq (.reg [] [⟨some 24, none, .mv (.t 7), []⟩, ⟨some 25, none, .call 127 [(.t 24)], []⟩, ⟨some 23, none, .mv (.t 25), []⟩])
 (.cond (.t 23) (.reg [] [⟨some 26, none, .mv (.t 5), []⟩, ⟨some 27, none, .shf .shl (.t 26) (.k (.int .u64 4)), []⟩, ⟨some 28, none, .mv (.t 7), []⟩, ⟨some 29, none, .bi .sub .u8 (.t 28) (.k (.int .u8 48)), []⟩, ⟨some 30, none, .cvi .i64 (.t 29), []⟩, ⟨some 31, none, .bi .or .i64 (.t 27) (.t 30), []⟩, ⟨some 5, none, .mv (.t 31), []⟩]) (.seq (.reg [] [⟨some 33, none, .mv (.t 7), []⟩, ⟨some 34, none, .bi .geq .u8 (.t 33) (.k (.int .u8 97)), []⟩, ⟨some 35, none, .mv (.t 34), []⟩, ⟨some 36, (some (35, true)), .mv (.t 7), []⟩, ⟨some 37, (some (35, true)), .bi .leq .u8 (.t 36) (.k (.int .u8 102)), []⟩, ⟨some 38, none, .pick (.t 35) (.t 37) (.k (.bool false)), []⟩, ⟨some 32, none, .mv (.t 38), []⟩])
 (.cond (.t 32) (.reg [] [⟨some 39, none, .mv (.t 5), []⟩, ⟨some 40, none, .shf .shl (.t 39) (.k (.int .u64 4)), []⟩, ⟨some 41, none, .mv (.t 7), []⟩, ⟨some 42, none, .bi .sub .u8 (.t 41) (.k (.int .u8 97)), []⟩, ⟨some 43, none, .bi .add .u8 (.t 42) (.k (.int .u8 10)), []⟩, ⟨some 44, none, .cvi .i64 (.t 43), []⟩, ⟨some 45, none, .bi .or .i64 (.t 40) (.t 44), []⟩, ⟨some 5, none, .mv (.t 45), []⟩]) (.seq (.reg [] [⟨some 47, none, .mv (.t 7), []⟩, ⟨some 48, none, .bi .geq .u8 (.t 47) (.k (.int .u8 65)), []⟩, ⟨some 49, none, .mv (.t 48), []⟩, ⟨some 50, (some (49, true)), .mv (.t 7), []⟩, ⟨some 51, (some (49, true)), .bi .leq .u8 (.t 50) (.k (.int .u8 70)), []⟩, ⟨some 52, none, .pick (.t 49) (.t 51) (.k (.bool false)), []⟩, ⟨some 46, none, .mv (.t 52), []⟩])
 (.cond (.t 46) (.reg [] [⟨some 53, none, .mv (.t 5), []⟩, ⟨some 54, none, .shf .shl (.t 53) (.k (.int .u64 4)), []⟩, ⟨some 55, none, .mv (.t 7), []⟩, ⟨some 56, none, .bi .sub .u8 (.t 55) (.k (.int .u8 65)), []⟩, ⟨some 57, none, .bi .add .u8 (.t 56) (.k (.int .u8 10)), []⟩, ⟨some 58, none, .cvi .i64 (.t 57), []⟩, ⟨some 59, none, .bi .or .i64 (.t 54) (.t 58), []⟩, ⟨some 5, none, .mv (.t 59), []⟩]) (.seq (.reg [] [⟨some 4, none, .mv (.k (.int .i64 (-1))), []⟩])
 (.ret)))))))))))
 (.reg [] [⟨some 18, none, .mv (.t 6), []⟩, ⟨some 19, none, .bi .add .i64 (.t 18) (.k (.int .i64 1)), []⟩, ⟨some 6, none, .mv (.t 19), []⟩]))))))
 (.seq (.reg [] [⟨some 60, none, .mv (.t 5), []⟩, ⟨some 4, none, .mv (.t 60), []⟩])
 (.ret)))))⟩
theorem ck147 : chkFn Tryz.prog 147 ir147 = true := by kernel_rfl
def ir148 : AFn := ⟨76, 1, [.t 2, .t 3], .seq (.reg [] [⟨some 2, none, .mv (.k (.str [])), []⟩, ⟨some 3, none, .mv (.k (.bool false)), []⟩])
 (.seq (.reg [] [⟨some 4, none, .mv (.k (.str [])), []⟩])
 (.seq (.seq (.reg [] [⟨some 5, none, .mv (.k (.int .i64 0)), []⟩])
 (.block 0 (.loop [0, 4, 5] (.seq (.seq (.reg [] [⟨some 7, none, .mv (.t 5), []⟩, ⟨some 8, none, .mv (.t 0), []⟩, ⟨some 9, none, .len (.t 8), []⟩, ⟨some 10, none, .bi .lss .i64 (.t 7) (.t 9), []⟩])
 (.cond (.t 10) (.skip) (.exit 0)))
 (.seq (.block 1 (.seq (.reg [] [⟨some 13, none, .mv (.t 0), []⟩, ⟨some 14, none, .mv (.t 5), []⟩, ⟨some 15, none, .ia 1 (.t 13) (.t 14), []⟩, ⟨some 16, none, .ld 1 false (.t 15), []⟩, ⟨some 6, none, .mv (.t 16), []⟩])
 (.seq (.seq (.reg [] [⟨some 17, none, .mv (.t 6), []⟩, ⟨some 18, none, .bi .lss .i64 (.t 17) (.k (.int .i64 0)), []⟩, ⟨some 19, none, .mv (.t 18), []⟩, ⟨some 20, (some (19, false)), .mv (.t 6), []⟩, ⟨some 21, (some (19, false)), .bi .gtr .i64 (.t 20) (.k (.int .i64 65535)), []⟩, ⟨some 22, none, .pick (.t 19) (.k (.bool true)) (.t 21), []⟩, ⟨some 23, none, .mv (.t 22), []⟩, ⟨some 24, (some (23, false)), .mv (.t 6), []⟩, ⟨some 25, (some (23, false)), .bi .geq .i64 (.t 24) (.k (.int .i64 56320)), []⟩, ⟨some 26, (some (23, false)), .mv (.t 25), []⟩, ⟨some 27, (some (26, true)), .mv (.t 6), []⟩, ⟨some 28, (some (26, true)), .bi .lss .i64 (.t 27) (.k (.int .i64 57344)), []⟩, ⟨some 29, (some (23, false)), .pick (.t 26) (.t 28) (.k (.bool false)), []⟩, ⟨some 30, none, .pick (.t 23) (.k (.bool true)) (.t 29), []⟩])
 (.cond (.t 30) (.seq (.reg [] [⟨some 2, none, .mv (.k (.str [])), []⟩, ⟨some 3, none, .mv (.k (.bool false)), []⟩])
 (.ret)) (.skip)))
 (.seq (.seq (.reg [] [⟨some 31, none, .mv (.t 6), []⟩, ⟨some 32, none, .bi .geq .i64 (.t 31) (.k (.int .i64 55296)), []⟩, ⟨some 33, none, .mv (.t 32), []⟩, ⟨some 34, (some (33, true)), .mv (.t 6), []⟩, ⟨some 35, (some (33, true)), .bi .lss .i64 (.t 34) (.k (.int .i64 56320)), []⟩, ⟨some 36, none, .pick (.t 33) (.t 35) (.k (.bool false)), []⟩])
 (.cond (.t 36) (.seq (.seq (.reg [] [⟨some 37, none, .mv (.t 5), []⟩, ⟨some 38, none, .bi .add .i64 (.t 37) (.k (.int .i64 1)), []⟩, ⟨some 39, none, .mv (.t 0), []⟩, ⟨some 40, none, .len (.t 39), []⟩, ⟨some 41, none, .bi .geq .i64 (.t 38) (.t 40), []⟩, ⟨some 42, none, .mv (.t 41), []⟩, ⟨some 43, (some (42, false)), .mv (.t 0), []⟩, ⟨some 44, (some (42, false)), .mv (.t 5), []⟩, ⟨some 45, (some (42, false)), .bi .add .i64 (.t 44) (.k (.int .i64 1)), []⟩, ⟨some 46, (some (42, false)), .ia 1 (.t 43) (.t 45), []⟩, ⟨some 47, (some (42, false)), .ld 1 false (.t 46), []⟩, ⟨some 48, (some (42, false)), .bi .lss .i64 (.t 47) (.k (.int .i64 56320)), []⟩, ⟨some 49, none, .pick (.t 42) (.k (.bool true)) (.t 48), []⟩, ⟨some 50, none, .mv (.t 49), []⟩, ⟨some 51, (some (50, false)), .mv (.t 0), []⟩, ⟨some 52, (some (50, false)), .mv (.t 5), []⟩, ⟨some 53, (some (50, false)), .bi .add .i64 (.t 52) (.k (.int .i64 1)), []⟩, ⟨some 54, (some (50, false)), .ia 1 (.t 51) (.t 53), []⟩, ⟨some 55, (some (50, false)), .ld 1 false (.t 54), []⟩, ⟨some 56, (some (50, false)), .bi .geq .i64 (.t 55) (.k (.int .i64 57344)), []⟩, ⟨some 57, none, .pick (.t 50) (.k (.bool true)) (.t 56), []⟩])
 (.cond (.t 57) (.seq (.reg [] [⟨some 2, none, .mv (.k (.str [])), []⟩, ⟨some 3, none, .mv (.k (.bool false)), []⟩])
 (.ret)) (.skip)))
 (.seq (.reg [] [⟨some 58, none, .mv (.t 6), []⟩, ⟨some 59, none, .bi .sub .i64 (.t 58) (.k (.int .i64 55296)), []⟩, ⟨some 60, none, .bi .mul .i64 (.k (.int .i64 1024)) (.t 59), []⟩, ⟨some 61, none, .bi .add .i64 (.k (.int .i64 65536)) (.t 60), []⟩, ⟨some 62, none, .mv (.t 0), []⟩, ⟨some 63, none, .mv (.t 5), []⟩, ⟨some 64, none, .bi .add .i64 (.t 63) (.k (.int .i64 1)), []⟩, ⟨some 65, none, .ia 1 (.t 62) (.t 64), []⟩, ⟨some 66, none, .ld 1 false (.t 65), []⟩, ⟨some 67, none, .bi .add .i64 (.t 61) (.t 66), []⟩, ⟨some 68, none, .bi .sub .i64 (.t 67) (.k (.int .i64 56320)), []⟩, ⟨some 6, none, .mv (.t 68), []⟩])
 (.reg [] [⟨some 69, none, .mv (.t 5), []⟩, ⟨some 70, none, .bi .add .i64 (.t 69) (.k (.int .i64 1)), []⟩, ⟨some 5, none, .mv (.t 70), []⟩]))) (.skip)))
 (.reg [] [⟨some 71, none, .mv (.t 4), []⟩, ⟨some 72, none, .mv (.t 6), []⟩, ⟨some 73, none, .call 149 [(.t 72)], []⟩, ⟨some 74, none, .bs .add (.t 71) (.t 73), []⟩, ⟨some 4, none, .mv (.t 74), []⟩])))))
 (.reg [] [⟨some 11, none, .mv (.t 5), []⟩, ⟨some 12, none, .bi .add .i64 (.t 11) (.k (.int .i64 1)), []⟩, ⟨some 5, none, .mv (.t 12), []⟩]))))))
 (.seq (.reg [] [⟨some 75, none, .mv (.t 4), []⟩, ⟨some 2, none, .mv (.t 75), []⟩, ⟨some 3, none, .mv (.k (.bool true)), []⟩])
 (.ret))))⟩
theorem ck148 : chkFn Tryz.prog 148 ir148 = true := by kernel_rfl
def ir149 : AFn := ⟨61, 1, [.t 2], .seq (.reg [] [⟨some 2, none, .mv (.k (.str [])), []⟩])
 (.seq (.block 0 (.seq (.reg [] [⟨some 4, none, .mv (.t 0), []⟩, ⟨some 5, none, .bi .lss .i64 (.t 4) (.k (.int .i64 128)), []⟩, ⟨some 3, none, .mv (.t 5), []⟩])
 (.cond (.t 3) (.seq (.reg [] [⟨some 6, none, .mv (.t 0), []⟩, ⟨some 7, none, .cvi .u8 (.t 6), []⟩, ⟨some 8, none, .bls 1 1 [.int .u8 0] [(0, (.t 7))], []⟩, ⟨some 9, none, .cvb2s (.t 8), []⟩, ⟨some 2, none, .mv (.t 9), []⟩])
 (.ret)) (.seq (.reg [] [⟨some 11, none, .mv (.t 0), []⟩, ⟨some 12, none, .bi .lss .i64 (.t 11) (.k (.int .i64 2048)), []⟩, ⟨some 10, none, .mv (.t 12), []⟩])
 (.cond (.t 10) (.seq (.reg [] [⟨some 13, none, .mv (.t 0), []⟩, ⟨some 14, none, .shf .shr (.t 13) (.k (.int .u64 6)), []⟩, ⟨some 15, none, .bi .or .i64 (.k (.int .i64 192)) (.t 14), []⟩, ⟨some 16, none, .cvi .u8 (.t 15), []⟩, ⟨some 17, none, .mv (.t 0), []⟩, ⟨some 18, none, .bi .and .i64 (.t 17) (.k (.int .i64 63)), []⟩, ⟨some 19, none, .bi .or .i64 (.k (.int .i64 128)) (.t 18), []⟩, ⟨some 20, none, .cvi .u8 (.t 19), []⟩, ⟨some 21, none, .bls 1 2 [.int .u8 0] [(0, (.t 16)), (1, (.t 20))], []⟩, ⟨some 22, none, .cvb2s (.t 21), []⟩, ⟨some 2, none, .mv (.t 22), []⟩])
 (.ret)) (.seq (.reg [] [⟨some 24, none, .mv (.t 0), []⟩, ⟨some 25, none, .bi .lss .i64 (.t 24) (.k (.int .i64 65536)), []⟩, ⟨some 23, none, .mv (.t 25), []⟩])
 (.cond (.t 23) (.seq (.reg [] [⟨some 26, none, .mv (.t 0), []⟩, ⟨some 27, none, .shf .shr (.t 26) (.k (.int .u64 12)), []⟩, ⟨some 28, none, .bi .or .i64 (.k (.int .i64 224)) (.t 27), []⟩, ⟨some 29, none, .cvi .u8 (.t 28), []⟩, ⟨some 30, none, .mv (.t 0), []⟩, ⟨some 31, none, .shf .shr (.t 30) (.k (.int .u64 6)), []⟩, ⟨some 32, none, .bi .and .i64 (.t 31) (.k (.int .i64 63)), []⟩, ⟨some 33, none, .bi .or .i64 (.k (.int .i64 128)) (.t 32), []⟩, ⟨some 34, none, .cvi .u8 (.t 33), []⟩, ⟨some 35, none, .mv (.t 0), []⟩, ⟨some 36, none, .bi .and .i64 (.t 35) (.k (.int .i64 63)), []⟩, ⟨some 37, none, .bi .or .i64 (.k (.int .i64 128)) (.t 36), []⟩, ⟨some 38, none, .cvi .u8 (.t 37), []⟩, ⟨some 39, none, .bls 1 3 [.int .u8 0] [(0, (.t 29)), (1, (.t 34)), (2, (.t 38))], []⟩, ⟨some 40, none, .cvb2s (.t 39), []⟩, ⟨some 2, none, .mv (.t 40), []⟩])
 (.ret)) (.skip))))))))
 (.seq (.reg [] [⟨some 41, none, .mv (.t 0), []⟩, ⟨some 42, none, .shf .shr (.t 41) (.k (.int .u64 18)), []⟩, ⟨some 43, none, .bi .or .i64 (.k (.int .i64 240)) (.t 42), []⟩, ⟨some 44, none, .cvi .u8 (.t 43), []⟩, ⟨some 45, none, .mv (.t 0), []⟩, ⟨some 46, none, .shf .shr (.t 45) (.k (.int .u64 12)), []⟩, ⟨some 47, none, .bi .and .i64 (.t 46) (.k (.int .i64 63)), []⟩, ⟨some 48, none, .bi .or .i64 (.k (.int .i64 128)) (.t 47), []⟩, ⟨some 49, none, .cvi .u8 (.t 48), []⟩, ⟨some 50, none, .mv (.t 0), []⟩, ⟨some 51, none, .shf .shr (.t 50) (.k (.int .u64 6)), []⟩, ⟨some 52, none, .bi .and .i64 (.t 51) (.k (.int .i64 63)), []⟩, ⟨some 53, none, .bi .or .i64 (.k (.int .i64 128)) (.t 52), []⟩, ⟨some 54, none, .cvi .u8 (.t 53), []⟩, ⟨some 55, none, .mv (.t 0), []⟩, ⟨some 56, none, .bi .and .i64 (.t 55) (.k (.int .i64 63)), []⟩, ⟨some 57, none, .bi .or .i64 (.k (.int .i64 128)) (.t 56), []⟩, ⟨some 58, none, .cvi .u8 (.t 57), []⟩, ⟨some 59, none, .bls 1 4 [.int .u8 0] [(0, (.t 44)), (1, (.t 49)), (2, (.t 54)), (3, (.t 58))], []⟩, ⟨some 60, none, .cvb2s (.t 59), []⟩, ⟨some 2, none, .mv (.t 60), []⟩])
 (.ret)))⟩
theorem ck149 : chkFn Tryz.prog 149 ir149 = true := by kernel_rfl
def ir150 : AFn := ⟨18, 2, [.t 4], .seq (.reg [] [⟨some 4, none, .mv (.k (.int .i64 0)), []⟩])
 (.seq (.seq (.reg [] [⟨some 5, none, .mv (.k (.int .i64 0)), []⟩])
 (.block 0 (.loop [0, 1, 5] (.seq (.seq (.reg [] [⟨some 6, none, .mv (.t 5), []⟩, ⟨some 7, none, .mv (.t 0), []⟩, ⟨some 8, none, .lens (.t 7), []⟩, ⟨some 9, none, .bi .lss .i64 (.t 6) (.t 8), []⟩])
 (.cond (.t 9) (.skip) (.exit 0)))
 (.seq (.block 1 (.seq (.reg [] [⟨some 12, none, .mv (.t 0), []⟩, ⟨some 13, none, .mv (.t 5), []⟩, ⟨some 14, none, .ixs (.t 12) (.t 13), []⟩, ⟨some 15, none, .mv (.t 1), []⟩, ⟨some 16, none, .bi .eql .u8 (.t 14) (.t 15), []⟩])
 (.cond (.t 16) (.seq (.reg [] [⟨some 17, none, .mv (.t 5), []⟩, ⟨some 4, none, .mv (.t 17), []⟩])
 (.ret)) (.skip))))
 (.reg [] [⟨some 10, none, .mv (.t 5), []⟩, ⟨some 11, none, .bi .add .i64 (.t 10) (.k (.int .i64 1)), []⟩, ⟨some 5, none, .mv (.t 11), []⟩]))))))
 (.seq (.reg [] [⟨some 4, none, .mv (.k (.int .i64 (-1))), []⟩])
 (.ret)))⟩
theorem ck150 : chkFn Tryz.prog 150 ir150 = true := by kernel_rfl
def ir154 : AFn := ⟨23, 2, [.t 4], .seq (.reg [] [⟨some 4, none, .mv (.k (.int .i64 0)), []⟩])
 (.seq (.reg [] [⟨some 5, none, .mv (.k (.int .i64 0)), []⟩])
 (.seq (.block 0 (.loop [0, 1, 5] (.seq (.seq (.reg [] [⟨some 6, none, .mv (.t 1), []⟩, ⟨some 7, none, .mv (.t 5), []⟩, ⟨some 8, none, .bi .add .i64 (.t 6) (.t 7), []⟩, ⟨some 9, none, .mv (.t 0), []⟩, ⟨some 10, none, .lens (.t 9), []⟩, ⟨some 11, none, .bi .lss .i64 (.t 8) (.t 10), []⟩, ⟨some 12, none, .mv (.t 11), []⟩, ⟨some 13, (some (12, true)), .mv (.t 0), []⟩, ⟨some 14, (some (12, true)), .mv (.t 1), []⟩, ⟨some 15, (some (12, true)), .mv (.t 5), []⟩, ⟨some 16, (some (12, true)), .bi .add .i64 (.t 14) (.t 15), []⟩, ⟨some 17, (some (12, true)), .ixs (.t 13) (.t 16), []⟩, ⟨some 18, (some (12, true)), .call 127 [(.t 17)], []⟩, ⟨some 19, none, .pick (.t 12) (.t 18) (.k (.bool false)), []⟩])
 (.cond (.t 19) (.skip) (.exit 0)))
 (.block 1 (.reg [] [⟨some 20, none, .mv (.t 5), []⟩, ⟨some 21, none, .bi .add .i64 (.t 20) (.k (.int .i64 1)), []⟩, ⟨some 5, none, .mv (.t 21), []⟩])))))
 (.seq (.reg [] [⟨some 22, none, .mv (.t 5), []⟩, ⟨some 4, none, .mv (.t 22), []⟩])
 (.ret))))⟩
theorem ck154 : chkFn Tryz.prog 154 ir154 = true := by kernel_rfl
def ir168 : AFn := ⟨44, 1, [.t 2, .t 3], .seq (.reg [] [⟨some 2, none, .mv (.k (.int .i64 0)), []⟩, ⟨some 3, none, .mv (.k (.bool false)), []⟩])
 (.seq (.seq (.reg [] [⟨some 7, none, .mv (.t 0), []⟩, ⟨some 8, none, .lens (.t 7), []⟩, ⟨some 9, none, .bi .lss .i64 (.t 8) (.k (.int .i64 4)), []⟩])
 (.cond (.t 9) (.seq (.reg [] [⟨some 2, none, .mv (.k (.int .i64 0)), []⟩, ⟨some 3, none, .mv (.k (.bool false)), []⟩])
 (.ret)) (.skip)))
 (.seq (.reg [] [⟨some 4, none, .mv (.k (.int .i64 0)), []⟩])
 (.seq (.seq (.reg [] [⟨some 10, none, .mv (.k (.int .i64 0)), []⟩])
 (.block 0 (.loop [0, 4, 10] (.seq (.reg [] [⟨some 11, none, .bi .lss .i64 (.t 10) (.k (.int .i64 4)), []⟩])
 (.seq (.cond (.t 11) (.skip) (.exit 0))
 (.seq (.block 1 (.seq (.reg [] [⟨some 12, none, .mv (.t 10), []⟩, ⟨some 5, none, .mv (.t 12), []⟩])
 (.seq (.reg [] [⟨some 13, none, .mv (.t 0), []⟩, ⟨some 14, none, .mv (.t 5), []⟩, ⟨some 15, none, .ixs (.t 13) (.t 14), []⟩, ⟨some 16, none, .bi .or .u8 (.t 15) (.k (.int .u8 32)), []⟩, ⟨some 17, none, .call 68 [(.k (.str [48, 49, 50, 51, 52, 53, 54, 55, 56, 57, 97, 98, 99, 100, 101, 102])), (.t 16)], []⟩, ⟨some 6, none, .mv (.t 17), []⟩])
 (.seq (.seq (.reg [] [⟨some 18, none, .mv (.t 6), []⟩, ⟨some 19, none, .bi .lss .i64 (.t 18) (.k (.int .i64 0)), []⟩, ⟨some 20, none, .mv (.t 19), []⟩, ⟨some 21, (some (20, false)), .mv (.t 0), []⟩, ⟨some 22, (some (20, false)), .mv (.t 5), []⟩, ⟨some 23, (some (20, false)), .ixs (.t 21) (.t 22), []⟩, ⟨some 24, (some (20, false)), .bi .lss .u8 (.t 23) (.k (.int .u8 48)), []⟩, ⟨some 25, none, .pick (.t 20) (.k (.bool true)) (.t 24), []⟩, ⟨some 26, none, .mv (.t 25), []⟩, ⟨some 27, (some (26, false)), .mv (.t 0), []⟩, ⟨some 28, (some (26, false)), .mv (.t 5), []⟩, ⟨some 29, (some (26, false)), .ixs (.t 27) (.t 28), []⟩, ⟨some 30, (some (26, false)), .bi .gtr .u8 (.t 29) (.k (.int .u8 57)), []⟩, ⟨some 31, (some (26, false)), .mv (.t 30), []⟩, ⟨some 32, (some (31, true)), .mv (.t 0), []⟩, ⟨some 33, (some (31, true)), .mv (.t 5), []⟩, ⟨some 34, (some (31, true)), .ixs (.t 32) (.t 33), []⟩, ⟨some 35, (some (31, true)), .bi .lss .u8 (.t 34) (.k (.int .u8 65)), []⟩, ⟨some 36, (some (26, false)), .pick (.t 31) (.t 35) (.k (.bool false)), []⟩, ⟨some 37, none, .pick (.t 26) (.k (.bool true)) (.t 36), []⟩])
 (.cond (.t 37) (.seq (.reg [] [⟨some 2, none, .mv (.k (.int .i64 0)), []⟩, ⟨some 3, none, .mv (.k (.bool false)), []⟩])
 (.ret)) (.skip)))
 (.reg [] [⟨some 38, none, .mv (.t 4), []⟩, ⟨some 39, none, .bi .mul .i64 (.k (.int .i64 16)) (.t 38), []⟩, ⟨some 40, none, .mv (.t 6), []⟩, ⟨some 41, none, .bi .add .i64 (.t 39) (.t 40), []⟩, ⟨some 4, none, .mv (.t 41), []⟩])))))
 (.reg [] [⟨some 42, none, .bi .add .i64 (.t 10) (.k (.int .i64 1)), []⟩, ⟨some 10, none, .mv (.t 42), []⟩])))))))
 (.seq (.reg [] [⟨some 43, none, .mv (.t 4), []⟩, ⟨some 2, none, .mv (.t 43), []⟩, ⟨some 3, none, .mv (.k (.bool true)), []⟩])
 (.ret)))))⟩
theorem ck168 : chkFn Tryz.prog 168 ir168 = true := by kernel_rfl
def ir169 : AFn := ⟨75, 1, [.t 2, .t 3], .seq (.reg [] [⟨some 2, none, .mv (.k (.str [])), []⟩, ⟨some 3, none, .mv (.k (.bool false)), []⟩])
 (.seq (.reg [] [⟨some 4, none, .mv (.k (.sl .nil 1 [])), []⟩])
 (.seq (.seq (.reg [] [⟨some 5, none, .mv (.k (.int .i64 0)), []⟩])
 (.block 0 (.loop [0, 4, 5] (.seq (.seq (.reg [] [⟨some 7, none, .mv (.t 5), []⟩, ⟨some 8, none, .mv (.t 0), []⟩, ⟨some 9, none, .len (.t 8), []⟩, ⟨some 10, none, .bi .lss .i64 (.t 7) (.t 9), []⟩])
 (.cond (.t 10) (.skip) (.exit 0)))
 (.seq (.block 1 (.seq (.reg [] [⟨some 13, none, .mv (.t 0), []⟩, ⟨some 14, none, .mv (.t 5), []⟩, ⟨some 15, none, .ia 1 (.t 13) (.t 14), []⟩, ⟨some 16, none, .ld 1 false (.t 15), []⟩, ⟨some 6, none, .mv (.t 16), []⟩])
 (.seq (.block 2 (.seq (.reg [] [⟨some 18, none, .mv (.t 6), []⟩, ⟨some 19, none, .bi .lss .i64 (.t 18) (.k (.int .i64 0)), []⟩, ⟨some 20, none, .mv (.t 19), []⟩, ⟨some 21, (some (20, false)), .mv (.t 6), []⟩, ⟨some 22, (some (20, false)), .bi .gtr .i64 (.t 21) (.k (.int .i64 65535)), []⟩, ⟨some 23, none, .pick (.t 20) (.k (.bool true)) (.t 22), []⟩, ⟨some 24, none, .mv (.t 23), []⟩, ⟨some 25, (some (24, false)), .mv (.t 6), []⟩, ⟨some 26, (some (24, false)), .bi .geq .i64 (.t 25) (.k (.int .i64 56320)), []⟩, ⟨some 27, (some (24, false)), .mv (.t 26), []⟩, ⟨some 28, (some (27, true)), .mv (.t 6), []⟩, ⟨some 29, (some (27, true)), .bi .leq .i64 (.t 28) (.k (.int .i64 57343)), []⟩, ⟨some 30, (some (24, false)), .pick (.t 27) (.t 29) (.k (.bool false)), []⟩, ⟨some 31, none, .pick (.t 24) (.k (.bool true)) (.t 30), []⟩, ⟨some 17, none, .mv (.t 31), []⟩])
 (.cond (.t 17) (.seq (.reg [] [⟨some 2, none, .mv (.k (.str [])), []⟩, ⟨some 3, none, .mv (.k (.bool false)), []⟩])
 (.ret)) (.seq (.reg [] [⟨some 33, none, .mv (.t 6), []⟩, ⟨some 34, none, .bi .geq .i64 (.t 33) (.k (.int .i64 55296)), []⟩, ⟨some 35, none, .mv (.t 34), []⟩, ⟨some 36, (some (35, true)), .mv (.t 6), []⟩, ⟨some 37, (some (35, true)), .bi .lss .i64 (.t 36) (.k (.int .i64 56320)), []⟩, ⟨some 38, none, .pick (.t 35) (.t 37) (.k (.bool false)), []⟩, ⟨some 32, none, .mv (.t 38), []⟩])
 (.cond (.t 32) (.seq (.reg [] [⟨some 39, none, .mv (.t 5), []⟩, ⟨some 40, none, .bi .add .i64 (.t 39) (.k (.int .i64 1)), []⟩, ⟨some 5, none, .mv (.t 40), []⟩])
 (.seq (.seq (.reg [] [⟨some 41, none, .mv (.t 5), []⟩, ⟨some 42, none, .mv (.t 0), []⟩, ⟨some 43, none, .len (.t 42), []⟩, ⟨some 44, none, .bi .eql .i64 (.t 41) (.t 43), []⟩, ⟨some 45, none, .mv (.t 44), []⟩, ⟨some 46, (some (45, false)), .mv (.t 0), []⟩, ⟨some 47, (some (45, false)), .mv (.t 5), []⟩, ⟨some 48, (some (45, false)), .ia 1 (.t 46) (.t 47), []⟩, ⟨some 49, (some (45, false)), .ld 1 false (.t 48), []⟩, ⟨some 50, (some (45, false)), .bi .lss .i64 (.t 49) (.k (.int .i64 56320)), []⟩, ⟨some 51, none, .pick (.t 45) (.k (.bool true)) (.t 50), []⟩, ⟨some 52, none, .mv (.t 51), []⟩, ⟨some 53, (some (52, false)), .mv (.t 0), []⟩, ⟨some 54, (some (52, false)), .mv (.t 5), []⟩, ⟨some 55, (some (52, false)), .ia 1 (.t 53) (.t 54), []⟩, ⟨some 56, (some (52, false)), .ld 1 false (.t 55), []⟩, ⟨some 57, (some (52, false)), .bi .gtr .i64 (.t 56) (.k (.int .i64 57343)), []⟩, ⟨some 58, none, .pick (.t 52) (.k (.bool true)) (.t 57), []⟩])
 (.cond (.t 58) (.seq (.reg [] [⟨some 2, none, .mv (.k (.str [])), []⟩, ⟨some 3, none, .mv (.k (.bool false)), []⟩])
 (.ret)) (.skip)))
 (.reg [] [⟨some 59, none, .mv (.t 6), []⟩, ⟨some 60, none, .bi .sub .i64 (.t 59) (.k (.int .i64 55296)), []⟩, ⟨some 61, none, .bi .mul .i64 (.k (.int .i64 1024)) (.t 60), []⟩, ⟨some 62, none, .bi .add .i64 (.k (.int .i64 65536)) (.t 61), []⟩, ⟨some 63, none, .mv (.t 0), []⟩, ⟨some 64, none, .mv (.t 5), []⟩, ⟨some 65, none, .ia 1 (.t 63) (.t 64), []⟩, ⟨some 66, none, .ld 1 false (.t 65), []⟩, ⟨some 67, none, .bi .add .i64 (.t 62) (.t 66), []⟩, ⟨some 68, none, .bi .sub .i64 (.t 67) (.k (.int .i64 56320)), []⟩, ⟨some 6, none, .mv (.t 68), []⟩]))) (.skip))))))
 (.reg [] [⟨some 69, none, .mv (.t 4), []⟩, ⟨some 70, none, .mv (.t 6), []⟩, ⟨some 71, none, .cvi .i32 (.t 70), []⟩, ⟨some 72, none, .call 179 [(.t 69), (.t 71)], []⟩, ⟨some 4, none, .mv (.t 72), []⟩]))))
 (.reg [] [⟨some 11, none, .mv (.t 5), []⟩, ⟨some 12, none, .bi .add .i64 (.t 11) (.k (.int .i64 1)), []⟩, ⟨some 5, none, .mv (.t 12), []⟩]))))))
 (.seq (.reg [] [⟨some 73, none, .mv (.t 4), []⟩, ⟨some 74, none, .cvb2s (.t 73), []⟩, ⟨some 2, none, .mv (.t 74), []⟩, ⟨some 3, none, .mv (.k (.bool true)), []⟩])
 (.ret))))⟩
theorem ck169 : chkFn Tryz.prog 169 ir169 = true := by kernel_rfl
def ir179 : AFn := ⟨16, 2, [.t 4], .seq (.reg [] [⟨some 4, none, .mv (.k (.sl .nil 1 [])), []⟩])
 (.seq (.seq (.reg [] [⟨some 5, none, .mv (.t 1), []⟩, ⟨some 6, none, .cvi .u32 (.t 5), []⟩, ⟨some 7, none, .bi .leq .u32 (.t 6) (.k (.int .u32 127)), []⟩])
 (.cond (.t 7) (.seq (.reg [] [⟨some 8, none, .mv (.t 0), []⟩, ⟨some 9, none, .mv (.t 1), []⟩, ⟨some 10, none, .cvi .u8 (.t 9), []⟩, ⟨some 11, none, .bls 1 1 [.int .u8 0] [(0, (.t 10))], []⟩, ⟨some 12, none, .app 1 1 (.t 8) (.t 11), []⟩, ⟨some 4, none, .mv (.t 12), []⟩])
 (.ret)) (.skip)))
 (.seq (.reg [] [⟨some 13, none, .mv (.t 0), []⟩, ⟨some 14, none, .mv (.t 1), []⟩, ⟨some 15, none, .call 188 [(.t 13), (.t 14)], []⟩, ⟨some 4, none, .mv (.t 15), []⟩])
 (.ret)))⟩
theorem ck179 : chkFn Tryz.prog 179 ir179 = true := by kernel_rfl
def ir188 : AFn := ⟨78, 2, [.t 4], .seq (.reg [] [⟨some 4, none, .mv (.k (.sl .nil 1 [])), []⟩])
 (.seq (.reg [] [⟨some 6, none, .mv (.t 1), []⟩, ⟨some 7, none, .cvi .u32 (.t 6), []⟩, ⟨some 5, none, .mv (.t 7), []⟩])
 (.block 0 (.seq (.reg [] [⟨some 12, none, .mv (.t 5), []⟩, ⟨some 13, none, .bi .leq .u32 (.t 12) (.k (.int .u32 2047)), []⟩, ⟨some 11, none, .mv (.t 13), []⟩])
 (.cond (.t 11) (.seq (.reg [] [⟨some 14, none, .mv (.t 0), []⟩, ⟨some 15, none, .mv (.t 1), []⟩, ⟨some 16, none, .shf .shr (.t 15) (.k (.int .u64 6)), []⟩, ⟨some 17, none, .cvi .u8 (.t 16), []⟩, ⟨some 18, none, .bi .or .u8 (.k (.int .u8 192)) (.t 17), []⟩, ⟨some 19, none, .mv (.t 1), []⟩, ⟨some 20, none, .cvi .u8 (.t 19), []⟩, ⟨some 21, none, .bi .and .u8 (.t 20) (.k (.int .u8 63)), []⟩, ⟨some 22, none, .bi .or .u8 (.k (.int .u8 128)) (.t 21), []⟩, ⟨some 23, none, .bls 1 2 [.int .u8 0] [(0, (.t 18)), (1, (.t 22))], []⟩, ⟨some 24, none, .app 1 1 (.t 14) (.t 23), []⟩, ⟨some 4, none, .mv (.t 24), []⟩])
 (.ret)) (.seq (.seq (.reg [] [⟨some 26, none, .mv (.t 5), []⟩, ⟨some 27, none, .bi .lss .u32 (.t 26) (.k (.int .u32 55296)), []⟩, ⟨some 25, none, .mv (.t 27), []⟩])
 (.cond (.t 25) (.skip) (.reg [] [⟨some 28, none, .mv (.t 5), []⟩, ⟨some 29, none, .bi .lss .u32 (.k (.int .u32 57343)) (.t 28), []⟩, ⟨some 30, none, .mv (.t 29), []⟩, ⟨some 31, (some (30, true)), .mv (.t 5), []⟩, ⟨some 32, (some (30, true)), .bi .leq .u32 (.t 31) (.k (.int .u32 65535)), []⟩, ⟨some 33, none, .pick (.t 30) (.t 32) (.k (.bool false)), []⟩, ⟨some 25, none, .mv (.t 33), []⟩])))
 (.cond (.t 25) (.seq (.reg [] [⟨some 34, none, .mv (.t 0), []⟩, ⟨some 35, none, .mv (.t 1), []⟩, ⟨some 36, none, .shf .shr (.t 35) (.k (.int .u64 12)), []⟩, ⟨some 37, none, .cvi .u8 (.t 36), []⟩, ⟨some 38, none, .bi .or .u8 (.k (.int .u8 224)) (.t 37), []⟩, ⟨some 39, none, .mv (.t 1), []⟩, ⟨some 40, none, .shf .shr (.t 39) (.k (.int .u64 6)), []⟩, ⟨some 41, none, .cvi .u8 (.t 40), []⟩, ⟨some 42, none, .bi .and .u8 (.t 41) (.k (.int .u8 63)), []⟩, ⟨some 43, none, .bi .or .u8 (.k (.int .u8 128)) (.t 42), []⟩, ⟨some 44, none, .mv (.t 1), []⟩, ⟨some 45, none, .cvi .u8 (.t 44), []⟩, ⟨some 46, none, .bi .and .u8 (.t 45) (.k (.int .u8 63)), []⟩, ⟨some 47, none, .bi .or .u8 (.k (.int .u8 128)) (.t 46), []⟩, ⟨some 48, none, .bls 1 3 [.int .u8 0] [(0, (.t 38)), (1, (.t 43)), (2, (.t 47))], []⟩, ⟨some 49, none, .app 1 1 (.t 34) (.t 48), []⟩, ⟨some 4, none, .mv (.t 49), []⟩])
 (.ret)) (.seq (.reg [] [⟨some 51, none, .mv (.t 5), []⟩, ⟨some 52, none, .bi .gtr .u32 (.t 51) (.k (.int .u32 65535)), []⟩, ⟨some 53, none, .mv (.t 52), []⟩, ⟨some 54, (some (53, true)), .mv (.t 5), []⟩, ⟨some 55, (some (53, true)), .bi .leq .u32 (.t 54) (.k (.int .u32 1114111)), []⟩, ⟨some 56, none, .pick (.t 53) (.t 55) (.k (.bool false)), []⟩, ⟨some 50, none, .mv (.t 56), []⟩])
 (.cond (.t 50) (.seq (.reg [] [⟨some 57, none, .mv (.t 0), []⟩, ⟨some 58, none, .mv (.t 1), []⟩, ⟨some 59, none, .shf .shr (.t 58) (.k (.int .u64 18)), []⟩, ⟨some 60, none, .cvi .u8 (.t 59), []⟩, ⟨some 61, none, .bi .or .u8 (.k (.int .u8 240)) (.t 60), []⟩, ⟨some 62, none, .mv (.t 1), []⟩, ⟨some 63, none, .shf .shr (.t 62) (.k (.int .u64 12)), []⟩, ⟨some 64, none, .cvi .u8 (.t 63), []⟩, ⟨some 65, none, .bi .and .u8 (.t 64) (.k (.int .u8 63)), []⟩, ⟨some 66, none, .bi .or .u8 (.k (.int .u8 128)) (.t 65), []⟩, ⟨some 67, none, .mv (.t 1), []⟩, ⟨some 68, none, .shf .shr (.t 67) (.k (.int .u64 6)), []⟩, ⟨some 69, none, .cvi .u8 (.t 68), []⟩, ⟨some 70, none, .bi .and .u8 (.t 69) (.k (.int .u8 63)), []⟩, ⟨some 71, none, .bi .or .u8 (.k (.int .u8 128)) (.t 70), []⟩, ⟨some 72, none, .mv (.t 1), []⟩, ⟨some 73, none, .cvi .u8 (.t 72), []⟩, ⟨some 74, none, .bi .and .u8 (.t 73) (.k (.int .u8 63)), []⟩, ⟨some 75, none, .bi .or .u8 (.k (.int .u8 128)) (.t 74), []⟩, ⟨some 76, none, .bls 1 4 [.int .u8 0] [(0, (.t 61)), (1, (.t 66)), (2, (.t 71)), (3, (.t 75))], []⟩, ⟨some 77, none, .app 1 1 (.t 57) (.t 76), []⟩, ⟨some 4, none, .mv (.t 77), []⟩])
 (.ret)) (.seq (.reg [] [⟨some 8, none, .mv (.t 0), []⟩, ⟨some 9, none, .bls 1 3 [.int .u8 0] [(0, (.k (.int .u8 239))), (1, (.k (.int .u8 191))), (2, (.k (.int .u8 189)))], []⟩, ⟨some 10, none, .app 1 1 (.t 8) (.t 9), []⟩, ⟨some 4, none, .mv (.t 10), []⟩])
 (.ret))))))))))⟩
theorem ck188 : chkFn Tryz.prog 188 ir188 = true := by kernel_rfl
end Go.Proofs.YtpjafglhdlfnbaaGreatDoor
namespace Go.Proofs.YtpjafglhdlfnbaaGreatDoor
open Go.Ab
mutual
inductive Val where
  | mk (k n : Int) (s : List UInt8) (l : List Val) (m : List Mem)
inductive Mem where
  | mk (name : List UInt8) (v : Val)
end
mutual
def cV : Val → List AV
  | .mk k n s l m => [.int .i64 k, .int .i64 n, .str s, .sl .no 5 (cVs l), .sl .no 6 (cMs m)]
def cVs : List Val → List (List AV)
  | [] => []
  | v :: r => cV v :: cVs r
def cM : Mem → List AV
  | .mk s v => .str s :: cV v
def cMs : List Mem → List (List AV)
  | [] => []
  | x :: r => cM x :: cMs r
end
theorem cVs_map : ∀ l, cVs l = l.map cV
  | [] => rfl
  | v :: r => by rw [cVs, cVs_map r]; rfl
theorem cMs_map : ∀ l, cMs l = l.map cM
  | [] => rfl
  | v :: r => by rw [cMs, cMs_map r]; rfl
theorem cVs_len (l : List Val) : (cVs l).length = l.length := by rw [cVs_map]; simp
theorem cMs_len (l : List Mem) : (cMs l).length = l.length := by rw [cMs_map]; simp
theorem cVs_get {l a : List Val} {x : Val} {b : List Val} (h : l = a ++ x :: b) : (cVs l).getD a.length [] = cV x := by rw [cVs_map, getD_mid' h]
theorem cMs_get {l a : List Mem} {x : Mem} {b : List Mem} (h : l = a ++ x :: b) : (cMs l).getD a.length [] = cM x := by rw [cMs_map, getD_mid' h]
theorem cV_mk (k n : Int) (s : List UInt8) (l : List Val) (m : List Mem) : cV (.mk k n s l m) = [.int .i64 k, .int .i64 n, .str s, .sl .no 5 (cVs l), .sl .no 6 (cMs m)] := rfl
theorem cM_mk (s : List UInt8) (v : Val) : cM (.mk s v) = .str s :: cV v := rfl
theorem cV_strip (v : Val) : (cV v).map AV.strip1 = cV v := by cases v; rfl
theorem cM_strip (v : Mem) : (cM v).map AV.strip1 = cM v := by cases v with | mk s v => cases v; rfl
mutual
theorem Val.ind {P : Val → Prop} (h : ∀ k n s l m, (∀ v ∈ l, P v) → (∀ s v, Mem.mk s v ∈ m → P v) → P (.mk k n s l m)) : ∀ v, P v
  | .mk k n s l m => h k n s l m (Val.indL h l) (fun s v hm => Val.indM h m s v hm)
theorem Val.indL {P : Val → Prop} (h : ∀ k n s l m, (∀ v ∈ l, P v) → (∀ s v, Mem.mk s v ∈ m → P v) → P (.mk k n s l m)) : ∀ l : List Val, ∀ v ∈ l, P v
  | [], _, hv => by cases hv
  | x :: r, v, hv => (List.mem_cons.1 hv).elim (fun e => e ▸ Val.ind h x) (Val.indL h r v)
theorem Val.ind1 {P : Val → Prop} (h : ∀ k n s l m, (∀ v ∈ l, P v) → (∀ s v, Mem.mk s v ∈ m → P v) → P (.mk k n s l m)) : ∀ m : Mem, ∀ s v, m = .mk s v → P v
  | .mk s v, s', v', e => by cases e; exact Val.ind h v
theorem Val.indM {P : Val → Prop} (h : ∀ k n s l m, (∀ v ∈ l, P v) → (∀ s v, Mem.mk s v ∈ m → P v) → P (.mk k n s l m)) : ∀ l : List Mem, ∀ s v, Mem.mk s v ∈ l → P v
  | [], _, _, hv => by cases hv
  | x :: r, s, v, hv => (List.mem_cons.1 hv).elim (fun e => Val.ind1 h x s v e.symm) (Val.indM h r s v)
end
theorem cV_len (v : Val) : (cV v).length = 5 := by cases v; rfl
theorem cM_len (x : Mem) : (cM x).length = 6 := by cases x with | mk s v => cases v; rfl
theorem cV_take (v : Val) : (cV v).take 5 = cV v := by cases v; rfl
theorem cM_take (x : Mem) : (cM x).take 6 = cM x := by cases x with | mk s v => cases v; rfl
theorem cV_splice (a b c d e : AV) (v : Val) : splice [a, b, c, d, e] 0 (cV v) = cV v := by cases v; rfl
theorem cM_splice (a b c d e f : AV) (x : Mem) : splice [a, b, c, d, e, f] 0 (cM x) = cM x := by cases x with | mk s v => cases v; rfl
mutual
def bV : Val → Nat
  | .mk _ _ s l m => 1 + s.length + bVs l + bMs m
def bVs : List Val → Nat
  | [] => 0
  | v :: r => bV v + bVs r
def bM : Mem → Nat
  | .mk s v => s.length + bV v
def bMs : List Mem → Nat
  | [] => 0
  | x :: r => bM x + bMs r
end
theorem bV_pos (v : Val) : 1 ≤ bV v := by cases v; simp only [bV]; omega
theorem bM_pos (v : Mem) : 1 ≤ bM v := by cases v with | mk s v => have := bV_pos v; simp only [bM]; omega
theorem bVs_len : ∀ l, l.length ≤ bVs l
  | [] => by simp
  | v :: r => by have := bVs_len r; have := bV_pos v; simp only [bVs, List.length_cons]; omega
theorem bMs_len : ∀ l, l.length ≤ bMs l
  | [] => by simp
  | v :: r => by have := bMs_len r; have := bM_pos v; simp only [bMs, List.length_cons]; omega
theorem bVs_mid (a : List Val) (x : Val) (b : List Val) : bVs (a ++ x :: b) = bVs a + bV x + bVs b := by
  induction a with
  | nil => simp [bVs]
  | cons y a ih => simp only [List.cons_append, bVs, ih]; omega
theorem bMs_mid (a : List Mem) (x : Mem) (b : List Mem) : bMs (a ++ x :: b) = bMs a + bM x + bMs b := by
  induction a with
  | nil => simp [bMs]
  | cons y a ih => simp only [List.cons_append, bMs, ih]; omega
abbrev Lim : Nat := 1099511627776
noncomputable def eqd {α : Type} (a b : α) : Bool := @decide (a = b) (Classical.propDecidable _)
theorem eqd_true {α : Type} {a b : α} (h : a = b) : eqd a b = true := by simp [eqd, h]
theorem eqd_false {α : Type} {a b : α} (h : a ≠ b) : eqd a b = false := by simp [eqd, h]
theorem two_mid {α : Type} {a b done rest : List α} {x : α} (h : a = done ++ x :: rest) (hl : a.length = b.length) (hp : b.take done.length = done) : ∃ y r, b = done ++ y :: r := by
  have h1 : done.length < b.length := by rw [← hl, h]; simp
  refine ⟨b[done.length], b.drop (done.length + 1), ?_⟩
  conv => lhs; rw [← List.take_append_drop done.length b, hp, List.drop_eq_getElem_cons h1]
theorem two_step {α : Type} {b done r : List α} {y : α} (h : b = done ++ y :: r) : b.take (done ++ [y]).length = done ++ [y] := by
  subst h
  have e : done ++ y :: r = (done ++ [y]) ++ r := by simp
  rw [e, List.take_left']; rfl
theorem two_end {α : Type} {a b : List α} (hl : a.length = b.length) (hp : b.take a.length = a) : a = b := by
  rw [hl, List.take_length] at hp; exact hp.symm
theorem two_ne {α : Type} {a b done rest r : List α} {x y : α} (h : a = done ++ x :: rest) (h' : b = done ++ y :: r) (hxy : x ≠ y) : a ≠ b := fun e => by
  rw [h, h'] at e
  exact hxy (List.cons.inj (List.append_cancel_left e)).1
end Go.Proofs.YtpjafglhdlfnbaaGreatDoor
namespace Go.Proofs.YtpjafglhdlfnbaaGreatDoor
open Go.Ab
mutual
def depthV : Val → Int
  | .mk k _ _ l m => if k = 6 then depthVs l 0 + 1 else if k = 7 then depthMs m 0 + 1 else 0
def depthVs : List Val → Int → Int
  | [], n => n
  | v :: r, n => depthVs r (mm2 true n (depthV v))
def depthM : Mem → Int
  | .mk _ v => depthV v
def depthMs : List Mem → Int → Int
  | [], n => n
  | x :: r, n => depthMs r (mm2 true n (depthM x))
end
theorem mm2_ge (a b : Int) : a ≤ mm2 true a b := by simp only [mm2, if_true]; split <;> omega
mutual
theorem depthV_le : ∀ v, 0 ≤ depthV v ∧ depthV v ≤ bV v
  | .mk k n s l m => by
    have h1 := depthVs_le l 0
    have h2 := depthMs_le m 0
    simp only [depthV, bV]
    split
    · omega
    · split <;> omega
theorem depthVs_le : ∀ l (n : Int), n ≤ depthVs l n ∧ (depthVs l n ≤ n ∨ depthVs l n ≤ bVs l)
  | [], n => by simp [depthVs, bVs]
  | v :: r, n => by
    have h1 := depthV_le v
    have h2 := depthVs_le r (mm2 true n (depthV v))
    have h3 := mm2_ge n (depthV v)
    have h4 : mm2 true n (depthV v) = n ∨ mm2 true n (depthV v) = depthV v := by simp only [mm2, if_true]; split <;> simp
    simp only [depthVs, bVs]
    omega
theorem depthM_le : ∀ x, 0 ≤ depthM x ∧ depthM x ≤ bM x
  | .mk s v => by have := depthV_le v; simp only [depthM, bM]; omega
theorem depthMs_le : ∀ l (n : Int), n ≤ depthMs l n ∧ (depthMs l n ≤ n ∨ depthMs l n ≤ bMs l)
  | [], n => by simp [depthMs, bMs]
  | v :: r, n => by
    have h1 := depthM_le v
    have h2 := depthMs_le r (mm2 true n (depthM v))
    have h3 := mm2_ge n (depthM v)
    have h4 : mm2 true n (depthM v) = n ∨ mm2 true n (depthM v) = depthM v := by simp only [mm2, if_true]; split <;> simp
    simp only [depthMs, bMs]
    omega
end
def zV : Val := .mk 0 0 [] [] []
theorem intP (n : Int) : Pure Tryz.prog 113 [.int .i64 n] (.agg (cV (.mk 2 n [] [] []))) := by
  refine Pure.go ir113 ck113 (Nat.le_refl _) fun KP Q hQ => ?_
  simp (disch := first | omega | assumption) only [ir113, go_sem, ↓reduceIte]
  refine goA_intro fun b hb => ?_
  simp (disch := first | omega | assumption) only [go_sem, ↓reduceIte]
  exact hQ _ _ _ [.agg [.int .i64 2, .int .i64 n, .str [], .sl .nil 5 [], .sl .nil 6 []]] nofun (by simp (disch := first | omega | assumption) only [ir113, resvs, resv, go_sem, ↓reduceIte]) rfl
theorem intR (n : Int) : Pure Tryz.prog 116 [.int .i64 n] (.agg (cV (.mk 2 n [] [] []))) := by
  refine Pure.go ir116 ck116 (Nat.le_refl _) fun KP Q hQ => ?_
  simp (disch := first | omega | assumption) only [ir116, go_sem, ↓reduceIte]
  refine goA_intro fun b hb => ?_
  simp (disch := first | omega | assumption) only [go_sem, ↓reduceIte]
  exact hQ _ _ _ [.agg [.int .i64 2, .int .i64 n, .str [], .sl .nil 5 [], .sl .nil 6 []]] nofun (by simp (disch := first | omega | assumption) only [ir116, resvs, resv, go_sem, ↓reduceIte]) rfl
theorem textP (t : List UInt8) : Pure Tryz.prog 62 [.str t] (.agg (cV (.mk 4 0 t [] []))) := by
  refine Pure.go ir62 ck62 (Nat.le_refl _) fun KP Q hQ => ?_
  simp (disch := first | omega | assumption) only [ir62, go_sem, ↓reduceIte]
  refine goA_intro fun b hb => ?_
  simp (disch := first | omega | assumption) only [go_sem, ↓reduceIte]
  exact hQ _ _ _ [.agg [.int .i64 4, .int .i64 0, .str t, .sl .nil 5 [], .sl .nil 6 []]] nofun (by simp (disch := first | omega | assumption) only [ir62, resvs, resv, go_sem, ↓reduceIte]) rfl
theorem textR (t : List UInt8) : Pure Tryz.prog 73 [.str t] (.agg (cV (.mk 4 0 t [] []))) := by
  refine Pure.go ir73 ck73 (Nat.le_refl _) fun KP Q hQ => ?_
  simp (disch := first | omega | assumption) only [ir73, go_sem, ↓reduceIte]
  refine goA_intro fun b hb => ?_
  simp (disch := first | omega | assumption) only [go_sem, ↓reduceIte]
  exact hQ _ _ _ [.agg [.int .i64 4, .int .i64 0, .str t, .sl .nil 5 [], .sl .nil 6 []]] nofun (by simp (disch := first | omega | assumption) only [ir73, resvs, resv, go_sem, ↓reduceIte]) rfl
def getV (t : List UInt8) : List Mem → Val × Bool
  | [] => (zV, false)
  | .mk s v :: r => if s = t then (v, true) else getV t r
theorem getP (t : List UInt8) (m : List Mem) (hb : m.length ≤ Lim) : Pure Tryz.prog 29 [.str t, .sl .no 6 (cMs m)] (.tup [.agg (cV (getV t m).1), .bool (getV t m).2]) := by
  refine Pure.go ir29 ck29 (Nat.le_refl _) fun KP Q hQ => ?_
  have hm := cMs_len m
  simp only [Lim] at hb
  simp (disch := first | omega | assumption) only [ir29, go_sem, ↓reduceIte]
  refine goA_intro fun b hb => ?_
  simp (disch := first | omega | assumption) only [hm, go_sem, ↓reduceIte]
  refine goL_range m 10 (fun _ : Unit => []) (fun done rest n H => getV t rest = getV t m ∧ H b = some (.cells [.int .i64 0, .int .i64 0, .str [], .sl .nil 5 [], .sl .nil 6 []])) () (by simp (disch := first | omega | assumption) only [go_sem, ↓reduceIte]) ⟨rfl, by simp [Heap.upd]⟩ ?_ ?_
  · rintro n H J ⟨hn, hH⟩ hlt
    simp (disch := first | omega | assumption) only [hm, hlt, hH, go_sem, ↓reduceIte]
    refine hQ _ _ _ [.agg [.int .i64 0, .int .i64 0, .str [], .sl .nil 5 [], .sl .nil 6 []], .bool false] nofun (by simp (disch := first | omega | assumption) only [ir29, resvs, resv, go_sem, ↓reduceIte]) ?_
    rw [← hn]
    rfl
  · rintro done x rest n H J hd hlt _ ⟨hn, hH⟩ hJ
    have hg := cMs_get hd
    cases x with
    | mk s v =>
    simp only [getV] at hn
    simp (disch := first | omega | assumption) only [cV_len, cV_take, cV_splice, cM_len, cM_take, cM_splice, cM_mk, hm, hlt, hg, go_sem, ↓reduceIte]
    refine goA_intro fun b2 hb2 => ?_
    have hne := ne_of_none hb2 hH
    by_cases hs : s = t
    · simp (disch := first | omega | assumption) only [cV_len, cV_take, cV_splice, cM_len, cM_take, cM_splice, cM_mk, hs, hH, Ne.symm hne, hne, go_sem, ↓reduceIte]
      simp only [hs, if_true] at hn
      refine hQ _ _ _ [.agg (cV v), .bool true] nofun (by simp (disch := first | omega | assumption) only [cV_len, cV_take, cV_splice, cM_len, cM_take, cM_splice, cM_mk, ir29, resvs, resv, go_sem, ↓reduceIte]) ?_
      rw [← hn]
      simp [tupOf, AV.strip, AV.strip1, cV_strip]
    · simp (disch := first | omega | assumption) only [cV_len, cV_take, cV_splice, cM_len, cM_take, cM_splice, cM_mk, hs, go_sem, ↓reduceIte]
      simp only [hs, if_false] at hn
      exact goJ (hJ () _ ⟨hn, by simp [Heap.upd, Ne.symm hne, hH]⟩) (by simp (disch := first | omega | assumption) only [wrap64, go_sem, ↓reduceIte])
theorem getR (t : List UInt8) (m : List Mem) (hb : m.length ≤ Lim) : Pure Tryz.prog 30 [.str t, .sl .no 6 (cMs m)] (.tup [.agg (cV (getV t m).1), .bool (getV t m).2]) := by
  refine Pure.go ir30 ck30 (Nat.le_refl _) fun KP Q hQ => ?_
  have hm := cMs_len m
  simp only [Lim] at hb
  simp (disch := first | omega | assumption) only [ir30, go_sem, ↓reduceIte]
  refine goA_intro fun b hb => ?_
  simp (disch := first | omega | assumption) only [hm, go_sem, ↓reduceIte]
  refine goL_range m 6 (fun _ : Unit => []) (fun done rest n H => getV t rest = getV t m ∧ H b = some (.cells [.int .i64 0, .int .i64 0, .str [], .sl .nil 5 [], .sl .nil 6 []])) () (by simp (disch := first | omega | assumption) only [go_sem, ↓reduceIte]) ⟨rfl, by simp [Heap.upd]⟩ ?_ ?_
  · rintro n H J ⟨hn, hH⟩ hlt
    simp (disch := first | omega | assumption) only [hm, hlt, hH, go_sem, ↓reduceIte]
    refine hQ _ _ _ [.agg [.int .i64 0, .int .i64 0, .str [], .sl .nil 5 [], .sl .nil 6 []], .bool false] nofun (by simp (disch := first | omega | assumption) only [ir30, resvs, resv, go_sem, ↓reduceIte]) ?_
    rw [← hn]
    rfl
  · rintro done x rest n H J hd hlt _ ⟨hn, hH⟩ hJ
    have hg := cMs_get hd
    cases x with
    | mk s v =>
    simp only [getV] at hn
    by_cases hs : s = t
    · simp (disch := first | omega | assumption) only [cV_len, cV_take, cV_splice, cM_len, cM_take, cM_splice, cM_mk, hm, hlt, hg, hs, hH, go_sem, ↓reduceIte]
      simp only [hs, if_true] at hn
      refine hQ _ _ _ [.agg (cV v), .bool true] nofun (by simp (disch := first | omega | assumption) only [cV_len, cV_take, cV_splice, cM_len, cM_take, cM_splice, cM_mk, ir30, resvs, resv, go_sem, ↓reduceIte]) ?_
      rw [← hn]
      simp [tupOf, AV.strip, AV.strip1, cV_strip]
    · simp (disch := first | omega | assumption) only [cV_len, cV_take, cV_splice, cM_len, cM_take, cM_splice, cM_mk, hm, hlt, hg, hs, go_sem, ↓reduceIte]
      simp only [hs, if_false] at hn
      exact goJ (hJ () _ ⟨hn, hH⟩) (by simp (disch := first | omega | assumption) only [wrap64, go_sem, ↓reduceIte])
end Go.Proofs.YtpjafglhdlfnbaaGreatDoor
namespace Go.Proofs.YtpjafglhdlfnbaaGreatDoor
open Go.Ab
end Go.Proofs.YtpjafglhdlfnbaaGreatDoor
namespace Go.Proofs.YtpjafglhdlfnbaaGreatDoor
open Go.Ab
theorem membersR (a b : List Mem) (ha : a.length ≤ Lim) (hc : ∀ s v, Mem.mk s v ∈ a → ∀ u, Pure Tryz.prog 15 [.agg (cV v), .agg (cV u)] (.bool (eqd v u))) :
    Pure Tryz.prog 11 [.sl .no 6 (cMs a), .sl .no 6 (cMs b)] (.bool (eqd a b)) := by
  refine Pure.go ir11 ck11 (Nat.le_refl _) fun KP Q hQ => ?_
  have h1 := cMs_len a
  have h2 := cMs_len b
  simp only [Lim] at ha
  by_cases hl : a.length = b.length
  case neg =>
    have hl' : ¬ ((a.length : Int) = b.length) := by omega
    have hne : a ≠ b := fun e => hl (by rw [e])
    simp (disch := first | omega | assumption) only [ir11, h1, h2, hl', go_sem, ↓reduceIte]
    exact hQ _ _ _ _ nofun rfl (by simp [tupOf, envOf, AV.strip, AV.strip1, eqd_false hne])
  have hl' : ((a.length : Int) = b.length) = True := eq_true (by omega)
  simp (disch := first | omega | assumption) only [ir11, h1, h2, hl', go_sem, ↓reduceIte]
  refine goL_range a 5 (fun _ : Unit => []) (fun done rest n H => b.take done.length = done) () (by simp (disch := first | omega | assumption) only [go_sem, ↓reduceIte]) rfl ?_ ?_
  · rintro n H J hp hlt
    simp (disch := first | omega | assumption) only [h1, hlt, go_sem, ↓reduceIte]
    exact hQ _ _ _ _ nofun rfl (by simp [tupOf, envOf, AV.strip, AV.strip1, eqd_true (two_end hl hp)])
  · rintro done x rest n H J hd hlt _ hp hJ
    obtain ⟨y, r, hb⟩ := two_mid hd hl hp
    have g1 := cMs_get hd
    have g2 := cMs_get hb
    have hlt2 : (done.length : Int) < b.length := by omega
    have hmem : x ∈ a := by rw [hd]; simp
    have hst := two_step hb
    have hne : x ≠ y → a ≠ b := two_ne hd hb
    obtain ⟨s, v⟩ := x
    obtain ⟨t, u⟩ := y
    by_cases hs : s = t
    case neg =>
      have hne2 := hne (by simp [hs])
      simp (disch := first | omega | assumption) only [cV_len, cV_take, cV_splice, cM_len, cM_take, cM_splice, cM_mk, h1, h2, hlt, hlt2, g1, g2, hs, go_sem, ↓reduceIte]
      exact hQ _ _ _ _ nofun rfl (by simp [tupOf, envOf, AV.strip, AV.strip1, eqd_false hne2])
    simp (disch := first | omega | assumption) only [cV_len, cV_take, cV_splice, cM_len, cM_take, cM_splice, cM_mk, h1, h2, hlt, hlt2, g1, g2, hs, go_sem, ↓reduceIte]
    refine goK_pure (hc s v hmem u) ?_
    by_cases hv : v = u
    · simp (disch := first | omega | assumption) only [eqd_true hv, go_sem, ↓reduceIte]
      exact goJ (hJ () _ (by rw [hs, hv]; exact hst)) (by simp (disch := first | omega | assumption) only [wrap64, go_sem, ↓reduceIte])
    · have := hne (by simp [hv])
      simp (disch := first | omega | assumption) only [eqd_false hv, go_sem, ↓reduceIte]
      exact hQ _ _ _ _ nofun rfl (by simp [tupOf, envOf, AV.strip, AV.strip1, eqd_false this])
theorem sameR : ∀ v, bV v ≤ Lim → ∀ u, Pure Tryz.prog 15 [.agg (cV v), .agg (cV u)] (.bool (eqd v u)) := by
  refine Val.ind fun k n s l m ihl ihm hb u => ?_
  obtain ⟨k', n', s', l', m'⟩ := u
  have hb' : 1 + s.length + bVs l + bMs m ≤ Lim := hb
  have hll := bVs_len l
  have hml := bMs_len m
  have il : ∀ x ∈ l, ∀ y, Pure Tryz.prog 15 [.agg (cV x), .agg (cV y)] (.bool (eqd x y)) := fun x hx y => by
    obtain ⟨a, b, hd⟩ := List.append_of_mem hx
    have := bVs_mid a x b
    rw [← hd] at this
    exact ihl x hx (by omega) y
  have im : ∀ s v, Mem.mk s v ∈ m → ∀ u, Pure Tryz.prog 15 [.agg (cV v), .agg (cV u)] (.bool (eqd v u)) := fun t v hx u => by
    obtain ⟨a, b, hd⟩ := List.append_of_mem hx
    have := bMs_mid a (.mk t v) b
    rw [← hd] at this
    simp only [bM] at this
    exact ihm t v hx (by omega) u
  refine Pure.go ir15 ck15 (Nat.le_refl _) fun KP Q hQ => ?_
  have hlb := cVs_len l
  have hlb' := cVs_len l'
  by_cases h1 : k = k'
  case neg =>
    have hne : ¬ (Val.mk k n s l m = Val.mk k' n' s' l' m') := by simp [h1]
    simp (disch := first | omega | assumption) only [ir15, cV_mk, h1, go_sem, ↓reduceIte]
    exact hQ _ _ _ _ nofun rfl (by simp [tupOf, envOf, AV.strip, AV.strip1, eqd_false hne])
  by_cases h2 : n = n'
  case neg =>
    have hne : ¬ (Val.mk k n s l m = Val.mk k' n' s' l' m') := by simp [h2]
    simp (disch := first | omega | assumption) only [ir15, cV_mk, h1, h2, go_sem, ↓reduceIte]
    exact hQ _ _ _ _ nofun rfl (by simp [tupOf, envOf, AV.strip, AV.strip1, eqd_false hne])
  by_cases h3 : s = s'
  case neg =>
    have hne : ¬ (Val.mk k n s l m = Val.mk k' n' s' l' m') := by simp [h3]
    simp (disch := first | omega | assumption) only [ir15, cV_mk, h1, h2, h3, go_sem, ↓reduceIte]
    exact hQ _ _ _ _ nofun rfl (by simp [tupOf, envOf, AV.strip, AV.strip1, eqd_false hne])
  by_cases hl : l.length = l'.length
  case neg =>
    have hl' : ¬ ((l.length : Int) = l'.length) := by omega
    have hne : ¬ (Val.mk k n s l m = Val.mk k' n' s' l' m') := by simp only [Val.mk.injEq]; rintro ⟨_, _, _, e, _⟩; exact hl (by rw [e])
    simp (disch := first | omega | assumption) only [ir15, cV_mk, h1, h2, h3, hlb, hlb', hl', go_sem, ↓reduceIte]
    exact hQ _ _ _ _ nofun rfl (by simp [tupOf, envOf, AV.strip, AV.strip1, eqd_false hne])
  have hl' : ((l.length : Int) = l'.length) = True := eq_true (by omega)
  simp (disch := first | omega | assumption) only [ir15, cV_mk, h1, h2, h3, hlb, hlb', hl', go_sem, ↓reduceIte]
  simp only [Lim] at hb'
  refine goL_range l 5 (fun _ : Unit => []) (fun done rest n H => l'.take done.length = done) () (by simp (disch := first | omega | assumption) only [go_sem, ↓reduceIte]) rfl ?_ ?_
  · rintro _ H J hp hlt
    have e4 := two_end hl hp
    simp (disch := first | omega | assumption) only [hlb, hlt, go_sem, ↓reduceIte]
    refine goK_pure (membersR m m' (by simp only [Lim]; omega) im) ?_
    simp (disch := first | omega | assumption) only [go_sem, ↓reduceIte]
    have : eqd (Val.mk k n s l m) (Val.mk k' n' s' l' m') = eqd m m' := by
      by_cases h : m = m'
      · rw [eqd_true h, eqd_true (by rw [h1, h2, h3, e4, h])]
      · rw [eqd_false h, eqd_false (by simp [h])]
    exact hQ _ _ _ _ nofun rfl (by simp [tupOf, envOf, AV.strip, AV.strip1, this])
  · rintro done x rest _ H J hd hlt _ hp hJ
    obtain ⟨y, r, hb⟩ := two_mid hd hl hp
    have g1 := cVs_get hd
    have g2 := cVs_get hb
    have hlt2 : (done.length : Int) < l'.length := by omega
    simp (disch := first | omega | assumption) only [cV_len, cV_take, cV_splice, cM_len, cM_take, cM_splice, cM_mk, hlb, hlb', hlt, hlt2, g1, g2, go_sem, ↓reduceIte]
    refine goK_pure (il x (by rw [hd]; simp) y) ?_
    by_cases hxy : x = y
    · simp (disch := first | omega | assumption) only [eqd_true hxy, go_sem, ↓reduceIte]
      exact goJ (hJ () _ (by rw [hxy]; exact two_step hb)) (by simp (disch := first | omega | assumption) only [wrap64, go_sem, ↓reduceIte])
    · have hne : ¬ (Val.mk k n s l m = Val.mk k' n' s' l' m') := by simp only [Val.mk.injEq]; rintro ⟨_, _, _, e, _⟩; exact two_ne hd hb hxy e
      simp (disch := first | omega | assumption) only [eqd_false hxy, go_sem, ↓reduceIte]
      exact hQ _ _ _ _ nofun rfl (by simp [tupOf, envOf, AV.strip, AV.strip1, eqd_false hne])
end Go.Proofs.YtpjafglhdlfnbaaGreatDoor
namespace Go.Proofs.YtpjafglhdlfnbaaGreatDoor
open Go.Ab
end Go.Proofs.YtpjafglhdlfnbaaGreatDoor
namespace Go.Proofs.YtpjafglhdlfnbaaGreatDoor
open Go.Ab
abbrev OwnR (H : Heap) (o : Own) (sz : Nat) (xs : List (List AV)) : AV → Heap → Prop := fun v H' => ∃ o', v = .sl o' sz xs ∧ OwnS H o H' o' xs.length sz
abbrev Gives (P : Program) (f : FuncId) (args : List AV) (H : Heap) (o : Own) (sz : Nat) (xs : List (List AV)) : Prop :=
  ACalls P f args H (fun e H' => match e with | .ret v => OwnR H o sz xs v H' | .pan _ => False)
theorem goK_gives {P : Program} {KP : AV → Heap → Prop} {Q : AExit → Env → Heap → Prop} {st : List Fr} {ρ : Env} {H : Heap} {all l : List AItem} {d : Option Nat} {R : List Chk} {f : FuncId} {args : List AV} {o : Own} {sz : Nat} {xs : List (List AV)}
    (h : Gives P f args H o sz xs) (hk : ∀ o' H', OwnS H o H' o' xs.length sz → goR P KP Q all l st R (ρ.set d (.sl o' sz xs)) H') : goK P KP Q all l st d R ρ f args H :=
  goK_both (XP := fun _ _ => False) h (fun v H' ⟨o', e, hs⟩ => by subst e; exact hk o' H' hs) (fun _ _ h => h.elim)
end Go.Proofs.YtpjafglhdlfnbaaGreatDoor
namespace Go.Proofs.YtpjafglhdlfnbaaGreatDoor
open Go.Ab
def tipOf : Own → Option Nat
  | .tip b _ => some b
  | _ => none
structure Sep (H : Heap) (l : List (Own × Nat × Nat)) : Prop where
  own : ∀ x ∈ l, Owned H x.1 x.2.1 x.2.2
  nd : (l.filterMap fun x => tipOf x.1).Nodup
theorem tipOf_some {o : Own} {b : Nat} (h : tipOf o = some b) : ∃ d, o = .tip b d := by
  cases o <;> simp [tipOf] at h
  rename_i c d; subst h; exact ⟨d, rfl⟩
theorem Owned.ofKept {H H' : Heap} {o o2 : Own} {n sz : Nat} (h : Owned H o n sz) (hk : Kept H o2 H') (hne : ∀ b d d2, o = .tip b d → o2 ≠ .tip b d2) : Owned H' o n sz := by
  cases o with
  | tip b d => exact hk b _ h fun d2 e => hne b d d2 rfl e
  | no => exact h
  | nil => exact h
  | full => exact h
theorem Sep.step {H H' : Heap} {a b : List (Own × Nat × Nat)} {o o' : Own} {n n' sz : Nat} (h : Sep H (a ++ (o, n, sz) :: b)) (h' : OwnS H o H' o' n' sz) : Sep H' (a ++ (o', n', sz) :: b) := by
  have hnd := h.nd
  simp only [List.filterMap_append, List.filterMap_cons] at hnd
  have hother : ∀ x, x ∈ a ∨ x ∈ b → ∀ c d d2, x.1 = .tip c d → o ≠ .tip c d2 := fun x hx c d d2 hxe e => by
    subst e
    simp only [tipOf] at hnd
    rw [List.nodup_append] at hnd
    obtain ⟨_, hb, hab⟩ := hnd
    rcases hx with hx | hx
    · exact hab c (List.mem_filterMap.2 ⟨x, hx, by rw [hxe]⟩) c (List.mem_cons_self ..) rfl
    · exact (List.nodup_cons.1 hb).1 (List.mem_filterMap.2 ⟨x, hx, by rw [hxe]⟩)
  refine ⟨fun x hx => ?_, ?_⟩
  · rcases List.mem_append.1 hx with hx | hx
    · exact Owned.ofKept (h.own x (by simp [hx])) h'.kept fun c d d2 => hother x (.inl hx) c d d2
    · rcases List.mem_cons.1 hx with rfl | hx
      · exact h'.own
      · exact Owned.ofKept (h.own x (by simp [hx])) h'.kept fun c d d2 => hother x (.inr hx) c d d2
  · simp only [List.filterMap_append, List.filterMap_cons]
    have hsub : ∀ c, c ∈ a.filterMap (fun x => tipOf x.1) ∨ c ∈ b.filterMap (fun x => tipOf x.1) → tipOf o' ≠ some c := fun c hc e => by
      obtain ⟨d', e⟩ := tipOf_some e
      have hH : H c ≠ none ∧ ∀ d0, o ≠ .tip c d0 := by
        rcases hc with hc | hc <;> obtain ⟨x, hx, hxe⟩ := List.mem_filterMap.1 hc <;> obtain ⟨d, hxe⟩ := tipOf_some hxe
        · have := h.own x (by simp [hx]); rw [hxe] at this
          have h2 : H c = some _ := this
          exact ⟨by simp [h2], fun d0 => hother x (.inl hx) c d d0 hxe⟩
        · have := h.own x (by simp [hx]); rw [hxe] at this
          have h2 : H c = some _ := this
          exact ⟨by simp [h2], fun d0 => hother x (.inr hx) c d d0 hxe⟩
      rcases h'.new c d' e with h1 | ⟨d0, h1⟩
      · exact hH.1 h1
      · exact hH.2 d0 h1
    have hnd2 : (a.filterMap (fun x => tipOf x.1) ++ b.filterMap (fun x => tipOf x.1)).Nodup := by
      cases ho : tipOf o with
      | none => rw [ho] at hnd; exact hnd
      | some c =>
        rw [ho] at hnd
        rw [List.nodup_append] at hnd ⊢
        exact ⟨hnd.1, (List.nodup_cons.1 hnd.2.1).2, fun x hx y hy => hnd.2.2 x hx y (List.mem_cons_of_mem _ hy)⟩
    cases ho : tipOf o' with
    | none => exact hnd2
    | some c =>
      have hc := hsub c
      rw [List.nodup_append] at hnd2 ⊢
      refine ⟨hnd2.1, List.nodup_cons.2 ⟨fun hm => hc (.inr hm) ho, hnd2.2.1⟩, fun x hx y hy => ?_⟩
      rcases List.mem_cons.1 hy with rfl | hy
      · exact fun e => hc (.inl (e ▸ hx)) ho
      · exact hnd2.2.2 x hx y hy
theorem Sep.mono {H H' : Heap} {l : List (Own × Nat × Nat)} (h : Sep H l) (hk : ∀ c n sz, H c = some (.tip n sz) → H' c = some (.tip n sz)) : Sep H' l :=
  ⟨fun x hx => by
    have := h.own x hx
    obtain ⟨o, n, sz⟩ := x
    cases o with
    | tip c d => exact hk c _ _ this
    | no => exact this
    | nil => exact this
    | full => exact this, h.nd⟩
end Go.Proofs.YtpjafglhdlfnbaaGreatDoor
namespace Go.Proofs.YtpjafglhdlfnbaaGreatDoor
open Go.Ab Go.RowKit Go.Sort Go.Lib
theorem idxByteC (s : List UInt8) (c : UInt8) : Pure Tryz.prog 68 [.str s, .int .u8 c.toNat] (.int .i64 (Lib.indexByte s c)) := by
  refine Pure.of_calls fun γ w vs ht hv => ?_
  obtain ⟨hl, hr⟩ := hv
  match vs, hl with
  | [v, u], _ =>
    cases hr 0 _ _ rfl rfl
    cases hr 1 _ _ rfl rfl
    refine (Tryz.strings_IndexByte ⟨s.toArray⟩ c.toNat w).mono fun e w' ⟨he, hw⟩ => ⟨hw, _, he, ?_⟩
    have e1 : ((c.toNat : Int)).toNat.toUInt8 = c := by simp
    rw [e1]
    exact .int _ _
theorem containsC1 (s : List UInt8) (c : UInt8) : Pure Tryz.prog 64 [.str s, .str [c]] (.bool (decide (0 ≤ Lib.indexByte s c))) := by
  refine Pure.of_calls fun γ w vs ht hv => ?_
  obtain ⟨hl, hr⟩ := hv
  match vs, hl with
  | [v, u], _ =>
    cases hr 0 _ _ rfl rfl
    cases hr 1 _ _ rfl rfl
    exact (Tryz.strings_Contains_one ⟨s.toArray⟩ c w).mono fun e w' ⟨he, hw⟩ => ⟨hw, _, he, .bool _⟩
end Go.Proofs.YtpjafglhdlfnbaaGreatDoor
namespace Go.Proofs.YtpjafglhdlfnbaaGreatDoor
open Go.Ab
def isD (c : UInt8) : Bool := decide (48 ≤ c.toNat) && decide (c.toNat ≤ 57)
def isL (c : UInt8) : Bool := (decide (97 ≤ c.toNat) && decide (c.toNat ≤ 122)) || ((decide (65 ≤ c.toNat) && decide (c.toNat ≤ 90)) || decide (c.toNat = 95))
theorem digitC (c : UInt8) : Pure Tryz.prog 107 [.int .u8 (c.toNat : Int)] (.bool (isD c)) := by
  refine Pure.go ir107 ck107 (Nat.le_refl _) fun KP Q hQ => ?_
  by_cases h : (48 : Int) ≤ c.toNat
  · simp (disch := first | omega | assumption) only [ir107, h, go_sem, ↓reduceIte]
    have h' : 48 ≤ c.toNat := by omega
    have e : decide ((c.toNat : Int) ≤ 57) = decide (c.toNat ≤ 57) := by rw [decide_eq_decide]; omega
    exact hQ _ _ _ _ nofun rfl (by simp [tupOf, envOf, AV.strip, AV.strip1, isD, h', e])
  · simp (disch := first | omega | assumption) only [ir107, h, go_sem, ↓reduceIte]
    have h' : ¬ 48 ≤ c.toNat := by omega
    exact hQ _ _ _ _ nofun rfl (by simp [tupOf, envOf, AV.strip, AV.strip1, isD, h'])
theorem digitR (c : UInt8) : Pure Tryz.prog 127 [.int .u8 (c.toNat : Int)] (.bool (isD c)) := by
  refine Pure.go ir127 ck127 (Nat.le_refl _) fun KP Q hQ => ?_
  by_cases h : (48 : Int) ≤ c.toNat
  · simp (disch := first | omega | assumption) only [ir127, h, go_sem, ↓reduceIte]
    have h' : 48 ≤ c.toNat := by omega
    have e : decide ((c.toNat : Int) ≤ 57) = decide (c.toNat ≤ 57) := by rw [decide_eq_decide]; omega
    exact hQ _ _ _ _ nofun rfl (by simp [tupOf, envOf, AV.strip, AV.strip1, isD, h', e])
  · simp (disch := first | omega | assumption) only [ir127, h, go_sem, ↓reduceIte]
    have h' : ¬ 48 ≤ c.toNat := by omega
    exact hQ _ _ _ _ nofun rfl (by simp [tupOf, envOf, AV.strip, AV.strip1, isD, h'])
def nameG : List UInt8 → Nat → Bool
  | [], _ => true
  | c :: r, i => if isL c || (decide (i ≠ 0) && isD c) then nameG r (i + 1) else false
def nameM (s : List UInt8) : Bool := nameG s 0 && decide (s ≠ [])
theorem str_get {s a : List UInt8} {x : UInt8} {b : List UInt8} (h : s = a ++ x :: b) : s.getD a.length 0 = x := by subst h; simp
def run1 : List UInt8 → Nat
  | [] => 0
  | c :: r => if isD c then run1 r + 1 else 0
theorem run1_le : ∀ l, run1 l ≤ l.length
  | [] => Nat.le_refl _
  | c :: r => by have := run1_le r; simp only [run1, List.length_cons]; split <;> omega
theorem drop_cases (s : List UInt8) (k : Nat) : (s.drop k = [] ∧ s.length ≤ k) ∨ (k < s.length ∧ s.drop k = s.getD k 0 :: s.drop (k + 1)) := by
  rcases Nat.lt_or_ge k s.length with h | h
  · right
    refine ⟨h, ?_⟩
    rw [List.drop_eq_getElem_cons h]
    simp [h]
  · left; exact ⟨List.drop_of_length_le h, h⟩
theorem digitsC (s : List UInt8) (hs : s.length ≤ Lim) : Pure Tryz.prog 142 [.str s] (.int .i64 (run1 s)) := by
  refine Pure.go ir142 ck142 (Nat.le_refl _) fun KP Q hQ => ?_
  simp only [Lim] at hs
  have hr1 := run1_le s
  simp (disch := first | omega | assumption) only [ir142, go_sem, ↓reduceIte]
  refine goL_st (fun n : Nat => [(3, .int .i64 n)]) (fun n H => run1 s = n + run1 (s.drop n) ∧ n ≤ s.length) (fun n => s.length - n) 0 (by simp (disch := first | omega | assumption) only [go_sem, ↓reduceIte]) ⟨by simp, by omega⟩ ?_
  rintro n H J ⟨hn, hle⟩ hJ
  rcases drop_cases s n with ⟨h1, h2⟩ | ⟨h1, h2⟩
  · have hlt : ¬ ((n : Int) < s.length) := by omega
    rw [h1] at hn
    simp only [run1, Nat.add_zero] at hn
    simp (disch := first | omega | assumption) only [hlt, go_sem, ↓reduceIte]
    exact hQ _ _ _ _ nofun rfl (by simp [tupOf, envOf, AV.strip, AV.strip1, hn])
  · have hlt : ((n : Int) < s.length) := by omega
    rw [h2] at hn
    simp only [run1] at hn
    simp (disch := first | omega | assumption) only [hlt, go_sem, ↓reduceIte]
    refine goK_pure (digitC (s.getD n 0)) ?_
    cases hd : isD (s.getD n 0) with
    | true =>
      simp only [hd, if_true] at hn
      simp (disch := first | omega | assumption) only [hd, go_sem, ↓reduceIte]
      exact goJ (hJ (n + 1) _ (by omega) ⟨by omega, by omega⟩) (by simp (disch := first | omega | assumption) only [wrap64, Int.natCast_add, Int.natCast_one, go_sem, ↓reduceIte])
    | false =>
      simp only [hd, Bool.false_eq_true, if_false, Nat.add_zero] at hn
      simp (disch := first | omega | assumption) only [hd, go_sem, ↓reduceIte]
      exact hQ _ _ _ _ nofun rfl (by simp [tupOf, envOf, AV.strip, AV.strip1, hn])
theorem runR (s : List UInt8) (i : Int) (h0 : 0 ≤ i) (h1 : i ≤ s.length) (hs : s.length ≤ Lim) : Pure Tryz.prog 154 [.str s, .int .i64 i] (.int .i64 (run1 (s.drop i.toNat))) := by
  obtain ⟨k, rfl⟩ : ∃ k : Nat, i = k := ⟨i.toNat, by omega⟩
  refine Pure.go ir154 ck154 (Nat.le_refl _) fun KP Q hQ => ?_
  simp only [Lim] at hs
  have hr1 := run1_le (s.drop k)
  rw [List.length_drop] at hr1
  simp (disch := first | omega | assumption) only [ir154, go_sem, ↓reduceIte]
  refine goL_st (fun n : Nat => [(5, .int .i64 n)]) (fun n H => run1 (s.drop k) = n + run1 (s.drop (k + n)) ∧ k + n ≤ s.length) (fun n => s.length - n) 0 (by simp (disch := first | omega | assumption) only [go_sem, ↓reduceIte]) ⟨by simp, by omega⟩ ?_
  rintro n H J ⟨hn, hle⟩ hJ
  have hto : ((k : Int) + n).toNat = k + n := by omega
  have hnn : (0 : Int) ≤ (k : Int) + n := by omega
  rcases drop_cases s (k + n) with ⟨h1, h2⟩ | ⟨h1, h2⟩
  · have hlt : ¬ ((k : Int) + n < s.length) := by omega
    rw [h1] at hn
    simp only [run1, Nat.add_zero] at hn
    simp (disch := first | omega | assumption) only [hlt, wrap64, go_sem, ↓reduceIte]
    exact hQ _ _ _ _ nofun rfl (by simp [tupOf, envOf, AV.strip, AV.strip1, hn])
  · have hlt : ((k : Int) + n < s.length) := by omega
    rw [h2] at hn
    simp only [run1] at hn
    simp (disch := first | omega | assumption) only [hlt, wrap64, hto, hnn, go_sem, ↓reduceIte]
    refine goK_pure (digitR (s.getD (k + n) 0)) ?_
    cases hd : isD (s.getD (k + n) 0) with
    | true =>
      simp only [hd, if_true] at hn
      simp (disch := first | omega | assumption) only [hd, go_sem, ↓reduceIte]
      exact goJ (hJ (n + 1) _ (by omega) ⟨by rw [← Nat.add_assoc]; omega, by omega⟩) (by simp (disch := first | omega | assumption) only [wrap64, Int.natCast_add, Int.natCast_one, go_sem, ↓reduceIte])
    | false =>
      simp only [hd, Bool.false_eq_true, if_false, Nat.add_zero] at hn
      simp (disch := first | omega | assumption) only [hd, go_sem, ↓reduceIte]
      exact hQ _ _ _ _ nofun rfl (by simp [tupOf, envOf, AV.strip, AV.strip1, hn])
end Go.Proofs.YtpjafglhdlfnbaaGreatDoor
namespace Go.Proofs.YtpjafglhdlfnbaaGreatDoor
open Go.Ab
theorem prefix1 (c : UInt8) (s : List UInt8) : [c].isPrefixOf s = decide (s.head? = some c) := by
  cases s with
  | nil => rfl
  | cons d r =>
    by_cases h : d = c
    · subst h; simp [List.isPrefixOf]
    · have h' : ¬ c = d := fun e => h e.symm
      simp [List.isPrefixOf, h, h']
def intN (s : List UInt8) : Nat := if run1 s = 0 then 0 else if s.getD 0 0 = 48 then 1 else run1 s
def wholeN (s : List UInt8) : Nat := if s.head? = some 45 then (if run1 s.tail = 0 then 0 else 1 + intN s.tail) else intN s
theorem intN_le (s : List UInt8) : intN s ≤ s.length := by have := run1_le s; unfold intN; split <;> (try split) <;> omega
theorem intN_pos {s : List UInt8} (h : run1 s ≠ 0) : 0 < intN s := by unfold intN; simp only [h, if_false]; split <;> omega
theorem wholeN_le (s : List UInt8) : wholeN s ≤ s.length := by
  have h1 := intN_le s
  have h2 := intN_le s.tail
  unfold wholeN
  split
  · rename_i h
    cases s with
    | nil => simp at h
    | cons c r =>
      simp only [List.tail_cons, List.length_cons] at h2 ⊢
      by_cases h0 : run1 r = 0 <;> simp only [h0, if_true, if_false] <;> omega
  · exact h1
theorem u8_eq {a b : UInt8} : ((a.toNat : Int) = (b.toNat : Int)) = (a = b) := by
  apply propext
  rw [Int.natCast_inj]
  exact UInt8.toNat_inj
theorem u8_is (a : UInt8) (n : Nat) (hn : n < 256) : decide ((a.toNat : Int) = n) = decide (a = UInt8.ofNat n) := by
  rw [decide_eq_decide]
  have : (UInt8.ofNat n).toNat = n := by simp [UInt8.toNat_ofNat']; omega
  constructor
  · intro h; apply UInt8.toNat_inj.1; rw [this]; omega
  · intro h; subst h; rw [this]
theorem wholeC (s : List UInt8) (hs : s.length ≤ Lim) : Pure Tryz.prog 141 [.str s] (.int .i64 (wholeN s)) := by
  refine Pure.go ir141 ck141 (Nat.le_refl _) fun KP Q hQ => ?_
  simp only [Lim] at hs
  simp (disch := first | omega | assumption) only [ir141, go_sem, ↓reduceIte]
  refine goK_pure (prefixC s [45]) ?_
  rw [prefix1]
  by_cases h : s.head? = some 45
  · cases s with
    | nil => simp at h
    | cons c r =>
      have hc : c = 45 := by simpa using h
      subst hc
      simp only [List.length_cons] at hs
      have h1 : (1 : Int) ≤ ((r.length + 1 : Nat) : Int) := by omega
      have h2 : (1 : Int) < ((r.length + 1 : Nat) : Int) ∨ r = [] := by cases r <;> simp; omega
      simp (disch := first | omega | assumption) only [h, h1, Int.toNat_one, go_sem, ↓reduceIte]
      refine goK_pure (digitsC r (by simp only [Lim]; omega)) ?_
      by_cases h0 : run1 r = 0
      · simp (disch := first | omega | assumption) only [h0, go_sem, ↓reduceIte]
        exact hQ _ _ _ _ nofun rfl (by simp [tupOf, envOf, AV.strip, AV.strip1, wholeN, h0])
      · have h0' : ¬ ((run1 r : Int) = 0) := by omega
        have hrl := run1_le r
        have hlt : (1 : Int) < ((r.length + 1 : Nat) : Int) := by omega
        have e := u8_is (r.getD 0 0) 48 (by omega)
        by_cases h48 : r.getD 0 0 = 48
        · have hi : intN r = 1 := by simp only [intN, h0, h48, if_false, if_true]
          simp (disch := first | omega | assumption) only [h0', hlt, Int.toNat_one, h48, UInt8.reduceToNat, wrap64, go_sem, ↓reduceIte]
          exact hQ _ _ _ _ nofun rfl (by simp [tupOf, envOf, AV.strip, AV.strip1, wholeN, h0, hi])
        · have h48' : ¬ ((r.getD 0 0).toNat : Int) = 48 := by
            intro hh
            rw [decide_eq_true (by exact hh)] at e
            exact h48 (by simpa using e.symm)
          have hi : intN r = run1 r := by simp only [intN, h0, h48, if_false]
          simp (disch := first | omega | assumption) only [h0', hlt, Int.toNat_one, h48', wrap64, go_sem, ↓reduceIte]
          exact hQ _ _ _ _ nofun rfl (by simp [tupOf, envOf, AV.strip, AV.strip1, wholeN, h0, hi])
  · simp (disch := first | omega | assumption) only [h, go_sem, ↓reduceIte]
    refine goK_pure (digitsC s (by simp only [Lim]; omega)) ?_
    by_cases h0 : run1 s = 0
    · simp (disch := first | omega | assumption) only [h0, go_sem, ↓reduceIte]
      exact hQ _ _ _ _ nofun rfl (by simp [tupOf, envOf, AV.strip, AV.strip1, wholeN, h, intN, h0])
    · have h0' : ¬ ((run1 s : Int) = 0) := by omega
      have hrl := run1_le s
      have hlt : (0 : Int) < (s.length : Int) := by omega
      have e := u8_is (s.getD 0 0) 48 (by omega)
      by_cases h48 : s.getD 0 0 = 48
      · have hi : intN s = 1 := by simp only [intN, h0, h48, if_false, if_true]
        simp (disch := first | omega | assumption) only [h0', hlt, h48, UInt8.reduceToNat, wrap64, go_sem, ↓reduceIte]
        exact hQ _ _ _ _ nofun rfl (by simp [tupOf, envOf, AV.strip, AV.strip1, wholeN, h, hi])
      · have h48' : ¬ ((s.getD 0 0).toNat : Int) = 48 := by
          intro hh
          rw [decide_eq_true (by exact hh)] at e
          exact h48 (by simpa using e.symm)
        have hi : intN s = run1 s := by simp only [intN, h0, h48, if_false]
        simp (disch := first | omega | assumption) only [h0', hlt, h48', wrap64, go_sem, ↓reduceIte]
        exact hQ _ _ _ _ nofun rfl (by simp [tupOf, envOf, AV.strip, AV.strip1, wholeN, h, hi])
def isE (c : UInt8) : Bool := decide (c = 101) || decide (c = 69)
def sgN (r : List UInt8) : Nat := if r.head? = some 43 ∨ r.head? = some 45 then 1 else 0
def powN : List UInt8 → Nat
  | [] => 0
  | c :: r => if isE c then (if run1 (r.drop (sgN r)) = 0 then 0 else 1 + sgN r + run1 (r.drop (sgN r))) else 0
theorem sgN_le (r : List UInt8) : sgN r ≤ r.length := by
  unfold sgN
  split
  · cases r <;> simp_all
  · omega
theorem powN_le : ∀ s, powN s ≤ s.length
  | [] => by simp [powN]
  | c :: r => by
    have h := run1_le (r.drop (sgN r))
    have h2 := sgN_le r
    rw [List.length_drop] at h
    simp only [powN, List.length_cons]
    split
    · split <;> omega
    · omega
theorem powerC (s : List UInt8) (hs : s.length ≤ Lim) : Pure Tryz.prog 143 [.str s] (.int .i64 (powN s)) := by
  refine Pure.go ir143 ck143 (Nat.le_refl _) fun KP Q hQ => ?_
  simp only [Lim] at hs
  cases s with
  | nil =>
    simp (disch := first | omega | assumption) only [ir143, go_sem, ↓reduceIte]
    exact hQ _ _ _ _ nofun rfl (by simp [tupOf, envOf, AV.strip, AV.strip1, powN])
  | cons c r =>
    simp only [List.length_cons] at hs
    have hne : ¬ (c :: r = []) := by simp
    have hp : (0 : Int) < ((r.length + 1 : Nat) : Int) := by omega
    have e1 := u8_is c 101 (by omega)
    have e2 := u8_is c 69 (by omega)
    have hE : ∀ (P : Prop), P → P := fun _ h => h
    by_cases hc : isE c = true
    case neg =>
      have hc1 : ¬ (c.toNat : Int) = 101 := by
        intro hh; rw [decide_eq_true (by exact hh)] at e1
        exact hc (by simp [isE, (by simpa using e1.symm : c = 101)])
      have hc2 : ¬ (c.toNat : Int) = 69 := by
        intro hh; rw [decide_eq_true (by exact hh)] at e2
        exact hc (by simp [isE, (by simpa using e2.symm : c = 69)])
      simp (disch := first | omega | assumption) only [ir143, hne, hp, hc1, hc2, go_sem, ↓reduceIte]
      have hcf : isE c = false := by simpa using hc
      exact hQ _ _ _ _ nofun rfl (by simp [tupOf, envOf, AV.strip, AV.strip1, powN, hcf])
    have fin : ∀ k : Nat, run1 (r.drop (sgN r)) = k → powN (c :: r) = if k = 0 then 0 else 1 + sgN r + k := fun k hk => by subst hk; simp only [powN, hc, if_true]
    have hcase : (c.toNat : Int) = 101 ∨ (¬ (c.toNat : Int) = 101 ∧ (c.toNat : Int) = 69) := by
      simp only [isE, Bool.or_eq_true, decide_eq_true_eq] at hc
      rcases hc with rfl | rfl
      · exact .inl rfl
      · exact .inr ⟨by decide, rfl⟩
    have hdl := run1_le (r.drop (sgN r))
    rw [List.length_drop] at hdl
    have hsl := sgN_le r
    cases r with
    | nil =>
      have k0 := fin 0 (by simp [sgN, run1])
      rcases hcase with h1 | ⟨h1, h2⟩
      · simp (disch := first | omega | assumption) only [ir143, h1, go_sem, ↓reduceIte]
        refine goK_pure (digitsC [] (by simp)) ?_
        simp (disch := first | omega | assumption) only [run1, go_sem, ↓reduceIte]
        exact hQ _ _ _ _ nofun rfl (by simp [tupOf, envOf, AV.strip, AV.strip1, k0])
      · simp (disch := first | omega | assumption) only [ir143, h1, h2, go_sem, ↓reduceIte]
        refine goK_pure (digitsC [] (by simp)) ?_
        simp (disch := first | omega | assumption) only [run1, go_sem, ↓reduceIte]
        exact hQ _ _ _ _ nofun rfl (by simp [tupOf, envOf, AV.strip, AV.strip1, k0])
    | cons d t =>
      simp only [List.length_cons] at hs
      have hl1 : (1 : Int) < ((t.length + 1 + 1 : Nat) : Int) := by omega
      have hl2 : (2 : Int) ≤ ((t.length + 1 + 1 : Nat) : Int) := by omega
      have hl3 : (1 : Int) ≤ ((t.length + 1 + 1 : Nat) : Int) := by omega
      have f1 := u8_is d 43 (by omega)
      have f2 := u8_is d 45 (by omega)
      by_cases hsg : d = 43 ∨ d = 45
      · have hsg1 : sgN (d :: t) = 1 := by simp only [sgN, List.head?_cons, Option.some.injEq, hsg, if_true]
        have k0 := fin (run1 t) (by rw [hsg1]; rfl)
        rw [hsg1] at k0 hdl
        have hd : (d.toNat : Int) = 43 ∨ (¬ (d.toNat : Int) = 43 ∧ (d.toNat : Int) = 45) := by
          rcases hsg with rfl | rfl
          · exact .inl rfl
          · exact .inr ⟨by decide, rfl⟩
        rcases hcase with h1 | ⟨h1, h2⟩ <;> rcases hd with h3 | ⟨h3, h4⟩
        all_goals
          simp only [hl1, hl2, List.length_cons, List.drop_succ_cons, List.drop_zero] at hdl
        · simp (disch := first | omega | assumption) only [ir143, h1, h3, hl1, hl2, Int.toNat_one, go_sem, ↓reduceIte]
          refine goK_pure (digitsC t (by simp only [Lim]; omega)) ?_
          by_cases hz : run1 t = 0
          · simp (disch := first | omega | assumption) only [hz, go_sem, ↓reduceIte]
            exact hQ _ _ _ _ nofun rfl (by simp [tupOf, envOf, AV.strip, AV.strip1, k0, hz])
          · have hz' : ¬ (run1 t : Int) = 0 := by omega
            simp (disch := first | omega | assumption) only [hz', wrap64, go_sem, ↓reduceIte]
            exact hQ _ _ _ _ nofun rfl (by simp [tupOf, envOf, AV.strip, AV.strip1, k0, hz])
        · simp (disch := first | omega | assumption) only [ir143, h1, h3, h4, hl1, hl2, Int.toNat_one, go_sem, ↓reduceIte]
          refine goK_pure (digitsC t (by simp only [Lim]; omega)) ?_
          by_cases hz : run1 t = 0
          · simp (disch := first | omega | assumption) only [hz, go_sem, ↓reduceIte]
            exact hQ _ _ _ _ nofun rfl (by simp [tupOf, envOf, AV.strip, AV.strip1, k0, hz])
          · have hz' : ¬ (run1 t : Int) = 0 := by omega
            simp (disch := first | omega | assumption) only [hz', wrap64, go_sem, ↓reduceIte]
            exact hQ _ _ _ _ nofun rfl (by simp [tupOf, envOf, AV.strip, AV.strip1, k0, hz])
        · simp (disch := first | omega | assumption) only [ir143, h1, h2, h3, hl1, hl2, Int.toNat_one, go_sem, ↓reduceIte]
          refine goK_pure (digitsC t (by simp only [Lim]; omega)) ?_
          by_cases hz : run1 t = 0
          · simp (disch := first | omega | assumption) only [hz, go_sem, ↓reduceIte]
            exact hQ _ _ _ _ nofun rfl (by simp [tupOf, envOf, AV.strip, AV.strip1, k0, hz])
          · have hz' : ¬ (run1 t : Int) = 0 := by omega
            simp (disch := first | omega | assumption) only [hz', wrap64, go_sem, ↓reduceIte]
            exact hQ _ _ _ _ nofun rfl (by simp [tupOf, envOf, AV.strip, AV.strip1, k0, hz])
        · simp (disch := first | omega | assumption) only [ir143, h1, h2, h3, h4, hl1, hl2, Int.toNat_one, go_sem, ↓reduceIte]
          refine goK_pure (digitsC t (by simp only [Lim]; omega)) ?_
          by_cases hz : run1 t = 0
          · simp (disch := first | omega | assumption) only [hz, go_sem, ↓reduceIte]
            exact hQ _ _ _ _ nofun rfl (by simp [tupOf, envOf, AV.strip, AV.strip1, k0, hz])
          · have hz' : ¬ (run1 t : Int) = 0 := by omega
            simp (disch := first | omega | assumption) only [hz', wrap64, go_sem, ↓reduceIte]
            exact hQ _ _ _ _ nofun rfl (by simp [tupOf, envOf, AV.strip, AV.strip1, k0, hz])
      · have hsg0 : sgN (d :: t) = 0 := by simp only [sgN, List.head?_cons, Option.some.injEq, hsg, if_false]
        have k0 := fin (run1 (d :: t)) (by rw [hsg0]; rfl)
        rw [hsg0] at k0 hdl
        have h3 : ¬ (d.toNat : Int) = 43 := by
          intro hh; rw [decide_eq_true (by exact hh)] at f1
          exact hsg (.inl (by simpa using f1.symm))
        have h4 : ¬ (d.toNat : Int) = 45 := by
          intro hh; rw [decide_eq_true (by exact hh)] at f2
          exact hsg (.inr (by simpa using f2.symm))
        simp only [List.drop_zero, List.length_cons] at hdl
        rcases hcase with h1 | ⟨h1, h2⟩
        · simp (disch := first | omega | assumption) only [ir143, h1, h3, h4, hl1, hl3, Int.toNat_one, go_sem, ↓reduceIte]
          refine goK_pure (digitsC (d :: t) (by simp only [Lim, List.length_cons]; omega)) ?_
          by_cases hz : run1 (d :: t) = 0
          · simp (disch := first | omega | assumption) only [hz, go_sem, ↓reduceIte]
            exact hQ _ _ _ _ nofun rfl (by simp [tupOf, envOf, AV.strip, AV.strip1, k0, hz])
          · have hz' : ¬ (run1 (d :: t) : Int) = 0 := by omega
            simp (disch := first | omega | assumption) only [hz', wrap64, go_sem, ↓reduceIte]
            exact hQ _ _ _ _ nofun rfl (by simp [tupOf, envOf, AV.strip, AV.strip1, k0, hz])
        · simp (disch := first | omega | assumption) only [ir143, h1, h2, h3, h4, hl1, hl3, Int.toNat_one, go_sem, ↓reduceIte]
          refine goK_pure (digitsC (d :: t) (by simp only [Lim, List.length_cons]; omega)) ?_
          by_cases hz : run1 (d :: t) = 0
          · simp (disch := first | omega | assumption) only [hz, go_sem, ↓reduceIte]
            exact hQ _ _ _ _ nofun rfl (by simp [tupOf, envOf, AV.strip, AV.strip1, k0, hz])
          · have hz' : ¬ (run1 (d :: t) : Int) = 0 := by omega
            simp (disch := first | omega | assumption) only [hz', wrap64, go_sem, ↓reduceIte]
            exact hQ _ _ _ _ nofun rfl (by simp [tupOf, envOf, AV.strip, AV.strip1, k0, hz])
end Go.Proofs.YtpjafglhdlfnbaaGreatDoor
namespace Go.Proofs.YtpjafglhdlfnbaaGreatDoor
open Go.Ab
def fracN (r : List UInt8) : Nat := if r.head? = some 46 ∧ 0 < run1 r.tail then 1 + run1 r.tail else 0
def numN (s : List UInt8) : Nat × Int :=
  if wholeN s = 0 then (0, 0) else
    (wholeN s + fracN (s.drop (wholeN s)) + powN (s.drop (wholeN s + fracN (s.drop (wholeN s)))), if fracN (s.drop (wholeN s)) = 0 ∧ powN (s.drop (wholeN s + fracN (s.drop (wholeN s)))) = 0 then 3 else 4)
theorem fracN_le (r : List UInt8) : fracN r ≤ r.length := by
  unfold fracN
  split
  · rename_i h
    cases r with
    | nil => simp at h
    | cons c t => have := run1_le t; simp only [List.tail_cons, List.length_cons]; omega
  · omega
theorem numberC (s : List UInt8) (hs : s.length ≤ Lim) : Pure Tryz.prog 106 [.str s] (.tup [.int .i64 (numN s).1, .int .i64 (numN s).2]) := by
  refine Pure.go ir106 ck106 (Nat.le_refl _) fun KP Q hQ => ?_
  have hs' := hs
  simp only [Lim] at hs
  simp (disch := first | omega | assumption) only [ir106, go_sem, ↓reduceIte]
  refine goK_pure (wholeC s hs') ?_
  have hw := wholeN_le s
  by_cases h0 : wholeN s = 0
  · simp (disch := first | omega | assumption) only [h0, go_sem, ↓reduceIte]
    exact hQ _ _ _ _ nofun rfl (by simp [tupOf, envOf, AV.strip, AV.strip1, numN, h0])
  have h0' : ¬ ((wholeN s : Int) = 0) := by omega
  have hwl : (wholeN s : Int) ≤ s.length := by omega
  simp (disch := first | omega | assumption) only [h0', hwl, go_sem, ↓reduceIte]
  refine goK_pure (prefixC (s.drop (wholeN s)) [46]) ?_
  rw [prefix1]
  generalize hn : wholeN s = n at *
  have fin : ∀ f p : Nat, fracN (s.drop n) = f → powN (s.drop (n + f)) = p → numN s = (n + f + p, if f = 0 ∧ p = 0 then 3 else 4) := fun f p hf hp => by
    unfold numN
    rw [hn, hf, hp]
    simp only [h0, if_false]
  have hpl := powN_le (s.drop n)
  rw [List.length_drop] at hpl
  by_cases h46 : (s.drop n).head? = some 46
  · obtain ⟨c, t, hct⟩ : ∃ c t, s.drop n = c :: t := by
      cases hx : s.drop n with
      | nil => rw [hx] at h46; simp at h46
      | cons c t => exact ⟨c, t, rfl⟩
    have hlen : s.length = n + 1 + t.length := by have := congrArg List.length hct; simp at this; omega
    have hdr : s.drop (n + 1) = t := by rw [← List.drop_drop, hct]; rfl
    have hto : ((n : Int) + 1).toNat = n + 1 := by omega
    have hn1 : (0 : Int) ≤ (n : Int) + 1 := by omega
    have hn2 : (n : Int) + 1 ≤ s.length := by omega
    have hrl := run1_le t
    simp (disch := first | omega | assumption) only [h46, wrap64, hto, hn1, hn2, hdr, go_sem, ↓reduceIte]
    refine goK_pure (digitsC t (by simp only [Lim]; omega)) ?_
    by_cases hk : (0 : Int) < run1 t
    · have hk' : 0 < run1 t := by omega
      have hfr : fracN (s.drop n) = 1 + run1 t := by unfold fracN; rw [if_pos ⟨h46, by rw [hct]; exact hk'⟩, hct]; rfl
      have hto2 : ((n : Int) + 1 + run1 t).toNat = n + (1 + run1 t) := by omega
      have hn3 : (0 : Int) ≤ (n : Int) + 1 + run1 t := by omega
      have hn4 : (n : Int) + 1 + run1 t ≤ s.length := by omega
      have hpl2 := powN_le (s.drop (n + (1 + run1 t)))
      rw [List.length_drop] at hpl2
      simp (disch := first | omega | assumption) only [hk, wrap64, hto2, hn3, hn4, go_sem, ↓reduceIte]
      refine goK_pure (powerC (s.drop (n + (1 + run1 t))) (by rw [List.length_drop]; simp only [Lim]; omega)) ?_
      have hf := fin _ _ hfr rfl
      generalize hp : powN (s.drop (n + (1 + run1 t))) = p at *
      by_cases hp0 : (0 : Int) < p
      · simp (disch := first | omega | assumption) only [hp0, wrap64, go_sem, ↓reduceIte]
        exact hQ _ _ _ _ nofun rfl (by simp [tupOf, envOf, AV.strip, AV.strip1, hf, Int.add_assoc])
      · have hp00 : p = 0 := by omega
        subst hp00
        simp (disch := first | omega | assumption) only [go_sem, ↓reduceIte]
        exact hQ _ _ _ _ nofun rfl (by simp [tupOf, envOf, AV.strip, AV.strip1, hf, Int.add_assoc])
    · have hk0 : run1 t = 0 := by omega
      have hfr : fracN (s.drop n) = 0 := by unfold fracN; exact if_neg fun hh => by have := hh.2; rw [hct] at this; simp only [List.tail_cons] at this; omega
      simp (disch := first | omega | assumption) only [hk, hwl, go_sem, ↓reduceIte]
      refine goK_pure (powerC (s.drop n) (by rw [List.length_drop]; simp only [Lim]; omega)) ?_
      have hf := fin _ _ hfr rfl
      rw [Nat.add_zero] at hf
      generalize hp : powN (s.drop n) = p at *
      by_cases hp0 : (0 : Int) < p
      · have hp1 : ¬ p = 0 := by omega
        simp (disch := first | omega | assumption) only [hp0, wrap64, go_sem, ↓reduceIte]
        exact hQ _ _ _ _ nofun rfl (by simp [tupOf, envOf, AV.strip, AV.strip1, hf, hp1])
      · have hp00 : p = 0 := by omega
        subst hp00
        simp (disch := first | omega | assumption) only [go_sem, ↓reduceIte]
        exact hQ _ _ _ _ nofun rfl (by simp [tupOf, envOf, AV.strip, AV.strip1, hf])
  · have hfr : fracN (s.drop n) = 0 := by unfold fracN; exact if_neg fun hh => h46 hh.1
    simp (disch := first | omega | assumption) only [h46, hwl, go_sem, ↓reduceIte]
    refine goK_pure (powerC (s.drop n) (by rw [List.length_drop]; simp only [Lim]; omega)) ?_
    have hf := fin _ _ hfr rfl
    rw [Nat.add_zero] at hf
    generalize hp : powN (s.drop n) = p at *
    by_cases hp0 : (0 : Int) < p
    · have hp1 : ¬ p = 0 := by omega
      simp (disch := first | omega | assumption) only [hp0, wrap64, go_sem, ↓reduceIte]
      exact hQ _ _ _ _ nofun rfl (by simp [tupOf, envOf, AV.strip, AV.strip1, hf, hp1])
    · have hp00 : p = 0 := by omega
      subst hp00
      simp (disch := first | omega | assumption) only [go_sem, ↓reduceIte]
      exact hQ _ _ _ _ nofun rfl (by simp [tupOf, envOf, AV.strip, AV.strip1, hf])
def numK (s : List UInt8) : Int := if (numN s).1 = s.length then (numN s).2 else 0
theorem NumberC (s : List UInt8) (hs : s.length ≤ Lim) : Pure Tryz.prog 90 [.str s] (.int .i64 (numK s)) := by
  refine Pure.go ir90 ck90 (Nat.le_refl _) fun KP Q hQ => ?_
  simp (disch := first | omega | assumption) only [ir90, go_sem, ↓reduceIte]
  refine goK_pure (numberC s hs) ?_
  by_cases h : (numN s).1 = s.length
  · have h' : (((numN s).1 : Int) = s.length) = True := eq_true (by omega)
    simp (disch := first | omega | assumption) only [h', go_sem, ↓reduceIte]
    exact hQ _ _ _ _ nofun rfl (by simp [tupOf, envOf, AV.strip, AV.strip1, numK, h])
  · have h' : ¬ ((numN s).1 : Int) = s.length := by omega
    simp (disch := first | omega | assumption) only [h', go_sem, ↓reduceIte]
    exact hQ _ _ _ _ nofun rfl (by simp [tupOf, envOf, AV.strip, AV.strip1, numK, h])
def okI : Lib.NumEnd Int → Bool
  | .ok _ => true
  | _ => false
def valI (s : List UInt8) : Int := match Lib.parseIntB 64 s with
  | .ok v => v
  | Lib.NumEnd.syntax => 0
  | .range => Lib.intSat 64 s
def wholeB (s : List UInt8) : Bool := okI (Lib.parseIntB 64 s) && decide (numK s = 3)
theorem WholeC (s : List UInt8) (hs : s.length ≤ Lim) : Pure Tryz.prog 112 [.str s] (.tup [.int .i64 (valI s), .bool (wholeB s)]) := by
  refine Pure.go ir112 ck112 (Nat.le_refl _) fun KP Q hQ => ?_
  simp (disch := first | omega | assumption) only [ir112, go_sem, ↓reduceIte]
  refine goK_pure (parseIntC s (by simp only [Lim] at hs; omega)) ?_
  rcases hp : Lib.parseIntB 64 s with v | _ | _
  · simp (disch := first | omega | assumption) only [parseA, hp, go_sem, ↓reduceIte]
    refine goK_pure (NumberC s hs) ?_
    simp (disch := first | omega | assumption) only [go_sem, ↓reduceIte]
    exact hQ _ _ _ _ nofun rfl (by simp [tupOf, envOf, AV.strip, AV.strip1, valI, wholeB, hp, okI])
  · simp (disch := first | omega | assumption) only [parseA, hp, go_sem, ↓reduceIte]
    exact hQ _ _ _ _ nofun rfl (by simp [tupOf, envOf, AV.strip, AV.strip1, valI, wholeB, hp, okI])
  · simp (disch := first | omega | assumption) only [parseA, hp, go_sem, ↓reduceIte]
    exact hQ _ _ _ _ nofun rfl (by simp [tupOf, envOf, AV.strip, AV.strip1, valI, wholeB, hp, okI])
def numB (s : List UInt8) : Bool := decide (numK s = 4) || (decide (numK s = 3) && !wholeB s)
def resB (s : List UInt8) : Bool := decide (s = [116, 114, 117, 101]) || (decide (s = [102, 97, 108, 115, 101]) || decide (s = [110, 117, 108, 108]))
theorem goodC (s : List UInt8) (hs : s.length ≤ Lim) : Pure Tryz.prog 31 [.str s] (.bool (Lib.validD s)) := by
  refine Pure.go ir31 ck31 (Nat.le_refl _) fun KP Q hQ => ?_
  simp (disch := first | omega | assumption) only [ir31, go_sem, ↓reduceIte]
  refine goK_pure (validC s (by simp only [Lim] at hs; omega)) ?_
  simp (disch := first | omega | assumption) only [go_sem, ↓reduceIte]
  exact hQ _ _ _ _ nofun rfl (by simp [tupOf, envOf, AV.strip, AV.strip1])
def bareM (n : Int) (s : List UInt8) (l : List Val) (m : List Mem) : Bool := decide (n = 0) && (decide (s = []) && (decide (l.length = 0) && decide (m.length = 0)))
def singleM (k n : Int) (s : List UInt8) (l : List Val) (m : List Mem) : Bool :=
  bareM 0 [] l m && (if k = 0 then decide (n = 0) && decide (s = []) else if k = 1 then (decide (n = 0) || decide (n = 1)) && decide (s = []) else if k = 2 then decide (s = [])
    else if k = 3 then decide (n = 0) && numB s else if k = 4 then decide (n = 0) && Lib.validD s else if k = 5 then decide (n = 0) && (nameM s && !resB s) else if k = 8 then decide (n = 0) && nameM s else false)
end Go.Proofs.YtpjafglhdlfnbaaGreatDoor
namespace Go.Proofs.YtpjafglhdlfnbaaGreatDoor
open Go.Ab
mutual
def allV (may : List UInt8 → Bool) : Val → Bool
  | .mk k n s l m => if k = 6 then allVs may l && bareM n s [] m else if k = 7 then allMs may m && bareM n s l [] else singleM k n s l m
def allVs (may : List UInt8 → Bool) : List Val → Bool
  | [] => true
  | v :: r => allV may v && allVs may r
def allM (may : List UInt8 → Bool) : Mem → Bool
  | .mk s v => may s && allV may v
def allMs (may : List UInt8 → Bool) : List Mem → Bool
  | [] => true
  | x :: r => allM may x && allMs may r
end
def goodV (v : Val) : Bool := allV Lib.validD v
def boolT (b : Bool) : List UInt8 := if b then [116, 114, 117, 101] else [102, 97, 108, 115, 101]
def inR (n : Int) : Prop := -9223372036854775808 ≤ n ∧ n ≤ 9223372036854775807
mutual
def wfV : Val → Prop
  | .mk _ n _ l m => inR n ∧ wfVs l ∧ wfMs m
def wfVs : List Val → Prop
  | [] => True
  | v :: r => wfV v ∧ wfVs r
def wfM : Mem → Prop
  | .mk _ v => wfV v
def wfMs : List Mem → Prop
  | [] => True
  | x :: r => wfM x ∧ wfMs r
end
theorem wfVs_mem : ∀ {l : List Val}, wfVs l → ∀ v ∈ l, wfV v
  | _ :: _, h, v, hv => (List.mem_cons.1 hv).elim (fun e => e ▸ h.1) (wfVs_mem h.2 v)
theorem wfMs_mem : ∀ {l : List Mem}, wfMs l → ∀ s v, Mem.mk s v ∈ l → wfV v
  | _ :: _, h, s, v, hv => (List.mem_cons.1 hv).elim (fun e => by have := h.1; rw [← e] at this; exact this) (wfMs_mem h.2 s v)
end Go.Proofs.YtpjafglhdlfnbaaGreatDoor
namespace Go.Proofs.YtpjafglhdlfnbaaGreatDoor
open Go.Ab
def hexL : List UInt8 := [48, 49, 50, 51, 52, 53, 54, 55, 56, 57, 97, 98, 99, 100, 101, 102]
def hexD (c : UInt8) : Option Nat := if Lib.indexByte hexL (c ||| 32) < 0 ∨ c.toNat < 48 ∨ (57 < c.toNat ∧ c.toNat < 65) then none else some (Lib.indexByte hexL (c ||| 32)).toNat
def unitG : Nat → List UInt8 → Nat → Option Nat
  | 0, _, u => some u
  | _ + 1, [], _ => none
  | n + 1, c :: t, u => match hexD c with
    | none => none
    | some k => unitG n t (16 * u + k)
def unitM (s : List UInt8) : Option Nat := unitG 4 s 0
def encM (n : Nat) : List UInt8 :=
  if n ≤ 127 then [UInt8.ofNat n]
  else if n ≤ 2047 then [UInt8.ofNat (192 + n / 64), UInt8.ofNat (128 + n % 64)]
  else if n ≤ 65535 then [UInt8.ofNat (224 + n / 4096), UInt8.ofNat (128 + n / 64 % 64), UInt8.ofNat (128 + n % 64)]
  else [UInt8.ofNat (240 + n / 262144), UInt8.ofNat (128 + n / 4096 % 64), UInt8.ofNat (128 + n / 64 % 64), UInt8.ofNat (128 + n % 64)]
def joinM : List Nat → Option (List UInt8)
  | [] => some []
  | u :: r => if 65535 < u ∨ (56320 ≤ u ∧ u ≤ 57343) then none
    else if 55296 ≤ u ∧ u < 56320 then match r with
      | [] => none
      | v :: r => if v < 56320 ∨ 57343 < v then none else (joinM r).map (encM (65536 + 1024 * (u - 55296) + (v - 56320)) ++ ·)
    else (joinM r).map (encM u ++ ·)
structure Sd where
  b : List UInt8
  u : List Nat
  ok : Bool
def flushM (q : Sd) : Sd := ⟨q.b ++ (joinM q.u).getD [], [], q.ok && (joinM q.u).isSome⟩
def Sd.put (q : Sd) (c : UInt8) : Sd := ⟨(flushM q).b ++ [c], [], (flushM q).ok⟩
def escL : List UInt8 := [34, 92, 47, 98, 102, 110, 114, 116]
def escV : List UInt8 := [34, 92, 47, 8, 12, 10, 13, 9]
def escM (q : Sd) : List UInt8 → Option (Sd × List UInt8)
  | [] => none
  | c :: t => if c = 117 then (unitM t).map fun u => (⟨q.b, q.u ++ [u], q.ok⟩, t.drop 4)
    else if Lib.indexByte escL c < 0 then none else some (q.put (escV.getD (Lib.indexByte escL c).toNat 0), t)
def quoG (may : UInt8 → Bool) : Nat → List UInt8 → Sd → Option (Sd × List UInt8)
  | 0, _, _ => none
  | _ + 1, [], _ => none
  | n + 1, c :: t, q => if c = 34 then some (flushM q, t)
    else if c = 92 then match escM q t with
      | none => none
      | some (q', t') => quoG may n t' q'
    else if may c then quoG may n t (q.put c) else none
def quoM (may : UInt8 → Bool) (t : List UInt8) : Option (List UInt8 × List UInt8) := match quoG may (t.length + 1) t ⟨[], [], true⟩ with
  | some (q, t') => if q.ok then some (q.b, t') else none
  | none => none
def hiB (c : UInt8) : Bool := decide (32 ≤ c.toNat)
def bk (c : UInt8) : Bool := decide (0 ≤ Lib.indexByte [9, 10, 13, 32] c)
def skB : List UInt8 → List UInt8
  | [] => []
  | c :: t => if bk c then skB t else c :: t
def nch (c : UInt8) : Bool := decide (0 ≤ Lib.indexByte [48, 49, 50, 51, 52, 53, 54, 55, 56, 57, 43, 45, 46, 101, 69] c)
def nst (c : UInt8) : Bool := decide (0 ≤ Lib.indexByte [45, 48, 49, 50, 51, 52, 53, 54, 55, 56, 57] c)
abbrev RR (α : Type) := Except Int (α × List UInt8)
def RR.bind {α β : Type} (x : RR α) (f : α → List UInt8 → RR β) : RR β := match x with
  | .ok (a, t) => f a t
  | .error e => .error e
def mayM (p t : List UInt8) : Option (List UInt8) := if p.isPrefixOf (skB t) then some ((skB t).drop p.length) else none
def mustM (p t : List UInt8) : RR Unit := match mayM p t with
  | some t' => .ok ((), t')
  | none => .error 2
def textM (t : List UInt8) : RR (List UInt8) := if [34].isPrefixOf (skB t) then match quoM hiB (skB t).tail with
    | some x => .ok x
    | none => .error 2
  else .error 2
def nullV : Val := .mk 0 0 [] [] []
def numV (s : List UInt8) : Val := if wholeB s then .mk 2 (valI s) [] [] [] else .mk 3 0 s [] []
def numM (t : List UInt8) : RR Val := if numK (t.takeWhile nch) = 0 then .error 2 else .ok (numV (t.takeWhile nch), t.dropWhile nch)
def itemsM (p : List UInt8 → RR Val) : Nat → List Val → List UInt8 → RR (List Val)
  | 0, _, _ => .error 2
  | n + 1, l, t => match mayM [93] t with
    | some t' => .ok (l, t')
    | none => (mustM [44] t).bind fun _ t => (p t).bind fun v t => itemsM p n (l ++ [v]) t
def listM (p : List UInt8 → RR Val) (t : List UInt8) : RR Val := match mayM [93] t with
  | some t' => .ok (.mk 6 0 [] [] [], t')
  | none => (p t).bind fun v t => (itemsM p (t.length + 1) [v] t).bind fun l t => .ok (.mk 6 0 [] l [], t)
def hasN (s : List UInt8) : List Mem → Bool
  | [] => false
  | .mk t _ :: r => decide (t = s) || hasN s r
def memberM (p : List UInt8 → RR Val) (l : List Mem) (t : List UInt8) : RR (List Mem) :=
  (textM t).bind fun s t => if hasN s l then .error 5 else (mustM [58] t).bind fun _ t => (p t).bind fun v t => .ok (l ++ [.mk s v], t)
def membersM (p : List UInt8 → RR Val) : Nat → List Mem → List UInt8 → RR (List Mem)
  | 0, _, _ => .error 2
  | n + 1, l, t => match mayM [125] t with
    | some t' => .ok (l, t')
    | none => (mustM [44] t).bind fun _ t => (memberM p l t).bind fun l t => membersM p n l t
def mapM (p : List UInt8 → RR Val) (t : List UInt8) : RR Val := match mayM [125] t with
  | some t' => .ok (.mk 7 0 [] [] [], t')
  | none => (memberM p [] t).bind fun l t => (membersM p (t.length + 1) l t).bind fun l t => .ok (.mk 7 0 [] [] l, t)
def wordM (t : List UInt8) : RR Val := match mayM [110, 117, 108, 108] t with
  | some t' => .ok (nullV, t')
  | none => match mayM [116, 114, 117, 101] t with
    | some t' => .ok (.mk 1 1 [] [] [], t')
    | none => (mustM [102, 97, 108, 115, 101] t).bind fun _ t => .ok (.mk 1 0 [] [] [], t)
def headM (t : List UInt8) (p : List UInt8 → RR Val) : RR Val := match t with
  | [] => wordM []
  | c :: r => if c = 123 then mapM p r else if c = 91 then listM p r
    else if c = 34 then (textM (c :: r)).bind fun s t => .ok (.mk 4 0 s [] [], t)
    else if nst c then numM (c :: r) else wordM (c :: r)
def deepM (_ : List UInt8) : RR Val := .error 4
def valM : Nat → List UInt8 → RR Val
  | 0, t => if (skB t).head? = some 123 ∨ (skB t).head? = some 91 then .error 4 else headM (skB t) deepM
  | n + 1, t => headM (skB t) (valM n)
def readM (s : List UInt8) : Val × Int := if 8192 < s.length then (nullV, 3) else if !Lib.validD s then (nullV, 2) else match valM 16 s with
  | .error e => (nullV, e)
  | .ok (v, t) => if skB t = [] then (v, 0) else (nullV, 2)
theorem skB_suf : ∀ t, skB t <:+ t
  | [] => List.suffix_refl _
  | c :: t => by
    rw [skB]; split
    · exact (skB_suf t).trans (List.suffix_cons ..)
    · exact List.suffix_refl _
theorem mayM_suf {p t t' : List UInt8} (h : mayM p t = some t') : t' <:+ t ∧ t'.length + p.length ≤ t.length := by
  unfold mayM at h
  split at h
  · rename_i hp
    cases h
    have h1 := skB_suf t
    have h2 := (List.isPrefixOf_iff_prefix.1 hp).length_le
    have h3 := h1.length_le
    exact ⟨(List.drop_suffix _ _).trans h1, by simp; omega⟩
  · cases h
theorem RR.bind_ok {α β : Type} {x : RR α} {f : α → List UInt8 → RR β} {r : β × List UInt8} (h : x.bind f = .ok r) : ∃ a t, x = .ok (a, t) ∧ f a t = .ok r := by
  cases x with
  | error e => cases h
  | ok y => exact ⟨y.1, y.2, rfl, h⟩
theorem mustM_suf {p t t' : List UInt8} {u : Unit} (h : mustM p t = .ok (u, t')) : t' <:+ t ∧ t'.length + p.length ≤ t.length := by
  unfold mustM at h
  split at h
  · rename_i hm; cases h; exact mayM_suf hm
  · cases h
theorem escM_suf {q q' : Sd} {t t' : List UInt8} (h : escM q t = some (q', t')) : t' <:+ t ∧ t'.length < t.length := by
  cases t with
  | nil => cases h
  | cons c t =>
    simp only [escM] at h
    split at h
    · cases hu : unitM t with
      | none => simp [hu] at h
      | some u =>
        simp only [hu, Option.map_some, Option.some.injEq, Prod.mk.injEq] at h
        obtain ⟨_, rfl⟩ := h
        exact ⟨(List.drop_suffix _ _).trans (List.suffix_cons ..), by simp; omega⟩
    · split at h
      · cases h
      · simp only [Option.some.injEq, Prod.mk.injEq] at h
        obtain ⟨_, rfl⟩ := h
        exact ⟨List.suffix_cons .., by simp⟩
theorem quoG_suf {may : UInt8 → Bool} : ∀ (n : Nat) (t : List UInt8) (q q' : Sd) (t' : List UInt8), quoG may n t q = some (q', t') → t' <:+ t ∧ t'.length < t.length
  | 0, _, _, _, _, h => by cases h
  | _ + 1, [], _, _, _, h => by cases h
  | n + 1, c :: t, q, q', t', h => by
    simp only [quoG] at h
    split at h
    · simp only [Option.some.injEq, Prod.mk.injEq] at h
      obtain ⟨_, rfl⟩ := h
      exact ⟨List.suffix_cons .., by simp⟩
    · split at h
      · cases he : escM q t with
        | none => simp [he] at h
        | some x =>
          obtain ⟨q1, t1⟩ := x
          simp only [he] at h
          have h1 := escM_suf he
          have h2 := quoG_suf n t1 q1 q' t' h
          exact ⟨(h2.1.trans h1.1).trans (List.suffix_cons ..), by simp; omega⟩
      · split at h
        · have h2 := quoG_suf n t _ q' t' h
          exact ⟨h2.1.trans (List.suffix_cons ..), by simp; omega⟩
        · cases h
theorem quoM_suf {may : UInt8 → Bool} {t t' b : List UInt8} (h : quoM may t = some (b, t')) : t' <:+ t ∧ t'.length < t.length := by
  unfold quoM at h
  split at h
  · rename_i q t1 hq
    split at h
    · cases h; exact quoG_suf _ _ _ _ _ hq
    · cases h
  · cases h
theorem textM_suf {t t' b : List UInt8} (h : textM t = .ok (b, t')) : t' <:+ t ∧ t'.length + 2 ≤ t.length := by
  unfold textM at h
  split at h
  · rename_i hp
    split at h
    · rename_i x hx
      cases h
      have h1 := quoM_suf hx
      have h2 := skB_suf t
      have h3 := h2.length_le
      have h4 := (List.isPrefixOf_iff_prefix.1 hp).length_le
      simp only [List.length_tail, List.length_cons, List.length_nil] at h1 h4
      exact ⟨(h1.1.trans (List.tail_suffix _)).trans h2, by omega⟩
    · cases h
  · cases h
end Go.Proofs.YtpjafglhdlfnbaaGreatDoor
namespace Go.Proofs.YtpjafglhdlfnbaaGreatDoor
open Go.Ab
theorem unitG_len : ∀ (n : Nat) (t : List UInt8) (u v : Nat), unitG n t u = some v → n ≤ t.length
  | 0, _, _, _, _ => Nat.zero_le _
  | n + 1, [], _, _, h => by cases h
  | n + 1, c :: t, u, v, h => by
    simp only [unitG] at h
    split at h
    · cases h
    · have := unitG_len n t _ v h; simp; omega
theorem encM_len (n : Nat) : (encM n).length ≤ 4 ∧ (n ≤ 65535 → (encM n).length ≤ 3) := by
  unfold encM
  split
  · simp
  · split
    · simp
    · split
      · simp
      · refine ⟨by simp, fun h => by omega⟩
theorem joinM_len : ∀ (u : List Nat) (s : List UInt8), joinM u = some s → s.length ≤ 3 * u.length
  | [], s, h => by cases h; simp
  | u :: [], s, h => by
    simp only [joinM] at h
    split at h
    · cases h
    · rename_i h1
      split at h
      · cases h
      · simp only [Option.map_some, Option.some.injEq] at h
        subst h
        have := (encM_len u).2 (by omega)
        simp; omega
  | u :: v :: r, s, h => by
    rw [joinM] at h
    split at h
    · cases h
    · rename_i h1
      split at h
      · split at h
        · cases h
        · cases hr : joinM r with
          | none => simp [hr] at h
          | some x =>
            simp only [hr, Option.map_some, Option.some.injEq] at h
            subst h
            have h2 := joinM_len r x hr
            have h3 := (encM_len (65536 + 1024 * (u - 55296) + (v - 56320))).1
            simp only [List.length_append, List.length_cons]; omega
      · cases hr : joinM (v :: r) with
        | none => simp [hr] at h
        | some x =>
          simp only [hr, Option.map_some, Option.some.injEq] at h
          subst h
          have h2 := joinM_len (v :: r) x hr
          have h3 := (encM_len u).2 (by omega)
          simp only [List.length_append, List.length_cons] at h2 ⊢; omega
def Sd.w (q : Sd) : Nat := q.b.length + 3 * q.u.length
theorem flush_w (q : Sd) : (flushM q).b.length ≤ q.w := by
  unfold flushM Sd.w
  cases h : joinM q.u with
  | none => simp
  | some s => have := joinM_len _ _ h; simp; omega
theorem put_w (q : Sd) (c : UInt8) : (q.put c).w ≤ q.w + 1 := by
  have := flush_w q
  simp only [Sd.put, Sd.w, List.length_append, List.length_cons, List.length_nil] at this ⊢; omega
theorem escM_w {q q' : Sd} {t t' : List UInt8} (h : escM q t = some (q', t')) : q'.w + t'.length ≤ q.w + t.length := by
  cases t with
  | nil => cases h
  | cons c t =>
    simp only [escM] at h
    split at h
    · cases hu : unitM t with
      | none => simp [hu] at h
      | some u =>
        simp only [hu, Option.map_some, Option.some.injEq, Prod.mk.injEq] at h
        obtain ⟨rfl, rfl⟩ := h
        have := unitG_len _ _ _ _ hu
        simp only [Sd.w, List.length_append, List.length_cons, List.length_nil, List.length_drop]; omega
    · split at h
      · cases h
      · simp only [Option.some.injEq, Prod.mk.injEq] at h
        obtain ⟨rfl, rfl⟩ := h
        have := put_w q (escV.getD (Lib.indexByte escL c).toNat 0)
        simp only [List.length_cons]; omega
theorem quoG_w {may : UInt8 → Bool} : ∀ (n : Nat) (t : List UInt8) (q q' : Sd) (t' : List UInt8), quoG may n t q = some (q', t') → q'.b.length + t'.length + 1 ≤ q.w + t.length
  | 0, _, _, _, _, h => by cases h
  | _ + 1, [], _, _, _, h => by cases h
  | n + 1, c :: t, q, q', t', h => by
    simp only [quoG] at h
    split at h
    · simp only [Option.some.injEq, Prod.mk.injEq] at h
      obtain ⟨rfl, rfl⟩ := h
      have := flush_w q
      simp only [List.length_cons]; omega
    · split at h
      · cases he : escM q t with
        | none => simp [he] at h
        | some x =>
          obtain ⟨q1, t1⟩ := x
          simp only [he] at h
          have h1 := escM_w he
          have h2 := quoG_w n t1 q1 q' t' h
          simp only [List.length_cons]; omega
      · split at h
        · have h2 := quoG_w n t _ q' t' h
          have h3 := put_w q c
          simp only [List.length_cons]; omega
        · cases h
theorem quoM_w {may : UInt8 → Bool} {t t' b : List UInt8} (h : quoM may t = some (b, t')) : b.length + t'.length + 1 ≤ t.length := by
  unfold quoM at h
  split at h
  · rename_i q t1 hq
    split at h
    · cases h; have := quoG_w _ _ _ _ _ hq; simpa [Sd.w] using this
    · cases h
  · cases h
theorem textM_w {t t' b : List UInt8} (h : textM t = .ok (b, t')) : b.length + t'.length + 2 ≤ t.length := by
  unfold textM at h
  split at h
  · rename_i hp
    split at h
    · rename_i x hx
      cases h
      have h1 := quoM_w hx
      have h3 := (skB_suf t).length_le
      have h4 := (List.isPrefixOf_iff_prefix.1 hp).length_le
      simp only [List.length_tail, List.length_cons, List.length_nil] at h1 h4
      omega
    · cases h
  · cases h
structure Fit (t t' : List UInt8) (b : Nat) : Prop where
  suf : t' <:+ t
  lt : t'.length < t.length
  sz : b + 2 * t'.length ≤ 2 * t.length
def Rp (p : List UInt8 → RR Val) : Prop := ∀ t v t', p t = .ok (v, t') → Fit t t' (bV v) ∧ wfV v
theorem bVs_snoc (l : List Val) (v : Val) : bVs (l ++ [v]) = bVs l + bV v := by simpa [bVs] using bVs_mid l v []
theorem bMs_snoc (l : List Mem) (v : Mem) : bMs (l ++ [v]) = bMs l + bM v := by simpa [bMs] using bMs_mid l v []
theorem wfVs_snoc : ∀ (l : List Val) (v : Val), wfVs l → wfV v → wfVs (l ++ [v])
  | [], _, _, h => ⟨h, trivial⟩
  | _ :: l, v, h, h' => ⟨h.1, wfVs_snoc l v h.2 h'⟩
theorem wfMs_snoc : ∀ (l : List Mem) (v : Mem), wfMs l → wfM v → wfMs (l ++ [v])
  | [], _, _, h => ⟨h, trivial⟩
  | _ :: l, v, h, h' => ⟨h.1, wfMs_snoc l v h.2 h'⟩
theorem itemsM_fit {p : List UInt8 → RR Val} (hp : Rp p) : ∀ (n : Nat) (l : List Val) (t : List UInt8) (l' : List Val) (t' : List UInt8), itemsM p n l t = .ok (l', t') →
    t' <:+ t ∧ t'.length < t.length ∧ bVs l' + 2 * t'.length ≤ bVs l + 2 * t.length ∧ (wfVs l → wfVs l')
  | 0, _, _, _, _, h => by cases h
  | n + 1, l, t, l', t', h => by
    simp only [itemsM] at h
    split at h
    · rename_i t1 hm
      cases h
      have h1 := mayM_suf hm
      simp only [List.length_cons, List.length_nil] at h1
      exact ⟨h1.1, by omega, by omega, id⟩
    · obtain ⟨_, t1, h1, h⟩ := RR.bind_ok h
      obtain ⟨v, t2, h2, h⟩ := RR.bind_ok h
      have h3 := itemsM_fit hp n _ t2 l' t' h
      have h1 := mustM_suf h1
      obtain ⟨h2, hw⟩ := hp _ _ _ h2
      obtain ⟨s2, b2, z2⟩ := h2
      rw [bVs_snoc] at h3
      simp only [List.length_cons, List.length_nil] at h1
      exact ⟨(h3.1.trans s2).trans h1.1, by omega, by omega, fun h => h3.2.2.2 (wfVs_snoc _ _ h hw)⟩
theorem memberM_fit {p : List UInt8 → RR Val} (hp : Rp p) {l l' : List Mem} {t t' : List UInt8} (h : memberM p l t = .ok (l', t')) :
    t' <:+ t ∧ t'.length < t.length ∧ bMs l' + 2 * t'.length ≤ bMs l + 2 * t.length ∧ (wfMs l → wfMs l') := by
  unfold memberM at h
  obtain ⟨s, t1, h1, h⟩ := RR.bind_ok h
  split at h
  · cases h
  · obtain ⟨_, t2, h2, h⟩ := RR.bind_ok h
    obtain ⟨v, t3, h3, h⟩ := RR.bind_ok h
    cases h
    have hs := textM_suf h1
    have hw := textM_w h1
    have h2 := mustM_suf h2
    obtain ⟨⟨s3, b3, z3⟩, w3⟩ := hp _ _ _ h3
    rw [bMs_snoc]
    simp only [bM, List.length_cons, List.length_nil] at h2 ⊢
    exact ⟨(s3.trans h2.1).trans hs.1, by omega, by omega, fun h => wfMs_snoc _ _ h w3⟩
theorem membersM_fit {p : List UInt8 → RR Val} (hp : Rp p) : ∀ (n : Nat) (l : List Mem) (t : List UInt8) (l' : List Mem) (t' : List UInt8), membersM p n l t = .ok (l', t') →
    t' <:+ t ∧ t'.length < t.length ∧ bMs l' + 2 * t'.length ≤ bMs l + 2 * t.length ∧ (wfMs l → wfMs l')
  | 0, _, _, _, _, h => by cases h
  | n + 1, l, t, l', t', h => by
    simp only [membersM] at h
    split at h
    · rename_i t1 hm
      cases h
      have h1 := mayM_suf hm
      simp only [List.length_cons, List.length_nil] at h1
      exact ⟨h1.1, by omega, by omega, id⟩
    · obtain ⟨_, t1, h1, h⟩ := RR.bind_ok h
      obtain ⟨l2, t2, h2, h⟩ := RR.bind_ok h
      have h3 := membersM_fit hp n _ t2 l' t' h
      have h1 := mustM_suf h1
      have h2 := memberM_fit hp h2
      simp only [List.length_cons, List.length_nil] at h1
      exact ⟨(h3.1.trans h2.1).trans h1.1, by omega, by omega, fun h => h3.2.2.2 (h2.2.2.2 h)⟩
theorem inR0 : inR 0 := by simp [inR]
theorem listM_fit {p : List UInt8 → RR Val} (hp : Rp p) : ∀ t v t', listM p t = .ok (v, t') → t' <:+ t ∧ bV v + 2 * t'.length ≤ 2 * t.length + 1 ∧ wfV v := fun t v t' h => by
  unfold listM at h
  split at h
  · rename_i t1 hm
    cases h
    have h1 := mayM_suf hm
    simp only [List.length_cons, List.length_nil] at h1
    exact ⟨h1.1, by simp only [bV, bVs, bMs, List.length_nil]; omega, inR0, trivial, trivial⟩
  · obtain ⟨v1, t1, h1, h⟩ := RR.bind_ok h
    obtain ⟨l, t2, h2, h⟩ := RR.bind_ok h
    cases h
    obtain ⟨⟨s1, b1, z1⟩, w1⟩ := hp _ _ _ h1
    obtain ⟨s2, b2, z2, w2⟩ := itemsM_fit hp _ _ _ _ _ h2
    simp only [bVs] at z2
    exact ⟨s2.trans s1, by simp only [bV, bMs, List.length_nil]; omega, inR0, w2 ⟨w1, trivial⟩, trivial⟩
theorem mapM_fit {p : List UInt8 → RR Val} (hp : Rp p) : ∀ t v t', mapM p t = .ok (v, t') → t' <:+ t ∧ bV v + 2 * t'.length ≤ 2 * t.length + 1 ∧ wfV v := fun t v t' h => by
  unfold mapM at h
  split at h
  · rename_i t1 hm
    cases h
    have h1 := mayM_suf hm
    simp only [List.length_cons, List.length_nil] at h1
    exact ⟨h1.1, by simp only [bV, bVs, bMs, List.length_nil]; omega, inR0, trivial, trivial⟩
  · obtain ⟨l1, t1, h1, h⟩ := RR.bind_ok h
    obtain ⟨l, t2, h2, h⟩ := RR.bind_ok h
    cases h
    obtain ⟨s1, b1, z1, w1⟩ := memberM_fit hp h1
    obtain ⟨s2, b2, z2, w2⟩ := membersM_fit hp _ _ _ _ _ h2
    simp only [bMs] at z1
    exact ⟨s2.trans s1, by simp only [bV, bVs, List.length_nil]; omega, inR0, trivial, w2 (w1 trivial)⟩
theorem numK_nil : numK [] = 0 := by decide
theorem parse_inR {s : List UInt8} {n : Int} (h : Lib.parseIntB 64 s = .ok n) : inR n := by
  cases s with
  | nil => cases h
  | cons c r =>
    simp only [Lib.parseIntB] at h
    split at h
    · cases h
    · cases h
    · split at h
      · cases h
      · split at h
        · cases h
        · rename_i h1 h2
          cases h
          simp only [inR]
          split <;> simp_all <;> omega
theorem numV_fit (s : List UInt8) : bV (numV s) ≤ 1 + s.length ∧ wfV (numV s) := by
  unfold numV
  split
  · rename_i h
    refine ⟨by simp only [bV, bVs, bMs, List.length_nil]; omega, ?_, trivial, trivial⟩
    unfold wholeB at h
    unfold valI
    rcases hp : Lib.parseIntB 64 s with v | _ | _
    · exact parse_inR hp
    · exact inR0
    · rw [hp] at h; simp [okI] at h
  · exact ⟨by simp only [bV, bVs, bMs]; omega, inR0, trivial, trivial⟩
theorem wordM_fit {t t' : List UInt8} {v : Val} (h : wordM t = .ok (v, t')) : t' <:+ t ∧ t'.length + 4 ≤ t.length ∧ bV v = 1 ∧ wfV v := by
  unfold wordM at h
  split at h
  · rename_i t1 hm
    cases h
    have h1 := mayM_suf hm
    simp only [List.length_cons, List.length_nil] at h1
    exact ⟨h1.1, by omega, rfl, inR0, trivial, trivial⟩
  · split at h
    · rename_i t1 hm
      cases h
      have h1 := mayM_suf hm
      simp only [List.length_cons, List.length_nil] at h1
      exact ⟨h1.1, by omega, rfl, by simp [inR], trivial, trivial⟩
    · obtain ⟨_, t1, h1, h⟩ := RR.bind_ok h
      cases h
      have h1 := mustM_suf h1
      simp only [List.length_cons, List.length_nil] at h1
      exact ⟨h1.1, by omega, rfl, inR0, trivial, trivial⟩
theorem headM_fit {p : List UInt8 → RR Val} (hp : Rp p) : Rp (fun t => headM t p) := fun t v t' h => by
  cases t with
  | nil => have := wordM_fit (t := []) h; simp at this
  | cons c r =>
    simp only [headM] at h
    split at h
    · obtain ⟨s1, z1, w1⟩ := mapM_fit hp _ _ _ h
      have := s1.length_le
      exact ⟨⟨s1.trans (List.suffix_cons ..), by simp; omega, by simp; omega⟩, w1⟩
    · split at h
      · obtain ⟨s1, z1, w1⟩ := listM_fit hp _ _ _ h
        have := s1.length_le
        exact ⟨⟨s1.trans (List.suffix_cons ..), by simp; omega, by simp; omega⟩, w1⟩
      · split at h
        · obtain ⟨s, t1, h1, h⟩ := RR.bind_ok h
          cases h
          have h2 := textM_suf h1
          have h3 := textM_w h1
          exact ⟨⟨h2.1, by omega, by simp only [bV, bVs, bMs]; omega⟩, inR0, trivial, trivial⟩
        · split at h
          · unfold numM at h
            split at h
            · cases h
            · rename_i hk
              cases h
              have h1 := numV_fit ((c :: r).takeWhile nch)
              have h2 : ((c :: r).takeWhile nch).length + ((c :: r).dropWhile nch).length = (c :: r).length := by
                rw [← List.length_append, List.takeWhile_append_dropWhile]
              have h3 : 0 < ((c :: r).takeWhile nch).length := by
                cases hx : (c :: r).takeWhile nch with
                | nil => rw [hx] at hk; exact absurd numK_nil hk
                | cons _ _ => simp
              exact ⟨⟨List.dropWhile_suffix _, by omega, by omega⟩, h1.2⟩
          · have := wordM_fit h
            exact ⟨⟨this.1, by omega, by omega⟩, this.2.2.2⟩
theorem deepM_fit : Rp deepM := fun _ _ _ h => by cases h
theorem valM_fit : ∀ n, Rp (valM n)
  | 0 => fun t v t' h => by
    simp only [valM] at h
    split at h
    · cases h
    · obtain ⟨⟨a, b, c⟩, d⟩ := headM_fit deepM_fit _ _ _ h
      have h1 := skB_suf t
      have h2 := h1.length_le
      exact ⟨⟨a.trans h1, by omega, by omega⟩, d⟩
  | n + 1 => fun t v t' h => by
    simp only [valM] at h
    obtain ⟨⟨a, b, c⟩, d⟩ := headM_fit (valM_fit n) _ _ _ h
    have h1 := skB_suf t
    have h2 := h1.length_le
    exact ⟨⟨a.trans h1, by omega, by omega⟩, d⟩
end Go.Proofs.YtpjafglhdlfnbaaGreatDoor
namespace Go.Proofs.YtpjafglhdlfnbaaGreatDoor
open Go.Ab
theorem bytesOf_len (l : List UInt8) : (bytesOf l).length = l.length := by simp [bytesOf]
theorem bytesOf_app (a b : List UInt8) : bytesOf a ++ bytesOf b = bytesOf (a ++ b) := by simp [bytesOf]
theorem bytesOf_strip (l : List UInt8) : (bytesOf l).map (·.map AV.strip1) = bytesOf l := by simp [bytesOf, AV.strip1]
theorem byts_of (l : List UInt8) : byts (bytesOf l) = some l := by
  induction l with
  | nil => rfl
  | cons c r ih =>
    have h := c.toNat_lt
    simp only [bytesOf, List.map_cons] at ih ⊢
    simp only [byts, ih, Option.map_some]
    rw [if_pos ⟨by omega, by omega⟩]
    simp
theorem bytesOf_one (acc : List UInt8) (c : UInt8) : bytesOf acc ++ [[.int .u8 c.toNat]] = bytesOf (acc ++ [c]) := bytesOf_app acc [c]
theorem wr32 {n : Nat} (h : n < 4294967296) : IntKind.wrap .u32 (n : Int) = n := by
  have e : IntKind.wrap .u32 (n : Int) = (n : Int) % 4294967296 := rfl
  rw [e]; omega
theorem wri32 {n : Nat} (h : n < 2147483648) : IntKind.wrap .i32 (n : Int) = n := by
  have e : IntKind.wrap .i32 (n : Int) = if (n : Int) % 4294967296 ≥ 2147483648 then (n : Int) % 4294967296 - 4294967296 else (n : Int) % 4294967296 := by
    simp [IntKind.wrap, IntKind.bits, IntKind.signed]
  rw [e]; split <;> omega
theorem wr8 (n : Nat) : IntKind.wrap .u8 (n : Int) = ((n % 256 : Nat) : Int) := by
  have e : IntKind.wrap .u8 (n : Int) = (n : Int) % 256 := rfl
  rw [e]; omega
theorem fd6 (n : Nat) : (n : Int).fdiv (2 ^ min 6 IntKind.i32.bits) = ((n / 64 : Nat) : Int) := by
  show (n : Int).fdiv 64 = _
  rw [Int.fdiv_eq_ediv_of_nonneg _ (by decide)]; omega
theorem fd12 (n : Nat) : (n : Int).fdiv (2 ^ min 12 IntKind.i32.bits) = ((n / 4096 : Nat) : Int) := by
  show (n : Int).fdiv 4096 = _
  rw [Int.fdiv_eq_ediv_of_nonneg _ (by decide)]; omega
theorem fd18 (n : Nat) : (n : Int).fdiv (2 ^ min 18 IntKind.i32.bits) = ((n / 262144 : Nat) : Int) := by
  show (n : Int).fdiv 262144 = _
  rw [Int.fdiv_eq_ediv_of_nonneg _ (by decide)]; omega
theorem leadT : ∀ x : Fin 32, IntKind.wrap .u8 ((BitVec.ofInt IntKind.u8.bits 192 ||| BitVec.ofInt IntKind.u8.bits ((x.val : Nat) : Int)).toNat : Int) = ((UInt8.ofNat (192 + x.val)).toNat : Int) := by decide +kernel
theorem leadU : ∀ x : Fin 16, IntKind.wrap .u8 ((BitVec.ofInt IntKind.u8.bits 224 ||| BitVec.ofInt IntKind.u8.bits ((x.val : Nat) : Int)).toNat : Int) = ((UInt8.ofNat (224 + x.val)).toNat : Int) := by decide +kernel
theorem leadV : ∀ x : Fin 8, IntKind.wrap .u8 ((BitVec.ofInt IntKind.u8.bits 240 ||| BitVec.ofInt IntKind.u8.bits ((x.val : Nat) : Int)).toNat : Int) = ((UInt8.ofNat (240 + x.val)).toNat : Int) := by decide +kernel
theorem contT : ∀ x : Fin 256, IntKind.wrap .u8 ((BitVec.ofInt IntKind.u8.bits 128 ||| BitVec.ofInt IntKind.u8.bits (IntKind.wrap .u8 ((BitVec.ofInt IntKind.u8.bits ((x.val : Nat) : Int) &&& BitVec.ofInt IntKind.u8.bits 63).toNat : Int))).toNat : Int) = ((UInt8.ofNat (128 + x.val % 64)).toNat : Int) := by decide +kernel
theorem lead2 {m : Nat} (h : m < 32) : IntKind.wrap .u8 ((BitVec.ofInt IntKind.u8.bits 192 ||| BitVec.ofInt IntKind.u8.bits (IntKind.wrap .u8 (m : Int))).toNat : Int) = ((UInt8.ofNat (192 + m)).toNat : Int) := by
  rw [wr8 m, Nat.mod_eq_of_lt (show m < 256 by omega)]; exact leadT ⟨m, h⟩
theorem lead3 {m : Nat} (h : m < 16) : IntKind.wrap .u8 ((BitVec.ofInt IntKind.u8.bits 224 ||| BitVec.ofInt IntKind.u8.bits (IntKind.wrap .u8 (m : Int))).toNat : Int) = ((UInt8.ofNat (224 + m)).toNat : Int) := by
  rw [wr8 m, Nat.mod_eq_of_lt (show m < 256 by omega)]; exact leadU ⟨m, h⟩
theorem lead4 {m : Nat} (h : m < 8) : IntKind.wrap .u8 ((BitVec.ofInt IntKind.u8.bits 240 ||| BitVec.ofInt IntKind.u8.bits (IntKind.wrap .u8 (m : Int))).toNat : Int) = ((UInt8.ofNat (240 + m)).toNat : Int) := by
  rw [wr8 m, Nat.mod_eq_of_lt (show m < 256 by omega)]; exact leadV ⟨m, h⟩
theorem cont (m : Nat) : IntKind.wrap .u8 ((BitVec.ofInt IntKind.u8.bits 128 ||| BitVec.ofInt IntKind.u8.bits (IntKind.wrap .u8 ((BitVec.ofInt IntKind.u8.bits (IntKind.wrap .u8 (m : Int)) &&& BitVec.ofInt IntKind.u8.bits 63).toNat : Int))).toNat : Int) = ((UInt8.ofNat (128 + m % 64)).toNat : Int) := by
  rw [wr8 m]
  have := contT ⟨m % 256, Nat.mod_lt _ (by decide)⟩
  simp only at this
  rw [this, Nat.mod_mod_of_dvd m (by decide)]
theorem appNon (n : Nat) (h0 : 127 < n) (h1 : n ≤ 1114111) (h2 : ¬ (55296 ≤ n ∧ n ≤ 57343)) (acc : List UInt8) (H : Heap) (o : Own) (ho : Owned H o acc.length 1) (hb : acc.length ≤ Lim) :
    Gives Tryz.prog 188 [.sl o 1 (bytesOf acc), .int .i32 n] H o 1 (bytesOf (acc ++ encM n)) := by
  refine ACalls.goO ir188 ck188 (Nat.le_refl _) fun KP Q hQ hP => ?_
  have e1 := wr32 (n := n) (by omega)
  have hal := bytesOf_len acc
  simp only [Lim] at hb
  have ho' : Owned H o (bytesOf acc).length 1 := by rw [hal]; exact ho
  have fin : ∀ (e : List UInt8) o' H', encM n = e → OwnS H o H' o' ((bytesOf acc).length + e.length) 1 → OwnR H o 1 (bytesOf (acc ++ encM n)) (.sl o' 1 (bytesOf acc ++ bytesOf e)) H' := fun e o' H' he hs => by
    rw [he]; exact ⟨o', by rw [bytesOf_app], by rw [bytesOf_len, List.length_append]; rw [hal] at hs; exact hs⟩
  by_cases h3 : n ≤ 2047
  · have g1 : ((n : Int) ≤ 2047) = True := eq_true (by omega)
    simp (disch := first | omega | assumption) only [ir188, e1, g1, steps, st2, pev, rev, oev, optr, ibin, sbin, ishf, bound, mmAll, mm2, mk, mkArgs, AV.cells, AV.boxable, AV.one, AV.strip1, fillA, fillS, Nat.reduceEqDiff, reduceCtorEq, ↓reduceIte, Nat.reduceAdd, Int.reduceNeg, Nat.reduceLeDiff, Int.reduceToNat, Int.reduceEq, Int.reduceLT, Int.reduceLE, Int.reduceAdd]
    simp only [fd6, lead2 (show n / 64 < 32 by omega), cont]
    refine goP_ownS ho' (by simp [hal]; omega) (by simp [hal, maxLen]; omega) fun o' H' hs => ?_
    simp (disch := first | omega | assumption) only [steps, st2, pev, rev, oev, optr, ibin, sbin, ishf, bound, mmAll, mm2, mk, mkArgs, AV.cells, AV.boxable, AV.one, AV.strip1, fillA, fillS, Nat.reduceEqDiff, reduceCtorEq, ↓reduceIte, Nat.reduceAdd, Int.reduceNeg, Nat.reduceLeDiff, Int.reduceToNat, Int.reduceEq, Int.reduceLT, Int.reduceLE, Int.reduceAdd]
    exact hQ _ _ H' H' [_] nofun rfl (Low.refl _) (fin [_, _] o' H' (by unfold encM; rw [if_neg (by omega), if_pos h3]) hs)
  · have g1 : ¬ ((n : Int) ≤ 2047) := by omega
    by_cases h4 : n ≤ 65535
    · by_cases h5 : n < 55296
      · have g2 : ((n : Int) < 55296) = True := eq_true (by omega)
        simp (disch := first | omega | assumption) only [ir188, e1, g1, g2, steps, st2, pev, rev, oev, optr, ibin, sbin, ishf, bound, mmAll, mm2, mk, mkArgs, AV.cells, AV.boxable, AV.one, AV.strip1, fillA, fillS, Nat.reduceEqDiff, reduceCtorEq, ↓reduceIte, Nat.reduceAdd, Int.reduceNeg, Nat.reduceLeDiff, Int.reduceToNat, Int.reduceEq, Int.reduceLT, Int.reduceLE, Int.reduceAdd]
        simp only [fd6, fd12, lead3 (show n / 4096 < 16 by omega), cont]
        refine goP_ownS ho' (by simp [hal]; omega) (by simp [hal, maxLen]; omega) fun o' H' hs => ?_
        simp (disch := first | omega | assumption) only [steps, st2, pev, rev, oev, optr, ibin, sbin, ishf, bound, mmAll, mm2, mk, mkArgs, AV.cells, AV.boxable, AV.one, AV.strip1, fillA, fillS, Nat.reduceEqDiff, reduceCtorEq, ↓reduceIte, Nat.reduceAdd, Int.reduceNeg, Nat.reduceLeDiff, Int.reduceToNat, Int.reduceEq, Int.reduceLT, Int.reduceLE, Int.reduceAdd]
        exact hQ _ _ H' H' [_] nofun rfl (Low.refl _) (fin [_, _, _] o' H' (by unfold encM; rw [if_neg (by omega), if_neg h3, if_pos h4]) hs)
      · have g2 : ¬ ((n : Int) < 55296) := by omega
        have g3 : ((57343 : Int) < n) = True := eq_true (by omega)
        have g4 : ((n : Int) ≤ 65535) = True := eq_true (by omega)
        simp (disch := first | omega | assumption) only [ir188, e1, g1, g2, g3, g4, steps, st2, pev, rev, oev, optr, ibin, sbin, ishf, bound, mmAll, mm2, mk, mkArgs, AV.cells, AV.boxable, AV.one, AV.strip1, fillA, fillS, Nat.reduceEqDiff, reduceCtorEq, ↓reduceIte, Nat.reduceAdd, Int.reduceNeg, Nat.reduceLeDiff, Int.reduceToNat, Int.reduceEq, Int.reduceLT, Int.reduceLE, Int.reduceAdd]
        simp only [fd6, fd12, lead3 (show n / 4096 < 16 by omega), cont]
        refine goP_ownS ho' (by simp [hal]; omega) (by simp [hal, maxLen]; omega) fun o' H' hs => ?_
        simp (disch := first | omega | assumption) only [steps, st2, pev, rev, oev, optr, ibin, sbin, ishf, bound, mmAll, mm2, mk, mkArgs, AV.cells, AV.boxable, AV.one, AV.strip1, fillA, fillS, Nat.reduceEqDiff, reduceCtorEq, ↓reduceIte, Nat.reduceAdd, Int.reduceNeg, Nat.reduceLeDiff, Int.reduceToNat, Int.reduceEq, Int.reduceLT, Int.reduceLE, Int.reduceAdd]
        exact hQ _ _ H' H' [_] nofun rfl (Low.refl _) (fin [_, _, _] o' H' (by unfold encM; rw [if_neg (by omega), if_neg h3, if_pos h4]) hs)
    · have g2 : ¬ ((n : Int) < 55296) := by omega
      have g3 : ((57343 : Int) < n) = True := eq_true (by omega)
      have g4 : ¬ ((n : Int) ≤ 65535) := by omega
      have g5 : ((65535 : Int) < n) = True := eq_true (by omega)
      have g6 : ((n : Int) ≤ 1114111) = True := eq_true (by omega)
      simp (disch := first | omega | assumption) only [ir188, e1, g1, g2, g3, g4, g5, g6, steps, st2, pev, rev, oev, optr, ibin, sbin, ishf, bound, mmAll, mm2, mk, mkArgs, AV.cells, AV.boxable, AV.one, AV.strip1, fillA, fillS, Nat.reduceEqDiff, reduceCtorEq, ↓reduceIte, Nat.reduceAdd, Int.reduceNeg, Nat.reduceLeDiff, Int.reduceToNat, Int.reduceEq, Int.reduceLT, Int.reduceLE, Int.reduceAdd]
      simp only [fd6, fd12, fd18, lead4 (show n / 262144 < 8 by omega), cont]
      refine goP_ownS ho' (by simp [hal]; omega) (by simp [hal, maxLen]; omega) fun o' H' hs => ?_
      simp (disch := first | omega | assumption) only [steps, st2, pev, rev, oev, optr, ibin, sbin, ishf, bound, mmAll, mm2, mk, mkArgs, AV.cells, AV.boxable, AV.one, AV.strip1, fillA, fillS, Nat.reduceEqDiff, reduceCtorEq, ↓reduceIte, Nat.reduceAdd, Int.reduceNeg, Nat.reduceLeDiff, Int.reduceToNat, Int.reduceEq, Int.reduceLT, Int.reduceLE, Int.reduceAdd]
      exact hQ _ _ H' H' [_] nofun rfl (Low.refl _) (fin [_, _, _, _] o' H' (by unfold encM; rw [if_neg (by omega), if_neg h3, if_neg h4]) hs)
theorem appRune (n : Nat) (h1 : n ≤ 1114111) (h2 : ¬ (55296 ≤ n ∧ n ≤ 57343)) (acc : List UInt8) (H : Heap) (o : Own) (ho : Owned H o acc.length 1) (hb : acc.length ≤ Lim) :
    Gives Tryz.prog 179 [.sl o 1 (bytesOf acc), .int .i32 n] H o 1 (bytesOf (acc ++ encM n)) := by
  refine ACalls.goO ir179 ck179 (Nat.le_refl _) fun KP Q hQ hP => ?_
  have e1 := wr32 (n := n) (by omega)
  have hal := bytesOf_len acc
  by_cases h3 : n ≤ 127
  · have g1 : ((n : Int) ≤ 127) = True := eq_true (by omega)
    have g2 : IntKind.wrap .u8 (n : Int) = ((UInt8.ofNat n).toNat : Int) := by rw [wr8]; simp
    simp only [Lim] at hb
    simp (disch := first | omega | assumption) only [ir179, e1, g1, g2, steps, st2, pev, rev, oev, optr, ibin, sbin, ishf, bound, mmAll, mm2, mk, mkArgs, AV.cells, AV.boxable, AV.one, AV.strip1, fillA, fillS, Nat.reduceEqDiff, reduceCtorEq, ↓reduceIte, Nat.reduceAdd, Int.reduceNeg, Nat.reduceLeDiff, Int.reduceToNat, Int.reduceEq, Int.reduceLT, Int.reduceLE, Int.reduceAdd]
    refine goP_ownS (by rw [hal]; exact ho) (by simp [hal]; omega) (by simp [hal, maxLen]; omega) fun o' H' hs => ?_
    simp (disch := first | omega | assumption) only [steps, st2, pev, rev, oev, optr, ibin, sbin, ishf, bound, mmAll, mm2, mk, mkArgs, AV.cells, AV.boxable, AV.one, AV.strip1, fillA, fillS, Nat.reduceEqDiff, reduceCtorEq, ↓reduceIte, Nat.reduceAdd, Int.reduceNeg, Nat.reduceLeDiff, Int.reduceToNat, Int.reduceEq, Int.reduceLT, Int.reduceLE, Int.reduceAdd]
    refine hQ _ _ H' H' [_] nofun rfl (Low.refl _) ⟨o', ?_, ?_⟩
    · have : encM n = [UInt8.ofNat n] := by unfold encM; rw [if_pos h3]
      rw [this]; exact congrArg _ (bytesOf_one _ _)
    · have : encM n = [UInt8.ofNat n] := by unfold encM; rw [if_pos h3]
      rw [this, bytesOf_len]; simpa [hal] using hs
  · have g1 : ¬ ((n : Int) ≤ 127) := by omega
    simp (disch := first | omega | assumption) only [ir179, e1, g1, steps, st2, pev, rev, oev, optr, ibin, sbin, ishf, bound, mmAll, mm2, mk, mkArgs, AV.cells, AV.boxable, AV.one, AV.strip1, fillA, fillS, Nat.reduceEqDiff, reduceCtorEq, ↓reduceIte, Nat.reduceAdd, Int.reduceNeg, Nat.reduceLeDiff, Int.reduceToNat, Int.reduceEq, Int.reduceLT, Int.reduceLE, Int.reduceAdd]
    refine goK_gives (appNon n (by omega) h1 h2 acc H o ho hb) fun o' H' hs => ?_
    simp (disch := first | omega | assumption) only [steps, st2, pev, rev, oev, optr, ibin, sbin, ishf, bound, mmAll, mm2, mk, mkArgs, AV.cells, AV.boxable, AV.one, AV.strip1, fillA, fillS, Nat.reduceEqDiff, reduceCtorEq, ↓reduceIte, Nat.reduceAdd, Int.reduceNeg, Nat.reduceLeDiff, Int.reduceToNat, Int.reduceEq, Int.reduceLT, Int.reduceLE, Int.reduceAdd]
    exact hQ _ _ H' H' [_] nofun rfl (Low.refl _) ⟨o', rfl, hs⟩
end Go.Proofs.YtpjafglhdlfnbaaGreatDoor
namespace Go.Proofs.YtpjafglhdlfnbaaGreatDoor
open Go.Ab
theorem or32T : ∀ x : Fin 256, IntKind.wrap .u8 ((BitVec.ofInt IntKind.u8.bits ((x.val : Nat) : Int) ||| BitVec.ofInt IntKind.u8.bits 32).toNat : Int) = ((UInt8.ofNat x.val ||| 32).toNat : Int) := by decide +kernel
theorem or32 (c : UInt8) : IntKind.wrap .u8 ((BitVec.ofInt IntKind.u8.bits (c.toNat : Int) ||| BitVec.ofInt IntKind.u8.bits 32).toNat : Int) = ((c ||| 32).toNat : Int) := by
  have := or32T ⟨c.toNat, c.toNat_lt⟩
  simpa using this
theorem idx_le (l : List UInt8) (c : UInt8) : -1 ≤ Lib.indexByte l c ∧ Lib.indexByte l c < l.length := by
  induction l with
  | nil => simp [Lib.indexByte]
  | cons x r ih =>
    simp only [Lib.indexByte, List.length_cons]
    split
    · omega
    · split
      · omega
      · omega
theorem hexD_lt {c : UInt8} {k : Nat} (h : hexD c = some k) : k < 16 := by
  unfold hexD at h
  split at h
  · cases h
  · cases h; have := idx_le hexL (c ||| 32); simp only [hexL, List.length_cons, List.length_nil] at this ⊢; omega
theorem unitG_lt : ∀ (n : Nat) (t : List UInt8) (u v m : Nat), u < m → unitG n t u = some v → v < m * 16 ^ n
  | 0, _, u, v, m, hu, h => by simp only [unitG, Option.some.injEq] at h; subst h; simpa using hu
  | n + 1, [], _, _, _, _, h => by cases h
  | n + 1, c :: t, u, v, m, hu, h => by
    simp only [unitG] at h
    split at h
    · cases h
    · rename_i k hk
      have h1 := hexD_lt hk
      have h2 := unitG_lt n t (16 * u + k) v (16 * m) (by omega) h
      rw [Nat.pow_succ]; rw [show 16 * m * 16 ^ n = m * (16 ^ n * 16) by rw [Nat.mul_comm (16 ^ n) 16, ← Nat.mul_assoc, Nat.mul_comm m 16]] at h2; exact h2
theorem unitM_lt {t : List UInt8} {u : Nat} (h : unitM t = some u) : u < 65536 := unitG_lt 4 t 0 u 1 (by decide) h
theorem unitC (s : List UInt8) (hs : s.length ≤ Lim) : Pure Tryz.prog 168 [.str s] (.tup [.int .i64 ((unitM s).getD 0 : Nat), .bool (unitM s).isSome]) := by
  refine Pure.go ir168 ck168 (Nat.le_refl _) fun KP Q hQ => ?_
  simp only [Lim] at hs
  by_cases h4 : s.length < 4
  · have g1 : ((s.length : Int) < 4) = True := eq_true (by omega)
    have : unitM s = none := by
      cases h : unitM s with
      | none => rfl
      | some u => have := unitG_len _ _ _ _ h; omega
    simp (disch := first | omega | assumption) only [ir168, g1, steps, st2, pev, rev, oev, optr, ibin, sbin, ishf, bound, mmAll, mm2, mk, mkArgs, AV.cells, AV.boxable, AV.one, AV.strip1, fillA, fillS, Nat.reduceEqDiff, reduceCtorEq, ↓reduceIte, Nat.reduceAdd, Int.reduceNeg, Nat.reduceLeDiff, Int.reduceToNat, Int.reduceEq, Int.reduceLT, Int.reduceLE, Int.reduceAdd]
    exact hQ _ _ _ _ nofun rfl (by simp [tupOf, envOf, AV.strip, AV.strip1, this])
  · have g1 : ¬ ((s.length : Int) < 4) := by omega
    obtain ⟨l, r, hl, hsr⟩ : ∃ l r : List UInt8, l.length = 4 ∧ s = l ++ r := ⟨s.take 4, s.drop 4, by simp; omega, by simp⟩
    have hl' : (l.length : Int) = 4 := by omega
    have key : ∀ (a b : List UInt8) (u : Nat), l = a ++ b → unitG b.length (b ++ r) u = unitG (4 - a.length) (s.drop a.length) u := fun a b u h => by
      have : a.length + b.length = 4 := by rw [← hl, h]; simp
      rw [hsr, h, List.append_assoc, List.drop_left]; congr 1; omega
    simp (disch := first | omega | assumption) only [ir168, g1, steps, st2, pev, rev, oev, optr, ibin, sbin, ishf, bound, mmAll, mm2, mk, mkArgs, AV.cells, AV.boxable, AV.one, AV.strip1, fillA, fillS, Nat.reduceEqDiff, reduceCtorEq, ↓reduceIte, Nat.reduceAdd, Int.reduceNeg, Nat.reduceLeDiff, Int.reduceToNat, Int.reduceEq, Int.reduceLT, Int.reduceLE, Int.reduceAdd]
    refine goL_range l 10 (fun u : Nat => [(4, .int .i64 u)]) (fun done rest u H => unitG rest.length (rest ++ r) u = unitM s ∧ u < 16 ^ done.length ∧ H = Heap.emp) 0 (by simp (disch := first | omega | assumption) only [steps, st2, pev, rev, oev, optr, ibin, sbin, ishf, bound, mmAll, mm2, mk, mkArgs, AV.cells, AV.boxable, AV.one, AV.strip1, fillA, fillS, Nat.reduceEqDiff, reduceCtorEq, ↓reduceIte, Nat.reduceAdd, Int.reduceNeg, Nat.reduceLeDiff, Int.reduceToNat, Int.reduceEq, Int.reduceLT, Int.reduceLE, Int.reduceAdd]) ⟨by rw [hl, ← hsr]; rfl, by simp, rfl⟩ ?_ ?_
    · rintro u H J ⟨hu, _, rfl⟩ hlt
      simp only [List.length_nil, unitG] at hu
      simp (disch := first | omega | assumption) only [hl', steps, st2, pev, rev, oev, optr, ibin, sbin, ishf, bound, mmAll, mm2, mk, mkArgs, AV.cells, AV.boxable, AV.one, AV.strip1, fillA, fillS, Nat.reduceEqDiff, reduceCtorEq, ↓reduceIte, Nat.reduceAdd, Int.reduceNeg, Nat.reduceLeDiff, Int.reduceToNat, Int.reduceEq, Int.reduceLT, Int.reduceLE, Int.reduceAdd]
      exact hQ _ _ _ _ nofun rfl (by simp [tupOf, envOf, AV.strip, AV.strip1, ← hu])
    · rintro done c rest u H J hd hlt hlt2 ⟨hu, hb, rfl⟩ hJ
      have hd4 : done.length < 4 := by omega
      have hlt' : (done.length : Int) < 4 := by omega
      have hlt3 : (done.length : Int) < s.length := by omega
      have hg : s.getD done.length 0 = c := by rw [hsr, hd]; simp
      have hpow : 16 ^ done.length ≤ 4096 := by
        have : done.length ≤ 3 := by omega
        calc 16 ^ done.length ≤ 16 ^ 3 := Nat.pow_le_pow_right (by decide) this
          _ = 4096 := rfl
      simp only [List.length_cons, List.cons_append, unitG] at hu
      have hidx := idx_le hexL (c ||| 32)
      have hc := c.toNat_lt
      simp only [hexL, List.length_cons, List.length_nil] at hidx
      simp (disch := first | omega | assumption) only [hlt', hlt3, hg, or32, steps, st2, pev, rev, oev, optr, ibin, sbin, ishf, bound, mmAll, mm2, mk, mkArgs, AV.cells, AV.boxable, AV.one, AV.strip1, fillA, fillS, Nat.reduceEqDiff, reduceCtorEq, ↓reduceIte, Nat.reduceAdd, Int.reduceNeg, Nat.reduceLeDiff, Int.reduceToNat, Int.reduceEq, Int.reduceLT, Int.reduceLE, Int.reduceAdd]
      refine goK_pure (idxByteC hexL (c ||| 32)) ?_
      have no : hexD c = none → (unitM s) = none := fun e => by rw [e] at hu; exact hu.symm
      by_cases n1 : Lib.indexByte hexL (c ||| 32) < 0
      · have e : hexD c = none := by unfold hexD; rw [if_pos (.inl n1)]
        simp (disch := first | omega | assumption) only [n1, steps, st2, pev, rev, oev, optr, ibin, sbin, ishf, bound, mmAll, mm2, mk, mkArgs, AV.cells, AV.boxable, AV.one, AV.strip1, fillA, fillS, Nat.reduceEqDiff, reduceCtorEq, ↓reduceIte, Nat.reduceAdd, Int.reduceNeg, Nat.reduceLeDiff, Int.reduceToNat, Int.reduceEq, Int.reduceLT, Int.reduceLE, Int.reduceAdd]
        exact hQ _ _ _ _ nofun rfl (by simp [tupOf, envOf, AV.strip, AV.strip1, no e])
      obtain ⟨k, hk⟩ : ∃ k : Nat, Lib.indexByte hexL (c ||| 32) = (k : Int) := ⟨(Lib.indexByte hexL (c ||| 32)).toNat, by omega⟩
      have hk16 : k < 16 := by rw [show Lib.indexByte [48, 49, 50, 51, 52, 53, 54, 55, 56, 57, 97, 98, 99, 100, 101, 102] (c ||| 32) = (k : Int) from hk] at hidx; omega
      have hu4 : u < 4096 := by omega
      have hkn : ¬ ((k : Int) < 0) := by omega
      have hnext : hexD c = some k → unitG rest.length (rest ++ r) (16 * u + k) = unitM s ∧ 16 * u + k < 16 ^ (done ++ [c]).length ∧ Heap.emp = Heap.emp := fun e => by
        rw [e] at hu
        refine ⟨hu, ?_, rfl⟩
        rw [List.length_append, List.length_cons, List.length_nil, Nat.pow_succ]; omega
      have hpush : ((16 * u + k : Nat) : Int) = 16 * (u : Int) + k := by omega
      by_cases n2 : c.toNat < 48
      · have e : hexD c = none := by unfold hexD; rw [if_pos (.inr (.inl n2))]
        have n2' : ((c.toNat : Int) < 48) = True := eq_true (by omega)
        simp (disch := first | omega | assumption) only [hk, hkn, n2', hlt3, hg, steps, st2, pev, rev, oev, optr, ibin, sbin, ishf, bound, mmAll, mm2, mk, mkArgs, AV.cells, AV.boxable, AV.one, AV.strip1, fillA, fillS, Nat.reduceEqDiff, reduceCtorEq, ↓reduceIte, Nat.reduceAdd, Int.reduceNeg, Nat.reduceLeDiff, Int.reduceToNat, Int.reduceEq, Int.reduceLT, Int.reduceLE, Int.reduceAdd]
        exact hQ _ _ _ _ nofun rfl (by simp [tupOf, envOf, AV.strip, AV.strip1, no e])
      have n2' : ¬ ((c.toNat : Int) < 48) := by omega
      by_cases n3 : 57 < c.toNat
      · have n3' : ((57 : Int) < c.toNat) = True := eq_true (by omega)
        by_cases n4 : c.toNat < 65
        · have e : hexD c = none := by unfold hexD; rw [if_pos (.inr (.inr ⟨n3, n4⟩))]
          have n4' : ((c.toNat : Int) < 65) = True := eq_true (by omega)
          simp (disch := first | omega | assumption) only [hk, hkn, n2', n3', n4', hlt3, hg, steps, st2, pev, rev, oev, optr, ibin, sbin, ishf, bound, mmAll, mm2, mk, mkArgs, AV.cells, AV.boxable, AV.one, AV.strip1, fillA, fillS, Nat.reduceEqDiff, reduceCtorEq, ↓reduceIte, Nat.reduceAdd, Int.reduceNeg, Nat.reduceLeDiff, Int.reduceToNat, Int.reduceEq, Int.reduceLT, Int.reduceLE, Int.reduceAdd]
          exact hQ _ _ _ _ nofun rfl (by simp [tupOf, envOf, AV.strip, AV.strip1, no e])
        · have e : hexD c = some k := by unfold hexD; rw [if_neg (by omega), hk]; rfl
          have n4' : ¬ ((c.toNat : Int) < 65) := by omega
          simp (disch := first | omega | assumption) only [hk, hkn, n2', n3', n4', hlt3, hg, wrap64, steps, st2, pev, rev, oev, optr, ibin, sbin, ishf, bound, mmAll, mm2, mk, mkArgs, AV.cells, AV.boxable, AV.one, AV.strip1, fillA, fillS, Nat.reduceEqDiff, reduceCtorEq, ↓reduceIte, Nat.reduceAdd, Int.reduceNeg, Nat.reduceLeDiff, Int.reduceToNat, Int.reduceEq, Int.reduceLT, Int.reduceLE, Int.reduceAdd]
          refine goJ (hJ (16 * u + k) _ (hnext e)) (by simp (disch := first | omega | assumption) only [hpush, steps, st2, pev, rev, oev, optr, ibin, sbin, ishf, bound, mmAll, mm2, mk, mkArgs, AV.cells, AV.boxable, AV.one, AV.strip1, fillA, fillS, Nat.reduceEqDiff, reduceCtorEq, ↓reduceIte, Nat.reduceAdd, Int.reduceNeg, Nat.reduceLeDiff, Int.reduceToNat, Int.reduceEq, Int.reduceLT, Int.reduceLE, Int.reduceAdd])
      · have e : hexD c = some k := by unfold hexD; rw [if_neg (by omega), hk]; rfl
        have n3' : ¬ ((57 : Int) < c.toNat) := by omega
        simp (disch := first | omega | assumption) only [hk, hkn, n2', n3', hlt3, hg, wrap64, steps, st2, pev, rev, oev, optr, ibin, sbin, ishf, bound, mmAll, mm2, mk, mkArgs, AV.cells, AV.boxable, AV.one, AV.strip1, fillA, fillS, Nat.reduceEqDiff, reduceCtorEq, ↓reduceIte, Nat.reduceAdd, Int.reduceNeg, Nat.reduceLeDiff, Int.reduceToNat, Int.reduceEq, Int.reduceLT, Int.reduceLE, Int.reduceAdd]
        refine goJ (hJ (16 * u + k) _ (hnext e)) (by simp (disch := first | omega | assumption) only [hpush, steps, st2, pev, rev, oev, optr, ibin, sbin, ishf, bound, mmAll, mm2, mk, mkArgs, AV.cells, AV.boxable, AV.one, AV.strip1, fillA, fillS, Nat.reduceEqDiff, reduceCtorEq, ↓reduceIte, Nat.reduceAdd, Int.reduceNeg, Nat.reduceLeDiff, Int.reduceToNat, Int.reduceEq, Int.reduceLT, Int.reduceLE, Int.reduceAdd])
def cU (l : List Nat) : List (List AV) := l.map fun (n : Nat) => [AV.int .i64 (n : Int)]
theorem cU_len (l : List Nat) : (cU l).length = l.length := by simp [cU]
theorem cU_strip (l : List Nat) : (cU l).map (·.map AV.strip1) = cU l := by simp [cU, AV.strip1]
theorem joinC (us : List Nat) (hl : us.length ≤ 68719476736) : Pure Tryz.prog 169 [.sl .no 1 (cU us)] (.tup [.str ((joinM us).getD []), .bool (joinM us).isSome]) := by
  refine Pure.go ir169 ck169 (Nat.le_refl _) fun KP Q hQ => ?_
  have hll := cU_len us
  simp (disch := first | omega | assumption) only [ir169, steps, st2, pev, rev, oev, optr, ibin, sbin, ishf, bound, mmAll, mm2, mk, mkArgs, AV.cells, AV.boxable, AV.one, AV.strip1, fillA, fillS, Nat.reduceEqDiff, reduceCtorEq, ↓reduceIte, Nat.reduceAdd, Int.reduceNeg, Nat.reduceLeDiff, Int.reduceToNat, Int.reduceEq, Int.reduceLT, Int.reduceLE, Int.reduceAdd]
  refine goL_st (fun s : List Nat × List Nat × Own × List UInt8 => [(4, .sl s.2.2.1 1 (bytesOf s.2.2.2)), (5, .int .i64 s.1.length)]) (fun s H => us = s.1 ++ s.2.1 ∧ joinM us = (joinM s.2.1).map (s.2.2.2 ++ ·) ∧ s.2.2.2.length ≤ 2 * s.1.length * 2 ∧ Owned H s.2.2.1 s.2.2.2.length 1) (fun s => s.2.1.length) ([], us, .nil, []) (by simp (disch := first | omega | assumption) only [steps, st2, pev, rev, oev, optr, ibin, sbin, ishf, bound, mmAll, mm2, mk, mkArgs, AV.cells, AV.boxable, AV.one, AV.strip1, fillA, fillS, Nat.reduceEqDiff, reduceCtorEq, ↓reduceIte, Nat.reduceAdd, Int.reduceNeg, Nat.reduceLeDiff, Int.reduceToNat, Int.reduceEq, Int.reduceLT, Int.reduceLE, Int.reduceAdd]; rfl) ⟨rfl, by cases joinM us <;> rfl, by simp, rfl⟩ ?_
  rintro ⟨done, rest, o, out⟩ H J ⟨hd, hj, hle, ho⟩ hJ
  simp only at hd hj hle ho
  have hdl : done.length + rest.length = us.length := by rw [hd]; simp
  cases rest with
  | nil =>
    simp only [List.append_nil] at hd
    have hlt : ¬ ((done.length : Int) < us.length) := by rw [hd]; omega
    simp (disch := first | omega | assumption) only [hll, hlt, steps, st2, pev, rev, oev, optr, ibin, sbin, ishf, bound, mmAll, mm2, mk, mkArgs, AV.cells, AV.boxable, AV.one, AV.strip1, fillA, fillS, Nat.reduceEqDiff, reduceCtorEq, ↓reduceIte, Nat.reduceAdd, Int.reduceNeg, Nat.reduceLeDiff, Int.reduceToNat, Int.reduceEq, Int.reduceLT, Int.reduceLE, Int.reduceAdd]
    simp only [joinM, Option.map_some, List.append_nil] at hj
    simp (disch := first | omega | assumption) only [byts_of, steps, st2, pev, rev, oev, optr, ibin, sbin, ishf, bound, mmAll, mm2, mk, mkArgs, AV.cells, AV.boxable, AV.one, AV.strip1, fillA, fillS, Nat.reduceEqDiff, reduceCtorEq, ↓reduceIte, Nat.reduceAdd, Int.reduceNeg, Nat.reduceLeDiff, Int.reduceToNat, Int.reduceEq, Int.reduceLT, Int.reduceLE, Int.reduceAdd]
    exact hQ _ _ _ _ nofun rfl (by simp [tupOf, envOf, AV.strip, AV.strip1, hj])
  | cons u r =>
    have hlt : ((done.length : Int) < us.length) := by simp at hdl; omega
    have hg : (cU us).getD done.length [] = [.int .i64 u] := by rw [hd]; simp [cU]
    have hu0 : ¬ ((u : Int) < 0) := by omega
    have hrl : r.length + 1 + done.length = us.length := by simp at hdl; omega
    have none_of : joinM (u :: r) = none → joinM us = none := fun e => by rw [hj, e]; rfl
    have hmax : maxLen = 9223372036854775807 := rfl
    by_cases a1 : 65535 < u
    · have e := none_of (by rw [joinM.eq_def]; simp only; rw [if_pos (.inl a1)])
      have a1' : ((65535 : Int) < u) = True := eq_true (by omega)
      simp (disch := first | omega | assumption) only [hll, hlt, hg, hu0, a1', steps, st2, pev, rev, oev, optr, ibin, sbin, ishf, bound, mmAll, mm2, mk, mkArgs, AV.cells, AV.boxable, AV.one, AV.strip1, fillA, fillS, Nat.reduceEqDiff, reduceCtorEq, ↓reduceIte, Nat.reduceAdd, Int.reduceNeg, Nat.reduceLeDiff, Int.reduceToNat, Int.reduceEq, Int.reduceLT, Int.reduceLE, Int.reduceAdd]
      exact hQ _ _ _ _ nofun rfl (by simp [tupOf, envOf, AV.strip, AV.strip1, e])
    have a1' : ¬ ((65535 : Int) < u) := by omega
    by_cases a2 : 56320 ≤ u ∧ u ≤ 57343
    · have e := none_of (by rw [joinM.eq_def]; simp only; rw [if_pos (.inr a2)])
      have a2' : ((56320 : Int) ≤ u) = True := eq_true (by omega)
      have a3' : ((u : Int) ≤ 57343) = True := eq_true (by omega)
      simp (disch := first | omega | assumption) only [hll, hlt, hg, hu0, a1', a2', a3', steps, st2, pev, rev, oev, optr, ibin, sbin, ishf, bound, mmAll, mm2, mk, mkArgs, AV.cells, AV.boxable, AV.one, AV.strip1, fillA, fillS, Nat.reduceEqDiff, reduceCtorEq, ↓reduceIte, Nat.reduceAdd, Int.reduceNeg, Nat.reduceLeDiff, Int.reduceToNat, Int.reduceEq, Int.reduceLT, Int.reduceLE, Int.reduceAdd]
      exact hQ _ _ _ _ nofun rfl (by simp [tupOf, envOf, AV.strip, AV.strip1, e])
    by_cases a3 : 55296 ≤ u ∧ u < 56320
    · have b1 : ¬ ((56320 : Int) ≤ u) := by omega
      have b2 : ((55296 : Int) ≤ u) = True := eq_true (by omega)
      have b3 : ((u : Int) < 56320) = True := eq_true (by omega)
      cases r with
      | nil =>
        have e := none_of (by rw [joinM.eq_def]; simp only; rw [if_neg (by omega), if_pos a3])
        have b4 : ((done.length : Int) + 1 = us.length) = True := eq_true (by simp at hrl; omega)
        simp (disch := first | omega | assumption) only [hll, hlt, hg, hu0, a1', b1, b2, b3, wrap64, b4, steps, st2, pev, rev, oev, optr, ibin, sbin, ishf, bound, mmAll, mm2, mk, mkArgs, AV.cells, AV.boxable, AV.one, AV.strip1, fillA, fillS, Nat.reduceEqDiff, reduceCtorEq, ↓reduceIte, Nat.reduceAdd, Int.reduceNeg, Nat.reduceLeDiff, Int.reduceToNat, Int.reduceEq, Int.reduceLT, Int.reduceLE, Int.reduceAdd]
        exact hQ _ _ _ _ nofun rfl (by simp [tupOf, envOf, AV.strip, AV.strip1, e])
      | cons v r =>
        have b4 : ¬ ((done.length : Int) + 1 = us.length) := by simp at hrl; omega
        have b5 : ((done.length : Int) + 1 < us.length) := by simp at hrl; omega
        have b6 : ((done.length : Int) + 1).toNat = done.length + 1 := by omega
        have hg2 : (cU us).getD (done.length + 1) [] = [.int .i64 v] := by rw [hd]; simp [cU]
        by_cases c1 : v < 56320
        · have e := none_of (by rw [joinM.eq_def]; simp only; rw [if_neg (by omega), if_pos a3, if_pos (.inl c1)])
          have c1' : ((v : Int) < 56320) = True := eq_true (by omega)
          simp (disch := first | omega | assumption) only [hll, hlt, hg, hu0, a1', b1, b2, b3, wrap64, b4, b5, b6, hg2, c1', steps, st2, pev, rev, oev, optr, ibin, sbin, ishf, bound, mmAll, mm2, mk, mkArgs, AV.cells, AV.boxable, AV.one, AV.strip1, fillA, fillS, Nat.reduceEqDiff, reduceCtorEq, ↓reduceIte, Nat.reduceAdd, Int.reduceNeg, Nat.reduceLeDiff, Int.reduceToNat, Int.reduceEq, Int.reduceLT, Int.reduceLE, Int.reduceAdd]
          exact hQ _ _ _ _ nofun rfl (by simp [tupOf, envOf, AV.strip, AV.strip1, e])
        have c1' : ¬ ((v : Int) < 56320) := by omega
        by_cases c2 : 57343 < v
        · have e := none_of (by rw [joinM.eq_def]; simp only; rw [if_neg (by omega), if_pos a3, if_pos (.inr c2)])
          have c2' : ((57343 : Int) < v) = True := eq_true (by omega)
          simp (disch := first | omega | assumption) only [hll, hlt, hg, hu0, a1', b1, b2, b3, wrap64, b4, b5, b6, hg2, c1', c2', steps, st2, pev, rev, oev, optr, ibin, sbin, ishf, bound, mmAll, mm2, mk, mkArgs, AV.cells, AV.boxable, AV.one, AV.strip1, fillA, fillS, Nat.reduceEqDiff, reduceCtorEq, ↓reduceIte, Nat.reduceAdd, Int.reduceNeg, Nat.reduceLeDiff, Int.reduceToNat, Int.reduceEq, Int.reduceLT, Int.reduceLE, Int.reduceAdd]
          exact hQ _ _ _ _ nofun rfl (by simp [tupOf, envOf, AV.strip, AV.strip1, e])
        have c2' : ¬ ((57343 : Int) < v) := by omega
        have ej : joinM (u :: v :: r) = (joinM r).map (encM (65536 + 1024 * (u - 55296) + (v - 56320)) ++ ·) := by rw [joinM.eq_def]; simp only; rw [if_neg (by omega), if_pos a3, if_neg (by omega)]
        obtain ⟨m, hm⟩ : ∃ m, 65536 + 1024 * (u - 55296) + (v - 56320) = m := ⟨_, rfl⟩
        rw [hm] at ej
        have hm2 : (65536 + 1024 * ((u : Int) - 55296) + v - 56320) = (m : Int) := by omega
        have hm3 := (encM_len m).1
        simp (disch := first | omega | assumption) only [hll, hlt, hg, hu0, a1', b1, b2, b3, wrap64, b4, b5, b6, hg2, c1', c2', hm2, wri32 (show m < 2147483648 by omega), steps, st2, pev, rev, oev, optr, ibin, sbin, ishf, bound, mmAll, mm2, mk, mkArgs, AV.cells, AV.boxable, AV.one, AV.strip1, fillA, fillS, Nat.reduceEqDiff, reduceCtorEq, ↓reduceIte, Nat.reduceAdd, Int.reduceNeg, Nat.reduceLeDiff, Int.reduceToNat, Int.reduceEq, Int.reduceLT, Int.reduceLE, Int.reduceAdd]
        refine goK_gives (appRune m (by omega) (by omega) out _ o ho (by simp only [Lim]; omega)) fun o' H' hs => ?_
        simp (disch := first | omega | assumption) only [wrap64, steps, st2, pev, rev, oev, optr, ibin, sbin, ishf, bound, mmAll, mm2, mk, mkArgs, AV.cells, AV.boxable, AV.one, AV.strip1, fillA, fillS, Nat.reduceEqDiff, reduceCtorEq, ↓reduceIte, Nat.reduceAdd, Int.reduceNeg, Nat.reduceLeDiff, Int.reduceToNat, Int.reduceEq, Int.reduceLT, Int.reduceLE, Int.reduceAdd]
        have hown := hs.own
        rw [bytesOf_len] at hown
        have e5 : (((done ++ [u, v]).length : Nat) : Int) = (done.length : Int) + 1 + 1 := by simp; omega
        refine goJ (hJ (done ++ [u, v], r, o', out ++ encM m) _ (by simp; omega) ⟨by simp [hd], ?_, ?_, hown⟩) (by simp (disch := first | omega | assumption) only [e5, steps, st2, pev, rev, oev, optr, ibin, sbin, ishf, bound, mmAll, mm2, mk, mkArgs, AV.cells, AV.boxable, AV.one, AV.strip1, fillA, fillS, Nat.reduceEqDiff, reduceCtorEq, ↓reduceIte, Nat.reduceAdd, Int.reduceNeg, Nat.reduceLeDiff, Int.reduceToNat, Int.reduceEq, Int.reduceLT, Int.reduceLE, Int.reduceAdd])
        · simp only [hj, ej]; cases joinM r <;> simp
        · simp; omega
    have ej : joinM (u :: r) = (joinM r).map (encM u ++ ·) := by
      rw [joinM.eq_def]; simp only; rw [if_neg (by omega), if_neg a3]
    have hm3 := (encM_len u).1
    have e5 : (((done ++ [u]).length : Nat) : Int) = (done.length : Int) + 1 := by simp
    by_cases h : u < 55296
    · have b1 : ¬ ((56320 : Int) ≤ u) := by omega
      have b2 : ¬ ((55296 : Int) ≤ u) := by omega
      simp (disch := first | omega | assumption) only [hll, hlt, hg, hu0, a1', b1, b2, wri32 (show u < 2147483648 by omega), steps, st2, pev, rev, oev, optr, ibin, sbin, ishf, bound, mmAll, mm2, mk, mkArgs, AV.cells, AV.boxable, AV.one, AV.strip1, fillA, fillS, Nat.reduceEqDiff, reduceCtorEq, ↓reduceIte, Nat.reduceAdd, Int.reduceNeg, Nat.reduceLeDiff, Int.reduceToNat, Int.reduceEq, Int.reduceLT, Int.reduceLE, Int.reduceAdd]
      refine goK_gives (appRune u (by omega) (by omega) out _ o ho (by simp only [Lim]; omega)) fun o' H' hs => ?_
      simp (disch := first | omega | assumption) only [wrap64, steps, st2, pev, rev, oev, optr, ibin, sbin, ishf, bound, mmAll, mm2, mk, mkArgs, AV.cells, AV.boxable, AV.one, AV.strip1, fillA, fillS, Nat.reduceEqDiff, reduceCtorEq, ↓reduceIte, Nat.reduceAdd, Int.reduceNeg, Nat.reduceLeDiff, Int.reduceToNat, Int.reduceEq, Int.reduceLT, Int.reduceLE, Int.reduceAdd]
      have hown := hs.own
      rw [bytesOf_len] at hown
      refine goJ (hJ (done ++ [u], r, o', out ++ encM u) _ (by simp) ⟨by simp [hd], ?_, ?_, hown⟩) (by simp (disch := first | omega | assumption) only [e5, steps, st2, pev, rev, oev, optr, ibin, sbin, ishf, bound, mmAll, mm2, mk, mkArgs, AV.cells, AV.boxable, AV.one, AV.strip1, fillA, fillS, Nat.reduceEqDiff, reduceCtorEq, ↓reduceIte, Nat.reduceAdd, Int.reduceNeg, Nat.reduceLeDiff, Int.reduceToNat, Int.reduceEq, Int.reduceLT, Int.reduceLE, Int.reduceAdd])
      · simp only [hj, ej]; cases joinM r <;> simp
      · simp; omega
    · have b1 : ((56320 : Int) ≤ u) = True := eq_true (by omega)
      have b2 : ¬ ((u : Int) ≤ 57343) := by omega
      have b3 : ((55296 : Int) ≤ u) = True := eq_true (by omega)
      have b4 : ¬ ((u : Int) < 56320) := by omega
      simp (disch := first | omega | assumption) only [hll, hlt, hg, hu0, a1', b1, b2, b3, b4, wri32 (show u < 2147483648 by omega), steps, st2, pev, rev, oev, optr, ibin, sbin, ishf, bound, mmAll, mm2, mk, mkArgs, AV.cells, AV.boxable, AV.one, AV.strip1, fillA, fillS, Nat.reduceEqDiff, reduceCtorEq, ↓reduceIte, Nat.reduceAdd, Int.reduceNeg, Nat.reduceLeDiff, Int.reduceToNat, Int.reduceEq, Int.reduceLT, Int.reduceLE, Int.reduceAdd]
      refine goK_gives (appRune u (by omega) (by omega) out _ o ho (by simp only [Lim]; omega)) fun o' H' hs => ?_
      simp (disch := first | omega | assumption) only [wrap64, steps, st2, pev, rev, oev, optr, ibin, sbin, ishf, bound, mmAll, mm2, mk, mkArgs, AV.cells, AV.boxable, AV.one, AV.strip1, fillA, fillS, Nat.reduceEqDiff, reduceCtorEq, ↓reduceIte, Nat.reduceAdd, Int.reduceNeg, Nat.reduceLeDiff, Int.reduceToNat, Int.reduceEq, Int.reduceLT, Int.reduceLE, Int.reduceAdd]
      have hown := hs.own
      rw [bytesOf_len] at hown
      refine goJ (hJ (done ++ [u], r, o', out ++ encM u) _ (by simp) ⟨by simp [hd], ?_, ?_, hown⟩) (by simp (disch := first | omega | assumption) only [e5, steps, st2, pev, rev, oev, optr, ibin, sbin, ishf, bound, mmAll, mm2, mk, mkArgs, AV.cells, AV.boxable, AV.one, AV.strip1, fillA, fillS, Nat.reduceEqDiff, reduceCtorEq, ↓reduceIte, Nat.reduceAdd, Int.reduceNeg, Nat.reduceLeDiff, Int.reduceToNat, Int.reduceEq, Int.reduceLT, Int.reduceLE, Int.reduceAdd])
      · simp only [hj, ej]; cases joinM r <;> simp
      · simp; omega
end Go.Proofs.YtpjafglhdlfnbaaGreatDoor
