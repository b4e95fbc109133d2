/- Texts joined: Shelf Lib Ir Dat Val ValB Sam ValC ValD Sep LibB Num NumB NumC ValE Jm Jn Enc Quo Quo2 Quo3. -/
import Derived.Shelf.Small.Strs
import Derived.Shelf.Small.Wraps
import Derived.Shelf.Utf8.AppendRune
import Derived.Shelf.Strconv.Itoa0
import Derived.Shelf.Strconv.Itoa1
import Derived.Shelf.LaysM
import Derived.Shelf.Strconv.Itoa2
import Derived.Shelf.Strconv.Itoa3
import Derived.Shelf.Strconv.Itoa4
import Derived.Shelf.Strconv.ParseIntEmpty
import Derived.Shelf.Strconv.Clone
import Derived.Shelf.Strconv.SyntaxError
import Derived.Shelf.LaysC
import Derived.Shelf.Strconv.ToError
import Derived.Shelf.Strconv.Lower
import Derived.Shelf.Strconv.ParseUint10
import Derived.Shelf.Strconv.ParseUint10Empty
import Derived.Shelf.Strconv.ParseUint10Any
import Derived.Shelf.Strconv.ParseInt10
import Derived.Shelf.Strconv.RangeError
import Derived.Shelf.Strconv.ToErrorRange
import Derived.Shelf.Strconv.ParseUintEmpty
import Derived.Shelf.Strconv.ParseUint10b64
import Derived.Shelf.Strconv.ParseUint10b32
import Derived.Shelf.Strconv.ParseUint10b16
import Derived.Shelf.Strconv.ParseUint10b8
import Derived.Shelf.Strconv.ParseUint10At
import Derived.Shelf.Strconv.ParseInt10At64
import Derived.Shelf.Strconv.ParseInt10At32
import Derived.Shelf.Strconv.ParseInt10At16
import Derived.Shelf.Strconv.ParseInt10At8
import Derived.Shelf.Strconv.ParseInt10All
import Derived.Shelf.Strconv.ParseIntPublic10
import Derived.Shelf.Strconv.ErrVarParseInt
import Derived.Shelf.Strings.Search1
import Derived.Shelf.Strings.Search2
import Derived.Shelf.Strings.Search3
import Derived.Shelf.Strings.Shaped
import Derived.Shelf.Strconv.AppendUint10
import Derived.Shelf.Strconv.AppendInt10
import Derived.Shelf.Strconv.AppendIntPublic10
import Derived.Shelf.Strings.Prefix
import Derived.Test.YtpjafglhdlfnbaaDoorProg
import Derived.Shelf.Unicode.ValidAny
import Derived.Test.YtpjafglhdlfnbaaDoorRows
import Derived.Lib.ItoaMem
import Derived.Lib.ItoaLen
import Derived.Test.YtpjafglhdlfnbaaDoorM1
import Derived.Test.YtpjafglhdlfnbaaDoorM2
set_option maxRecDepth 100000
set_option linter.unusedSimpArgs false
set_option linter.unusedVariables false
namespace Go.Proofs
open Go.Shelf
def Tryd.lays137_ren : Go.Shelf.Ren := ⟨fun | 137 => 109 | 217 => 126 | 266 => 140 | n => n, fun | 9 => 9 | 5 => 5 | 3 => 3 | n => n, fun | n => n⟩
theorem Tryd.lays137 : Go.Proofs.Lays.n137 Tryd.prog Tryd.lays137_ren := {
  mixed := by kernel_rfl
  f137 := Tryd.func109.trans (congrArg some (by kernel_rfl))
  f217 := Tryd.func126.trans (congrArg some (by kernel_rfl))
  f266 := Tryd.func140.trans (congrArg some (by kernel_rfl))
  t3 := Tryd.underlying3
  a3 := Tryd.isAgg3
  z3 := Tryd.sizeOf3
  v3 := Tryd.zeroValue3
  t5 := Tryd.underlying5
  a5 := Tryd.isAgg5
  z5 := Tryd.sizeOf5
  v5 := Tryd.zeroValue5
  t9 := Tryd.underlying9
  a9 := Tryd.isAgg9
  z9 := Tryd.sizeOf9
  v9 := Tryd.zeroValue9 }
def Tryd.laysC174_ren : Go.Shelf.Ren := ⟨fun | 174 => 139 | 247 => 151 | 245 => 152 | 287 => 157 | 279 => 158 | 280 => 159 | 281 => 160 | 282 => 161 | 321 => 163 | 322 => 164 | 316 => 165 | 171 => 167 | 205 => 166 | 243 => 168 | 246 => 111 | 283 => 127 | 284 => 128 | 285 => 129 | 286 => 130 | 129 => 142 | 317 => 141 | 318 => 143 | 319 => 144 | 320 => 145 | 337 => 153 | 338 => 154 | n => n, fun | 9 => 9 | 3 => 3 | 2 => 2 | 75 => 161 | 85 => 162 | 4 => 4 | 167 => 179 | 5 => 5 | 53 => 146 | 175 => 180 | 46 => 61 | 168 => 182 | 37 => 106 | 0 => 0 | 210 => 190 | 21 => 21 | 127 => 192 | 145 => 195 | 143 => 193 | 171 => 151 | 173 => 154 | 212 => 166 | 51 => 167 | 20 => 20 | 213 => 168 | 232 => 185 | 233 => 186 | 80 => 138 | n => n, fun | 15 => 6 | 16 => 7 | 17 => 2 | 18 => 4 | 19 => 5 | n => n⟩
theorem Tryd.laysC174 : Go.Proofs.LaysC.n174 Tryd.prog Tryd.laysC174_ren := {
  mixed := by kernel_rfl
  f129 := Tryd.func142.trans (congrArg some (by kernel_rfl))
  f171 := Tryd.func167.trans (congrArg some (by kernel_rfl))
  f174 := Tryd.func139.trans (congrArg some (by kernel_rfl))
  f205 := Tryd.func166.trans (congrArg some (by kernel_rfl))
  f243 := Tryd.func168.trans (congrArg some (by kernel_rfl))
  f245 := Tryd.func152.trans (congrArg some (by kernel_rfl))
  f246 := Tryd.func111.trans (congrArg some (by kernel_rfl))
  f247 := Tryd.func151.trans (congrArg some (by kernel_rfl))
  f279 := Tryd.func158.trans (congrArg some (by kernel_rfl))
  f280 := Tryd.func159.trans (congrArg some (by kernel_rfl))
  f281 := Tryd.func160.trans (congrArg some (by kernel_rfl))
  f282 := Tryd.func161.trans (congrArg some (by kernel_rfl))
  f283 := Tryd.func127.trans (congrArg some (by kernel_rfl))
  f284 := Tryd.func128.trans (congrArg some (by kernel_rfl))
  f285 := Tryd.func129.trans (congrArg some (by kernel_rfl))
  f286 := Tryd.func130.trans (congrArg some (by kernel_rfl))
  f287 := Tryd.func157.trans (congrArg some (by kernel_rfl))
  f316 := Tryd.func165.trans (congrArg some (by kernel_rfl))
  f317 := Tryd.func141.trans (congrArg some (by kernel_rfl))
  f318 := Tryd.func143.trans (congrArg some (by kernel_rfl))
  f319 := Tryd.func144.trans (congrArg some (by kernel_rfl))
  f320 := Tryd.func145.trans (congrArg some (by kernel_rfl))
  f321 := Tryd.func163.trans (congrArg some (by kernel_rfl))
  f322 := Tryd.func164.trans (congrArg some (by kernel_rfl))
  f337 := Tryd.func153.trans (congrArg some (by kernel_rfl))
  f338 := Tryd.func154.trans (congrArg some (by kernel_rfl))
  t0 := Tryd.underlying0
  a0 := Tryd.isAgg0
  z0 := Tryd.sizeOf0
  v0 := Tryd.zeroValue0
  t2 := Tryd.underlying2
  a2 := Tryd.isAgg2
  z2 := Tryd.sizeOf2
  v2 := Tryd.zeroValue2
  t3 := Tryd.underlying3
  a3 := Tryd.isAgg3
  z3 := Tryd.sizeOf3
  v3 := Tryd.zeroValue3
  t4 := Tryd.underlying4
  a4 := Tryd.isAgg4
  z4 := Tryd.sizeOf4
  v4 := Tryd.zeroValue4
  t5 := Tryd.underlying5
  a5 := Tryd.isAgg5
  z5 := Tryd.sizeOf5
  v5 := Tryd.zeroValue5
  t9 := Tryd.underlying9
  a9 := Tryd.isAgg9
  z9 := Tryd.sizeOf9
  v9 := Tryd.zeroValue9
  t20 := Tryd.underlying20
  a20 := Tryd.isAgg20
  z20 := Tryd.sizeOf20
  v20 := Tryd.zeroValue20
  t21 := Tryd.underlying21
  a21 := Tryd.isAgg21
  z21 := Tryd.sizeOf21
  v21 := Tryd.zeroValue21
  t37 := Tryd.underlying106
  a37 := Tryd.isAgg106
  z37 := Tryd.sizeOf106
  v37 := Tryd.zeroValue106
  t46 := Tryd.underlying61
  a46 := Tryd.isAgg61
  z46 := Tryd.sizeOf61
  v46 := Tryd.zeroValue61
  t51 := Tryd.underlying167
  a51 := Tryd.isAgg167
  z51 := Tryd.sizeOf167
  v51 := Tryd.zeroValue167
  t53 := Tryd.underlying146
  a53 := Tryd.isAgg146
  z53 := Tryd.sizeOf146
  v53 := Tryd.zeroValue146
  t75 := Tryd.underlying161
  a75 := Tryd.isAgg161
  z75 := Tryd.sizeOf161
  v75 := Tryd.zeroValue161
  t85 := Tryd.underlying162
  a85 := Tryd.isAgg162
  z85 := Tryd.sizeOf162
  v85 := Tryd.zeroValue162
  t127 := Tryd.underlying192
  a127 := Tryd.isAgg192
  z127 := Tryd.sizeOf192
  v127 := Tryd.zeroValue192
  t143 := Tryd.underlying193
  a143 := Tryd.isAgg193
  z143 := Tryd.sizeOf193
  v143 := Tryd.zeroValue193
  t145 := Tryd.underlying195
  a145 := Tryd.isAgg195
  z145 := Tryd.sizeOf195
  v145 := Tryd.zeroValue195
  t167 := Tryd.underlying179
  a167 := Tryd.isAgg179
  z167 := Tryd.sizeOf179
  v167 := Tryd.zeroValue179
  t168 := Tryd.underlying182
  a168 := Tryd.isAgg182
  z168 := Tryd.sizeOf182
  v168 := Tryd.zeroValue182
  t171 := Tryd.underlying151
  a171 := Tryd.isAgg151
  z171 := Tryd.sizeOf151
  v171 := Tryd.zeroValue151
  t173 := Tryd.underlying154
  a173 := Tryd.isAgg154
  z173 := Tryd.sizeOf154
  v173 := Tryd.zeroValue154
  t175 := Tryd.underlying180
  a175 := Tryd.isAgg180
  z175 := Tryd.sizeOf180
  v175 := Tryd.zeroValue180
  t210 := Tryd.underlying190
  a210 := Tryd.isAgg190
  z210 := Tryd.sizeOf190
  v210 := Tryd.zeroValue190
  t212 := Tryd.underlying166
  a212 := Tryd.isAgg166
  z212 := Tryd.sizeOf166
  v212 := Tryd.zeroValue166
  t213 := Tryd.underlying168
  a213 := Tryd.isAgg168
  z213 := Tryd.sizeOf168
  t232 := Tryd.underlying185
  a232 := Tryd.isAgg185
  z232 := Tryd.sizeOf185
  v232 := Tryd.zeroValue185
  t233 := Tryd.underlying186
  a233 := Tryd.isAgg186
  z233 := Tryd.sizeOf186
  v233 := Tryd.zeroValue186
  g15 := by kernel_rfl
  g16 := by kernel_rfl
  g17 := by kernel_rfl
  g18 := by kernel_rfl
  g19 := by kernel_rfl
  t80 := Tryd.underlying138
  a80 := Tryd.isAgg138
  z80 := Tryd.sizeOf138
  v80 := Tryd.zeroValue138
  i0 := by kernel_rfl
  i2 := by kernel_rfl
  i3 := by kernel_rfl
  i4 := by kernel_rfl
  i5 := by kernel_rfl
  i9 := by kernel_rfl
  i20 := by kernel_rfl
  i21 := by kernel_rfl
  i37 := by kernel_rfl
  i46 := by kernel_rfl
  i51 := by kernel_rfl
  i53 := by kernel_rfl
  i75 := by kernel_rfl
  i80 := by kernel_rfl
  i85 := by kernel_rfl
  i127 := by kernel_rfl
  i143 := by kernel_rfl
  i145 := by kernel_rfl
  i167 := by kernel_rfl
  i168 := by kernel_rfl
  i171 := by kernel_rfl
  i173 := by kernel_rfl
  i175 := by kernel_rfl
  i210 := by kernel_rfl
  i212 := by kernel_rfl
  i232 := by kernel_rfl
  i233 := by kernel_rfl
  m15 := by kernel_rfl
  m16 := by kernel_rfl
  m17 := by kernel_rfl
  m18 := by kernel_rfl
  m19 := by kernel_rfl
  c0 := by kernel_rfl
  c2 := by kernel_rfl
  c3 := by kernel_rfl
  c4 := by kernel_rfl
  c5 := by kernel_rfl
  c9 := by kernel_rfl
  c20 := by kernel_rfl
  c21 := by kernel_rfl
  c37 := by kernel_rfl
  c46 := by kernel_rfl
  c51 := by kernel_rfl
  c53 := by kernel_rfl
  c75 := by kernel_rfl
  c80 := by kernel_rfl
  c85 := by kernel_rfl
  c127 := by kernel_rfl
  c143 := by kernel_rfl
  c145 := by kernel_rfl
  c167 := by kernel_rfl
  c168 := by kernel_rfl
  c171 := by kernel_rfl
  c173 := by kernel_rfl
  c175 := by kernel_rfl
  c210 := by kernel_rfl
  c212 := by kernel_rfl
  c213 := by kernel_rfl
  c232 := by kernel_rfl
  c233 := by kernel_rfl }
def Tryd.lays144_ren : Go.Shelf.Ren := ⟨fun | 144 => 105 | 143 => 124 | 219 => 138 | 217 => 126 | 225 => 148 | 224 => 149 | 267 => 150 | 266 => 140 | 314 => 156 | n => n, fun | 9 => 9 | 4 => 4 | 3 => 3 | 5 => 5 | 46 => 61 | 146 => 177 | 51 => 167 | n => n, fun | 1 => 3 | n => n⟩
theorem Tryd.lays144 : Go.Proofs.Lays.n144 Tryd.prog Tryd.lays144_ren := {
  mixed := by kernel_rfl
  f143 := Tryd.func124.trans (congrArg some (by kernel_rfl))
  f144 := Tryd.func105.trans (congrArg some (by kernel_rfl))
  f217 := Tryd.func126.trans (congrArg some (by kernel_rfl))
  f219 := Tryd.func138.trans (congrArg some (by kernel_rfl))
  f224 := Tryd.func149.trans (congrArg some (by kernel_rfl))
  f225 := Tryd.func148.trans (congrArg some (by kernel_rfl))
  f266 := Tryd.func140.trans (congrArg some (by kernel_rfl))
  f267 := Tryd.func150.trans (congrArg some (by kernel_rfl))
  f314 := Tryd.func156.trans (congrArg some (by kernel_rfl))
  t3 := Tryd.underlying3
  a3 := Tryd.isAgg3
  z3 := Tryd.sizeOf3
  v3 := Tryd.zeroValue3
  t4 := Tryd.underlying4
  a4 := Tryd.isAgg4
  z4 := Tryd.sizeOf4
  v4 := Tryd.zeroValue4
  t5 := Tryd.underlying5
  a5 := Tryd.isAgg5
  z5 := Tryd.sizeOf5
  v5 := Tryd.zeroValue5
  t9 := Tryd.underlying9
  a9 := Tryd.isAgg9
  z9 := Tryd.sizeOf9
  v9 := Tryd.zeroValue9
  t46 := Tryd.underlying61
  a46 := Tryd.isAgg61
  z46 := Tryd.sizeOf61
  v46 := Tryd.zeroValue61
  t51 := Tryd.underlying167
  a51 := Tryd.isAgg167
  z51 := Tryd.sizeOf167
  v51 := Tryd.zeroValue167
  t146 := Tryd.underlying177
  a146 := Tryd.isAgg177
  z146 := Tryd.sizeOf177
  v146 := Tryd.zeroValue177
  g1 := by kernel_rfl }
def Tryd.lays99_ren : Go.Shelf.Ren := ⟨fun | 99 => 121 | 206 => 135 | n => n, fun | 9 => 9 | 4 => 4 | 3 => 3 | n => n, fun | n => n⟩
theorem Tryd.lays99 : Go.Proofs.Lays.n99 Tryd.prog Tryd.lays99_ren := {
  mixed := by kernel_rfl
  f99 := Tryd.func121.trans (congrArg some (by kernel_rfl))
  f206 := Tryd.func135.trans (congrArg some (by kernel_rfl))
  t3 := Tryd.underlying3
  a3 := Tryd.isAgg3
  z3 := Tryd.sizeOf3
  v3 := Tryd.zeroValue3
  t4 := Tryd.underlying4
  a4 := Tryd.isAgg4
  z4 := Tryd.sizeOf4
  v4 := Tryd.zeroValue4
  t9 := Tryd.underlying9
  a9 := Tryd.isAgg9
  z9 := Tryd.sizeOf9
  v9 := Tryd.zeroValue9 }
open Go.RowKit in
theorem Tryd.strings_IndexByte (s : ByteArray) (c : Int) (w : World) :
    Calls Tryd.prog 109 #[.string s, .int .u8 c] w fun e w' => e = .returned (.int .i64 (Lib.indexByte s.data.toList c.toNat.toUInt8)) ∧ w' = w := Any.strings_IndexByte Tryd.lays137 s c w
open Go.RowKit in
theorem Tryd.strconv_ParseInt_10_at64_ok (s : ByteArray) (hmax : s.size ≤ 9223372036854775806) (v : Int) (h : Lib.parseIntB 64 s.data.toList = .ok v) (w : World) :
    Calls Tryd.prog 139 #[.string s, .int .i64 10, .int .i64 64] w fun e w' => e = .returned (.tuple #[.int .i64 v, .nilIface]) ∧ (w' = w ∨ ∃ t, w' = Lib.bytesWorld w 5 t) := Any.strconv_ParseInt_10_at64_ok Tryd.laysC174 s hmax v h w
open Go.RowKit in
theorem Tryd.strconv_ParseInt_10_at64_syntax (s : ByteArray) (hlim : s.size ≤ 281474976710656) (h : Lib.parseIntB 64 s.data.toList = Lib.NumEnd.syntax) (ev : Value) (w : World) (hv : w.cell? ⟨6, 0, none⟩ = some ev) (hev : ev = .nilIface ∨ ∃ te pe, ev = .iface te pe) :
    Calls Tryd.prog 139 #[.string s, .int .i64 10, .int .i64 64] w fun e w' => ∃ N, e = .returned (.tuple #[.int .i64 (0), .iface 182 (.pointer (some ⟨N, 0, none⟩))]) ∧ w.heap.size ≤ N ∧ w'.heap[N]? = some (.cells #[.string ⟨#[80, 97, 114, 115, 101, 73, 110, 116]⟩, .string s, ev] 190 (0, 0)) ∧ Below w.heap.size w w' := Any.strconv_ParseInt_10_at64_syntax Tryd.laysC174 s hlim h ev w hv hev
open Go.RowKit in
theorem Tryd.strconv_ParseInt_10_at64_range (s : ByteArray) (hlim : s.size ≤ 281474976710656) (h : Lib.parseIntB 64 s.data.toList = .range) (ev : Value) (w : World) (hv : w.cell? ⟨7, 0, none⟩ = some ev) (hev : ev = .nilIface ∨ ∃ te pe, ev = .iface te pe) :
    Calls Tryd.prog 139 #[.string s, .int .i64 10, .int .i64 64] w fun e w' => ∃ N, e = .returned (.tuple #[.int .i64 (Lib.intSat 64 s.data.toList), .iface 182 (.pointer (some ⟨N, 0, none⟩))]) ∧ w.heap.size ≤ N ∧ w'.heap[N]? = some (.cells #[.string ⟨#[80, 97, 114, 115, 101, 73, 110, 116]⟩, .string s, ev] 190 (0, 0)) ∧ Below w.heap.size w w' := Any.strconv_ParseInt_10_at64_range Tryd.laysC174 s hlim h ev w hv hev
open Go.RowKit Go.Lib in
theorem Tryd.strings_Contains_one (s : ByteArray) (c : UInt8) (w : World) :
    Calls Tryd.prog 105 #[.string s, .string ⟨#[c]⟩] w fun e w' => e = .returned (.bool (decide (0 ≤ Lib.indexByte s.data.toList c))) ∧ w' = w := Any.strings_Contains_one Tryd.lays144 s c w
open Go.RowKit Go.Lib in
theorem Tryd.strings_HasPrefix (s p : ByteArray) (w : World) :
    Calls Tryd.prog 121 #[.string s, .string p] w fun e w' => e = .returned (.bool (Lib.hasPrefix s.data.toList p.data.toList)) ∧ w' = w := Any.strings_HasPrefix Tryd.lays99 s p w
def Tryd.lays196_ren : Go.Shelf.Ren := ⟨fun | 196 => 73 | 259 => 97 | n => n, fun | 9 => 9 | 4 => 4 | 3 => 3 | 5 => 5 | 12 => 12 | 119 => 131 | 0 => 0 | 46 => 61 | 139 => 134 | 138 => 133 | 53 => 146 | n => n, fun | 3 => 0 | 4 => 1 | n => n⟩
theorem Tryd.lays196 : Go.Proofs.Lays.n196 Tryd.prog Tryd.lays196_ren := {
  mixed := by kernel_rfl
  f196 := Tryd.func73.trans (congrArg some (by kernel_rfl))
  f259 := Tryd.func97.trans (congrArg some (by kernel_rfl))
  t0 := Tryd.underlying0
  a0 := Tryd.isAgg0
  z0 := Tryd.sizeOf0
  v0 := Tryd.zeroValue0
  t3 := Tryd.underlying3
  a3 := Tryd.isAgg3
  z3 := Tryd.sizeOf3
  v3 := Tryd.zeroValue3
  t4 := Tryd.underlying4
  a4 := Tryd.isAgg4
  z4 := Tryd.sizeOf4
  v4 := Tryd.zeroValue4
  t5 := Tryd.underlying5
  a5 := Tryd.isAgg5
  z5 := Tryd.sizeOf5
  v5 := Tryd.zeroValue5
  t9 := Tryd.underlying9
  a9 := Tryd.isAgg9
  z9 := Tryd.sizeOf9
  v9 := Tryd.zeroValue9
  t12 := Tryd.underlying12
  a12 := Tryd.isAgg12
  z12 := Tryd.sizeOf12
  v12 := Tryd.zeroValue12
  t46 := Tryd.underlying61
  a46 := Tryd.isAgg61
  z46 := Tryd.sizeOf61
  v46 := Tryd.zeroValue61
  t53 := Tryd.underlying146
  a53 := Tryd.isAgg146
  z53 := Tryd.sizeOf146
  v53 := Tryd.zeroValue146
  t119 := Tryd.underlying131
  a119 := Tryd.isAgg131
  z119 := Tryd.sizeOf131
  t138 := Tryd.underlying133
  a138 := Tryd.isAgg133
  z138 := Tryd.sizeOf133
  v138 := Tryd.zeroValue133
  t139 := Tryd.underlying134
  a139 := Tryd.isAgg134
  z139 := Tryd.sizeOf134
  v139 := Tryd.zeroValue134
  g3 := by kernel_rfl
  g4 := by kernel_rfl }
end Go.Proofs
namespace Go.Proofs.YtpjafglhdlfnbaaDoor
open Go.Ab Go.RowKit Go.Sort Go.Lib
theorem ext_below {γ : Gh} {w w' : World} (h : Below w.heap.size w w') : Ext (fun _ => False) γ w γ w' := by
  refine ⟨⟨h.size, fun b o v hc hp => ⟨hp, ?_⟩, fun b arr E fr hb => ⟨arr, ?_, rfl⟩⟩, h.os, h.output, fun a ha => ?_, fun b hb _ => ⟨rfl, h.block b hb⟩⟩
  · have hlt := World.block_lt_of_cell? w _ hc
    unfold World.cell? at hc ⊢
    rw [h.block _ hlt]; exact hc
  · have hlt := (Array.getElem?_eq_some_iff.1 hb).1
    rw [h.block b hlt]; exact hb
  · exact World.frozen?_of_block (h.block _ ha)
theorem Pure.of_below {P : Program} {f : FuncId} {args : List AV} {r : AV} (h : ∀ (γ : Gh) (w : World) (vs : List Value), TabOk γ w → RepAll γ w args vs → Calls P f vs.toArray w fun e w' => Below w.heap.size w w' ∧ ∃ v, e = .returned v ∧ Rep γ w' r v) : Pure P f args r := by
  intro γ w vs ht _ hv
  refine (h γ w vs ht hv).mono fun e w' ⟨hw, v, he, hr⟩ => ?_
  subst he
  exact ⟨γ, Heap.emp, .ret r, (ext_below hw).weaken fun _ f => f.elim, fun b o hb => by simp [Heap.emp] at hb, fun b hb => by simp [Heap.emp] at hb, hr, rfl, rfl⟩
theorem below_bytes (w : World) (e : TypeId) (t : ByteArray) : Below w.heap.size w (Lib.bytesWorld w e t) := by
  have h1 : Below w.heap.size w (w.drew.alloc (.cells (bytesCells w e t) e)) := (Below.refl _ w).drew.alloc (Nat.le_refl _) _
  unfold Lib.bytesWorld World.freeze
  simp only [Nat.one_ne_zero, if_false]
  refine ⟨h1.os, h1.tape, h1.output, ?_, fun i hi => ?_⟩
  · rw [Array.size_modify]; exact h1.size
  · rw [Array.getElem?_modify]
    have : ¬ (w.heap.size = i) := by omega
    simp only [this, if_false]
    exact h1.block i hi
theorem tab_at {γ : Gh} {w : World} (h : TabOk γ w) {i b : Nat} {ps : List (Value → Prop)} (hi : tabL[i]? = some (b, ps)) {j : Nat} {p : Value → Prop} (hj : ps[j]? = some p) : ∃ v, w.cell? ⟨b, j, none⟩ = some v ∧ p v := by
  obtain ⟨v, h1, h2⟩ := (h _ (List.mem_of_getElem? hi)).2 j p hj
  exact ⟨v, h1.1, h2⟩
theorem first_at : ∀ c : Fin 256, Go.Pinned.utf8FirstZ[c.val]? = some (Lib.firstT c.val) := by decide +kernel
def accZ : List Nat := [128, 191, 160, 191, 128, 159, 144, 191, 128, 143, 0, 0, 0, 0, 0, 0, 0, 0, 0, 0, 0, 0, 0, 0, 0, 0, 0, 0, 0, 0, 0, 0]
theorem acc_at : ∀ c : Fin 16, accZ[2 * c.val]? = some (Lib.accLo c.val) ∧ accZ[2 * c.val + 1]? = some (Lib.accHi c.val) := by decide +kernel
theorem utf8Tabs {γ : Gh} {w : World} (h : TabOk γ w) : Lib.Utf8Tabs 0 1 w := by
  refine ⟨fun c hc => ?_, fun c hc => ?_⟩
  · have hf := first_at ⟨c, hc⟩
    obtain ⟨v, h1, h2⟩ := tab_at h (i := 0) rfl (j := c) (p := fun v => v = .int .u8 (Lib.firstT c)) (by rw [List.getElem?_map, hf]; rfl)
    rw [h1, h2]
  · obtain ⟨g1, g2⟩ := acc_at ⟨c, hc⟩
    have hi : tabL[1]? = some (1, accZ.map fun (n : Nat) (v : Value) => v = .int .u8 n) := rfl
    obtain ⟨v, h1, h2⟩ := tab_at h hi (j := 2 * c) (p := fun v => v = .int .u8 (Lib.accLo c)) (by rw [List.getElem?_map, g1]; rfl)
    obtain ⟨u, h3, h4⟩ := tab_at h hi (j := 2 * c + 1) (p := fun v => v = .int .u8 (Lib.accHi c)) (by rw [List.getElem?_map, g2]; rfl)
    exact ⟨by rw [h1, h2], by rw [h3, h4]⟩
theorem arg_str {γ : Gh} {w : World} {s : List UInt8} {vs : List Value} (h : RepAll γ w [.str s] vs) : vs = [.string ⟨s.toArray⟩] := by
  obtain ⟨hl, hr⟩ := h
  match vs, hl with
  | [v], _ => cases hr 0 _ _ rfl rfl; rfl
theorem validC (s : List UInt8) (hs : s.length ≤ 9223372036854775807) : Pure Tryd.prog 73 [.str s] (.bool (Lib.validD s)) := by
  refine Pure.of_below fun γ w vs ht hv => ?_
  rw [arg_str hv]
  have h := Any.utf8_ValidString Tryd.lays196 ⟨s.toArray⟩ w (by simpa [ByteArray.size] using hs) (utf8Tabs ht)
  refine Calls.mono h fun e w' ⟨he, hb⟩ => ⟨hb, _, he, .bool _⟩
theorem prefixC (s p : List UInt8) : Pure Tryd.prog 121 [.str s, .str p] (.bool (p.isPrefixOf s)) := by
  refine Pure.of_below fun γ w vs ht hv => ?_
  obtain ⟨hl, hr⟩ := hv
  match vs, hl with
  | [v, u], _ =>
    cases hr 0 _ _ rfl rfl
    cases hr 1 _ _ rfl rfl
    exact (Tryd.strings_HasPrefix ⟨s.toArray⟩ ⟨p.toArray⟩ w).mono fun e w' ⟨he, hw⟩ => ⟨by rw [hw]; exact Below.refl _ _, _, he, .bool _⟩
theorem errRange_at {γ : Gh} {w : World} (h : TabOk γ w) : ∃ v, w.cell? ⟨7, 0, none⟩ = some v ∧ ∃ te pe, v = .iface te pe := tab_at h (i := 7) rfl (j := 0) rfl
theorem errSyntax_at {γ : Gh} {w : World} (h : TabOk γ w) : ∃ v, w.cell? ⟨6, 0, none⟩ = some v ∧ ∃ te pe, v = .iface te pe := tab_at h (i := 6) rfl (j := 0) rfl
def parseA (s : List UInt8) : AV :=
  match Lib.parseIntB 64 s with
  | .ok v => .tup [.int .i64 v, .oth .nilIface]
  | Lib.NumEnd.syntax => .tup [.int .i64 0, .ifc 182 .any]
  | .range => .tup [.int .i64 (Lib.intSat 64 s), .ifc 182 .any]
theorem rep_two {γ : Gh} {w : World} {a b : AV} {v u : Value} (h1 : Rep γ w a v) (h2 : Rep γ w b u) : Rep γ w (.tup [a, b]) (.tuple #[v, u]) := .tup _ [v, u] rfl (RepAll.cons h1 (RepAll.cons h2 RepAll.nil)).2
theorem parseIntC (s : List UInt8) (hs : s.length ≤ 281474976710656) : Pure Tryd.prog 139 [.str s, .int .i64 10, .int .i64 64] (parseA s) := by
  refine Pure.of_below fun γ w vs ht hv => ?_
  obtain ⟨hl, hr⟩ := hv
  match vs, hl with
  | [v, u, x], _ =>
    cases hr 0 _ _ rfl rfl
    cases hr 1 _ _ rfl rfl
    cases hr 2 _ _ rfl rfl
    have hsz : (⟨s.toArray⟩ : ByteArray).size = s.length := rfl
    unfold parseA
    rcases hp : Lib.parseIntB 64 s with v | _ | _
    · refine (Tryd.strconv_ParseInt_10_at64_ok ⟨s.toArray⟩ (by rw [hsz]; omega) v hp w).mono fun e w' ⟨he, hw⟩ => ⟨?_, _, he, rep_two (.int _ _) (.oth _)⟩
      rcases hw with rfl | ⟨t, rfl⟩
      · exact Below.refl _ _
      · exact below_bytes _ _ _
    · obtain ⟨ev, h1, h2⟩ := errSyntax_at ht
      exact (Tryd.strconv_ParseInt_10_at64_syntax ⟨s.toArray⟩ (by rw [hsz]; omega) hp ev w h1 (.inr h2)).mono fun e w' ⟨N, he, _, _, hb⟩ => ⟨hb, _, he, rep_two (.int _ _) (.ifc _ _ _ (.any _))⟩
    · obtain ⟨ev, h1, h2⟩ := errRange_at ht
      exact (Tryd.strconv_ParseInt_10_at64_range ⟨s.toArray⟩ (by rw [hsz]; omega) hp ev w h1 (.inr h2)).mono fun e w' ⟨N, he, _, _, hb⟩ => ⟨hb, _, he, rep_two (.int _ _) (.ifc _ _ _ (.any _))⟩
end Go.Proofs.YtpjafglhdlfnbaaDoor
namespace Go.Proofs.YtpjafglhdlfnbaaDoor
open Go.Ab
def ir16 : AFn := ⟨50, 1, [.t 2], .seq (.reg [] [⟨some 1, none, .boxv (.t 0), []⟩, ⟨some 2, none, .mv (.k (.int .i64 0)), []⟩])
 (.seq (.reg [] [⟨some 6, none, .fa 2 (.t 1), []⟩, ⟨some 7, none, .ld 1 false (.t 6), []⟩, ⟨some 8, none, .lens (.t 7), []⟩, ⟨some 9, none, .bi .add .i64 (.k (.int .i64 1)) (.t 8), []⟩, ⟨some 3, none, .mv (.t 9), []⟩])
 (.seq (.seq (.reg [] [⟨some 4, none, .mv (.k (.int .i64 0)), []⟩])
 (.block 0 (.loop [1, 3, 4] (.seq (.seq (.reg [] [⟨some 10, none, .mv (.t 4), []⟩, ⟨some 11, none, .fa 3 (.t 1), []⟩, ⟨some 12, none, .ld 1 false (.t 11), []⟩, ⟨some 13, none, .len (.t 12), []⟩, ⟨some 14, none, .bi .lss .i64 (.t 10) (.t 13), []⟩])
 (.cond (.t 14) (.skip) (.exit 0)))
 (.seq (.block 1 (.reg [] [⟨some 17, none, .mv (.t 3), []⟩, ⟨some 18, none, .fa 3 (.t 1), []⟩, ⟨some 19, none, .ld 1 false (.t 18), []⟩, ⟨some 20, none, .mv (.t 4), []⟩, ⟨some 21, none, .ia 5 (.t 19) (.t 20), []⟩, ⟨some 22, none, .ld 5 true (.t 21), []⟩, ⟨some 23, none, .call 16 [(.t 22)], []⟩, ⟨some 24, none, .bi .add .i64 (.t 17) (.t 23), []⟩, ⟨some 3, none, .mv (.t 24), []⟩]))
 (.reg [] [⟨some 15, none, .mv (.t 4), []⟩, ⟨some 16, none, .bi .add .i64 (.t 15) (.k (.int .i64 1)), []⟩, ⟨some 4, none, .mv (.t 16), []⟩]))))))
 (.seq (.seq (.reg [] [⟨some 5, none, .mv (.k (.int .i64 0)), []⟩])
 (.block 2 (.loop [1, 3, 5] (.seq (.seq (.reg [] [⟨some 25, none, .mv (.t 5), []⟩, ⟨some 26, none, .fa 4 (.t 1), []⟩, ⟨some 27, none, .ld 1 false (.t 26), []⟩, ⟨some 28, none, .len (.t 27), []⟩, ⟨some 29, none, .bi .lss .i64 (.t 25) (.t 28), []⟩])
 (.cond (.t 29) (.skip) (.exit 2)))
 (.seq (.block 3 (.reg [0, 1, 2, 3, 4, 5, 6, 7, 8, 9, 10, 11, 12, 13, 14, 15, 16, 17] [⟨some 32, none, .mv (.t 3), []⟩, ⟨some 33, none, .fa 4 (.t 1), []⟩, ⟨some 34, none, .ld 1 false (.t 33), []⟩, ⟨some 35, none, .mv (.t 5), []⟩, ⟨some 36, none, .ia 6 (.t 34) (.t 35), []⟩, ⟨some 37, none, .fa 0 (.t 36), []⟩, ⟨some 38, none, .ld 1 false (.t 37), []⟩, ⟨some 39, none, .lens (.t 38), []⟩, ⟨some 40, none, .bi .add .i64 (.t 32) (.t 39), []⟩, ⟨some 41, none, .fa 4 (.t 1), []⟩, ⟨some 42, none, .ld 1 false (.t 41), []⟩, ⟨some 43, none, .mv (.t 5), []⟩, ⟨some 44, none, .ia 6 (.t 42) (.t 43), []⟩, ⟨some 45, none, .fa 1 (.t 44), []⟩, ⟨some 46, none, .ld 5 true (.t 45), []⟩, ⟨some 47, none, .call 16 [(.t 46)], [2, 6]⟩, ⟨some 48, none, .bi .add .i64 (.t 40) (.t 47), []⟩, ⟨some 3, none, .mv (.t 48), []⟩]))
 (.reg [] [⟨some 30, none, .mv (.t 5), []⟩, ⟨some 31, none, .bi .add .i64 (.t 30) (.k (.int .i64 1)), []⟩, ⟨some 5, none, .mv (.t 31), []⟩]))))))
 (.seq (.reg [] [⟨some 49, none, .mv (.t 3), []⟩, ⟨some 2, none, .mv (.t 49), []⟩])
 (.ret)))))⟩
theorem ck16 : chkFn Tryd.prog 16 ir16 = true := by kernel_rfl
def ir18 : AFn := ⟨22, 2, [.c 4 5 true, .t 5], .seq (.reg [] [⟨some 4, none, .alloc [.int .i64 0, .int .i64 0, .str [], .sl .nil 5 [], .sl .nil 6 []], []⟩, ⟨some 5, none, .mv (.k (.bool false)), []⟩])
 (.seq (.seq (.reg [] [⟨some 8, none, .mv (.t 1), []⟩, ⟨some 9, none, .len (.t 8), []⟩, ⟨some 10, none, .mv (.k (.int .i64 0)), []⟩])
 (.block 0 (.loop [0, 4, 8, 9, 10] (.seq (.reg [] [⟨some 11, none, .bi .lss .i64 (.t 10) (.t 9), []⟩])
 (.seq (.cond (.t 11) (.skip) (.exit 0))
 (.seq (.block 1 (.seq (.reg [] [⟨some 12, none, .ia 6 (.t 8) (.t 10), []⟩, ⟨some 13, none, .ld 6 true (.t 12), []⟩, ⟨some 7, none, .alloc [.str [], .int .i64 0, .int .i64 0, .str [], .sl .nil 5 [], .sl .nil 6 []], []⟩, ⟨none, none, .st 6 (.t 7) (.t 13), []⟩])
 (.seq (.reg [] [⟨some 14, none, .fa 0 (.t 7), []⟩, ⟨some 15, none, .ld 1 false (.t 14), []⟩, ⟨some 16, none, .mv (.t 0), []⟩, ⟨some 17, none, .bs .eql (.t 15) (.t 16), []⟩])
 (.cond (.t 17) (.seq (.reg [] [⟨some 18, none, .fa 1 (.t 7), []⟩, ⟨some 19, none, .ld 5 true (.t 18), []⟩, ⟨none, none, .st 5 (.t 4) (.t 19), []⟩, ⟨some 5, none, .mv (.k (.bool true)), []⟩])
 (.ret)) (.skip)))))
 (.reg [] [⟨some 20, none, .bi .add .i64 (.t 10) (.k (.int .i64 1)), []⟩, ⟨some 10, none, .mv (.t 20), []⟩])))))))
 (.seq (.reg [] [⟨some 21, none, .bld [.int .i64 0, .int .i64 0, .str [], .sl .nil 5 [], .sl .nil 6 []] [], []⟩, ⟨none, none, .st 5 (.t 4) (.t 21), []⟩, ⟨some 5, none, .mv (.k (.bool false)), []⟩])
 (.ret)))⟩
theorem ck18 : chkFn Tryd.prog 18 ir18 = true := by kernel_rfl
def ir20 : AFn := ⟨58, 2, [.t 4], .seq (.reg [] [⟨some 2, none, .boxv (.t 0), []⟩, ⟨some 3, none, .boxv (.t 1), []⟩, ⟨some 4, none, .mv (.k (.bool false)), []⟩])
 (.seq (.seq (.reg [] [⟨some 6, none, .fa 0 (.t 2), []⟩, ⟨some 7, none, .ld 1 false (.t 6), []⟩, ⟨some 8, none, .fa 0 (.t 3), []⟩, ⟨some 9, none, .ld 1 false (.t 8), []⟩, ⟨some 10, none, .bi .neq .i64 (.t 7) (.t 9), []⟩, ⟨some 11, none, .mv (.t 10), []⟩, ⟨some 12, (some (11, false)), .fa 1 (.t 2), []⟩, ⟨some 13, (some (11, false)), .ld 1 false (.t 12), []⟩, ⟨some 14, (some (11, false)), .fa 1 (.t 3), []⟩, ⟨some 15, (some (11, false)), .ld 1 false (.t 14), []⟩, ⟨some 16, (some (11, false)), .bi .neq .i64 (.t 13) (.t 15), []⟩, ⟨some 17, none, .pick (.t 11) (.k (.bool true)) (.t 16), []⟩, ⟨some 18, none, .mv (.t 17), []⟩, ⟨some 19, (some (18, false)), .fa 2 (.t 2), []⟩, ⟨some 20, (some (18, false)), .ld 1 false (.t 19), []⟩, ⟨some 21, (some (18, false)), .fa 2 (.t 3), []⟩, ⟨some 22, (some (18, false)), .ld 1 false (.t 21), []⟩, ⟨some 23, (some (18, false)), .bs .neq (.t 20) (.t 22), []⟩, ⟨some 24, none, .pick (.t 18) (.k (.bool true)) (.t 23), []⟩, ⟨some 25, none, .mv (.t 24), []⟩, ⟨some 26, (some (25, false)), .fa 3 (.t 2), []⟩, ⟨some 27, (some (25, false)), .ld 1 false (.t 26), []⟩, ⟨some 28, (some (25, false)), .len (.t 27), []⟩, ⟨some 29, (some (25, false)), .fa 3 (.t 3), []⟩, ⟨some 30, (some (25, false)), .ld 1 false (.t 29), []⟩, ⟨some 31, (some (25, false)), .len (.t 30), []⟩, ⟨some 32, (some (25, false)), .bi .neq .i64 (.t 28) (.t 31), []⟩, ⟨some 33, none, .pick (.t 25) (.k (.bool true)) (.t 32), []⟩])
 (.cond (.t 33) (.seq (.reg [] [⟨some 4, none, .mv (.k (.bool false)), []⟩])
 (.ret)) (.skip)))
 (.seq (.seq (.reg [] [⟨some 5, none, .mv (.k (.int .i64 0)), []⟩])
 (.block 0 (.loop [2, 3, 5] (.seq (.seq (.reg [] [⟨some 34, none, .mv (.t 5), []⟩, ⟨some 35, none, .fa 3 (.t 2), []⟩, ⟨some 36, none, .ld 1 false (.t 35), []⟩, ⟨some 37, none, .len (.t 36), []⟩, ⟨some 38, none, .bi .lss .i64 (.t 34) (.t 37), []⟩])
 (.cond (.t 38) (.skip) (.exit 0)))
 (.seq (.block 1 (.seq (.reg [0, 1, 2, 3, 4, 5, 6, 7, 8, 9, 10, 11] [⟨some 41, none, .fa 3 (.t 2), []⟩, ⟨some 42, none, .ld 1 false (.t 41), []⟩, ⟨some 43, none, .mv (.t 5), []⟩, ⟨some 44, none, .ia 5 (.t 42) (.t 43), []⟩, ⟨some 45, none, .ld 5 true (.t 44), []⟩, ⟨some 46, none, .fa 3 (.t 3), []⟩, ⟨some 47, none, .ld 1 false (.t 46), []⟩, ⟨some 48, none, .mv (.t 5), []⟩, ⟨some 49, none, .ia 5 (.t 47) (.t 48), []⟩, ⟨some 50, none, .ld 5 true (.t 49), []⟩, ⟨some 51, none, .call 20 [(.t 45), (.t 50)], []⟩, ⟨some 52, none, .not (.t 51), []⟩])
 (.cond (.t 52) (.seq (.reg [] [⟨some 4, none, .mv (.k (.bool false)), []⟩])
 (.ret)) (.skip))))
 (.reg [] [⟨some 39, none, .mv (.t 5), []⟩, ⟨some 40, none, .bi .add .i64 (.t 39) (.k (.int .i64 1)), []⟩, ⟨some 5, none, .mv (.t 40), []⟩]))))))
 (.seq (.reg [] [⟨some 53, none, .fa 4 (.t 2), []⟩, ⟨some 54, none, .ld 1 false (.t 53), []⟩, ⟨some 55, none, .fa 4 (.t 3), []⟩, ⟨some 56, none, .ld 1 false (.t 55), []⟩, ⟨some 57, none, .call 51 [(.t 54), (.t 56)], []⟩, ⟨some 4, none, .mv (.t 57), []⟩])
 (.ret))))⟩
theorem ck20 : chkFn Tryd.prog 20 ir20 = true := by kernel_rfl
def ir21 : AFn := ⟨5, 1, [.c 2 5 true], .seq (.reg [] [⟨some 2, none, .alloc [.int .i64 0, .int .i64 0, .str [], .sl .nil 5 [], .sl .nil 6 []], []⟩])
 (.seq (.reg [] [⟨some 3, none, .mv (.t 0), []⟩, ⟨some 4, none, .bld [.int .i64 0, .int .i64 0, .str [], .sl .nil 5 [], .sl .nil 6 []] [(0, 1, (.k (.int .i64 2))), (1, 1, (.t 3))], []⟩, ⟨none, none, .st 5 (.t 2) (.t 4), []⟩])
 (.ret))⟩
theorem ck21 : chkFn Tryd.prog 21 ir21 = true := by kernel_rfl
def ir23 : AFn := ⟨5, 1, [.c 2 5 true], .seq (.reg [] [⟨some 2, none, .alloc [.int .i64 0, .int .i64 0, .str [], .sl .nil 5 [], .sl .nil 6 []], []⟩])
 (.seq (.reg [] [⟨some 3, none, .mv (.t 0), []⟩, ⟨some 4, none, .bld [.int .i64 0, .int .i64 0, .str [], .sl .nil 5 [], .sl .nil 6 []] [(0, 1, (.k (.int .i64 4))), (2, 1, (.t 3))], []⟩, ⟨none, none, .st 5 (.t 2) (.t 4), []⟩])
 (.ret))⟩
theorem ck23 : chkFn Tryd.prog 23 ir23 = true := by kernel_rfl
def ir40 : AFn := ⟨112, 1, [.t 2], .seq (.reg [] [⟨some 1, none, .boxv (.t 0), []⟩, ⟨some 2, none, .mv (.k (.bool false)), []⟩])
 (.seq (.reg [] [⟨some 3, none, .mv (.k (.int .i64 0)), []⟩])
 (.seq (.seq (.reg [] [⟨some 4, none, .mv (.k (.int .i64 0)), []⟩])
 (.block 0 (.loop [1, 3, 4] (.seq (.seq (.reg [] [⟨some 7, none, .mv (.t 4), []⟩, ⟨some 8, none, .fa 0 (.t 1), []⟩, ⟨some 9, none, .ld 1 false (.t 8), []⟩, ⟨some 10, none, .len (.t 9), []⟩, ⟨some 11, none, .bi .lss .i64 (.t 7) (.t 10), []⟩])
 (.cond (.t 11) (.skip) (.exit 0)))
 (.seq (.block 1 (.seq (.reg [0, 1, 2, 3, 4, 5, 6, 7, 10, 11, 12, 13, 14, 15, 18, 19, 20, 21, 22, 23, 24, 8, 9, 16, 17, 25, 26] [⟨some 14, none, .mv (.t 3), []⟩, ⟨some 15, none, .bi .add .i64 (.t 14) (.k (.int .i64 1)), []⟩, ⟨some 16, none, .fa 0 (.t 1), []⟩, ⟨some 17, none, .ld 1 false (.t 16), []⟩, ⟨some 18, none, .mv (.t 4), []⟩, ⟨some 19, none, .ia 5 (.t 17) (.t 18), []⟩, ⟨some 20, none, .fa 3 (.t 19), []⟩, ⟨some 21, none, .ld 1 false (.t 20), []⟩, ⟨some 24, none, .fa 0 (.t 1), []⟩, ⟨some 25, none, .ld 1 false (.t 24), []⟩, ⟨some 26, none, .mv (.t 4), []⟩, ⟨some 27, none, .ia 5 (.t 25) (.t 26), []⟩, ⟨some 28, none, .fa 4 (.t 27), []⟩, ⟨some 29, none, .ld 1 false (.t 28), []⟩, ⟨some 32, none, .fa 0 (.t 1), []⟩, ⟨some 33, none, .ld 1 false (.t 32), []⟩, ⟨some 34, none, .mv (.t 4), []⟩, ⟨some 35, none, .ia 5 (.t 33) (.t 34), []⟩, ⟨some 36, none, .fa 1 (.t 35), []⟩, ⟨some 37, none, .ld 1 false (.t 36), []⟩, ⟨some 38, none, .lens (.t 37), []⟩, ⟨some 22, none, .call 67 [(.t 21)], [9, 13, 15, 19]⟩, ⟨some 23, none, .bi .add .i64 (.t 15) (.t 22), []⟩, ⟨some 30, none, .call 68 [(.t 29)], [15, 19]⟩, ⟨some 31, none, .bi .add .i64 (.t 23) (.t 30), []⟩, ⟨some 39, none, .bi .add .i64 (.t 31) (.t 38), []⟩, ⟨some 3, none, .mv (.t 39), []⟩])
 (.seq (.reg [] [⟨some 5, none, .mv (.k (.int .i64 0)), []⟩])
 (.block 2 (.loop [1, 3, 4, 5] (.seq (.seq (.reg [] [⟨some 40, none, .mv (.t 5), []⟩, ⟨some 41, none, .fa 0 (.t 1), []⟩, ⟨some 42, none, .ld 1 false (.t 41), []⟩, ⟨some 43, none, .mv (.t 4), []⟩, ⟨some 44, none, .ia 5 (.t 42) (.t 43), []⟩, ⟨some 45, none, .fa 2 (.t 44), []⟩, ⟨some 46, none, .ld 1 false (.t 45), []⟩, ⟨some 47, none, .len (.t 46), []⟩, ⟨some 48, none, .bi .lss .i64 (.t 40) (.t 47), []⟩])
 (.cond (.t 48) (.skip) (.exit 2)))
 (.seq (.block 3 (.reg [0, 1, 2, 3, 4, 5, 6, 7, 8, 9, 10, 11, 14, 15, 16, 17, 18, 19, 20, 21, 22, 23, 24, 12, 13, 25, 26] [⟨some 51, none, .mv (.t 3), []⟩, ⟨some 52, none, .bi .add .i64 (.t 51) (.k (.int .i64 1)), []⟩, ⟨some 53, none, .fa 0 (.t 1), []⟩, ⟨some 54, none, .ld 1 false (.t 53), []⟩, ⟨some 55, none, .mv (.t 4), []⟩, ⟨some 56, none, .ia 5 (.t 54) (.t 55), []⟩, ⟨some 57, none, .fa 2 (.t 56), []⟩, ⟨some 58, none, .ld 1 false (.t 57), []⟩, ⟨some 59, none, .mv (.t 5), []⟩, ⟨some 60, none, .ia 10 (.t 58) (.t 59), []⟩, ⟨some 61, none, .fa 5 (.t 60), []⟩, ⟨some 62, none, .ld 5 true (.t 61), []⟩, ⟨some 65, none, .fa 0 (.t 1), []⟩, ⟨some 66, none, .ld 1 false (.t 65), []⟩, ⟨some 67, none, .mv (.t 4), []⟩, ⟨some 68, none, .ia 5 (.t 66) (.t 67), []⟩, ⟨some 69, none, .fa 2 (.t 68), []⟩, ⟨some 70, none, .ld 1 false (.t 69), []⟩, ⟨some 71, none, .mv (.t 5), []⟩, ⟨some 72, none, .ia 10 (.t 70) (.t 71), []⟩, ⟨some 73, none, .fa 0 (.t 72), []⟩, ⟨some 74, none, .ld 1 false (.t 73), []⟩, ⟨some 75, none, .lens (.t 74), []⟩, ⟨some 63, none, .call 16 [(.t 62)], [13, 17, 21]⟩, ⟨some 64, none, .bi .add .i64 (.t 52) (.t 63), []⟩, ⟨some 76, none, .bi .add .i64 (.t 64) (.t 75), []⟩, ⟨some 3, none, .mv (.t 76), []⟩]))
 (.reg [] [⟨some 49, none, .mv (.t 5), []⟩, ⟨some 50, none, .bi .add .i64 (.t 49) (.k (.int .i64 1)), []⟩, ⟨some 5, none, .mv (.t 50), []⟩]))))))))
 (.reg [] [⟨some 12, none, .mv (.t 4), []⟩, ⟨some 13, none, .bi .add .i64 (.t 12) (.k (.int .i64 1)), []⟩, ⟨some 4, none, .mv (.t 13), []⟩]))))))
 (.seq (.seq (.reg [] [⟨some 6, none, .mv (.k (.int .i64 0)), []⟩])
 (.block 4 (.loop [1, 3, 6] (.seq (.seq (.reg [] [⟨some 77, none, .mv (.t 6), []⟩, ⟨some 78, none, .fa 1 (.t 1), []⟩, ⟨some 79, none, .ld 1 false (.t 78), []⟩, ⟨some 80, none, .len (.t 79), []⟩, ⟨some 81, none, .bi .lss .i64 (.t 77) (.t 80), []⟩])
 (.cond (.t 81) (.skip) (.exit 4)))
 (.seq (.block 5 (.reg [0, 1, 2, 3, 4, 5, 6, 7, 10, 11, 12, 13, 14, 15, 18, 19, 20, 21, 22, 23, 24, 8, 9, 16, 17, 25, 26] [⟨some 84, none, .mv (.t 3), []⟩, ⟨some 85, none, .bi .add .i64 (.t 84) (.k (.int .i64 1)), []⟩, ⟨some 86, none, .fa 1 (.t 1), []⟩, ⟨some 87, none, .ld 1 false (.t 86), []⟩, ⟨some 88, none, .mv (.t 6), []⟩, ⟨some 89, none, .ia 4 (.t 87) (.t 88), []⟩, ⟨some 90, none, .fa 2 (.t 89), []⟩, ⟨some 91, none, .ld 1 false (.t 90), []⟩, ⟨some 94, none, .fa 1 (.t 1), []⟩, ⟨some 95, none, .ld 1 false (.t 94), []⟩, ⟨some 96, none, .mv (.t 6), []⟩, ⟨some 97, none, .ia 4 (.t 95) (.t 96), []⟩, ⟨some 98, none, .fa 3 (.t 97), []⟩, ⟨some 99, none, .ld 1 false (.t 98), []⟩, ⟨some 102, none, .fa 1 (.t 1), []⟩, ⟨some 103, none, .ld 1 false (.t 102), []⟩, ⟨some 104, none, .mv (.t 6), []⟩, ⟨some 105, none, .ia 4 (.t 103) (.t 104), []⟩, ⟨some 106, none, .fa 0 (.t 105), []⟩, ⟨some 107, none, .ld 1 false (.t 106), []⟩, ⟨some 108, none, .lens (.t 107), []⟩, ⟨some 92, none, .call 67 [(.t 91)], [9, 13, 15, 19]⟩, ⟨some 93, none, .bi .add .i64 (.t 85) (.t 92), []⟩, ⟨some 100, none, .call 68 [(.t 99)], [15, 19]⟩, ⟨some 101, none, .bi .add .i64 (.t 93) (.t 100), []⟩, ⟨some 109, none, .bi .add .i64 (.t 101) (.t 108), []⟩, ⟨some 3, none, .mv (.t 109), []⟩]))
 (.reg [] [⟨some 82, none, .mv (.t 6), []⟩, ⟨some 83, none, .bi .add .i64 (.t 82) (.k (.int .i64 1)), []⟩, ⟨some 6, none, .mv (.t 83), []⟩]))))))
 (.seq (.reg [] [⟨some 110, none, .mv (.t 3), []⟩, ⟨some 111, none, .bi .leq .i64 (.t 110) (.k (.int .i64 3200)), []⟩, ⟨some 2, none, .mv (.t 111), []⟩])
 (.ret)))))⟩
theorem ck40 : chkFn Tryd.prog 40 ir40 = true := by kernel_rfl
def ir44 : AFn := ⟨89, 2, [.t 4], .seq (.reg [] [⟨some 2, none, .boxv (.t 0), []⟩, ⟨some 3, none, .boxv (.t 1), []⟩, ⟨some 4, none, .mv (.k (.bool false)), []⟩])
 (.seq (.seq (.reg [] [⟨some 8, none, .fa 0 (.t 2), []⟩, ⟨some 9, none, .ld 1 false (.t 8), []⟩, ⟨some 10, none, .fa 0 (.t 3), []⟩, ⟨some 11, none, .ld 1 false (.t 10), []⟩, ⟨some 12, none, .bi .neq .i64 (.t 9) (.t 11), []⟩, ⟨some 13, none, .mv (.t 12), []⟩, ⟨some 14, (some (13, false)), .fa 1 (.t 2), []⟩, ⟨some 15, (some (13, false)), .ld 1 false (.t 14), []⟩, ⟨some 16, (some (13, false)), .fa 1 (.t 3), []⟩, ⟨some 17, (some (13, false)), .ld 1 false (.t 16), []⟩, ⟨some 18, (some (13, false)), .bs .neq (.t 15) (.t 17), []⟩, ⟨some 19, none, .pick (.t 13) (.k (.bool true)) (.t 18), []⟩, ⟨some 20, none, .mv (.t 19), []⟩, ⟨some 21, (some (20, false)), .fa 2 (.t 2), []⟩, ⟨some 22, (some (20, false)), .ld 1 false (.t 21), []⟩, ⟨some 23, (some (20, false)), .len (.t 22), []⟩, ⟨some 24, (some (20, false)), .fa 2 (.t 3), []⟩, ⟨some 25, (some (20, false)), .ld 1 false (.t 24), []⟩, ⟨some 26, (some (20, false)), .len (.t 25), []⟩, ⟨some 27, (some (20, false)), .bi .neq .i64 (.t 23) (.t 26), []⟩, ⟨some 28, none, .pick (.t 20) (.k (.bool true)) (.t 27), []⟩, ⟨some 29, none, .mv (.t 28), []⟩, ⟨some 30, (some (29, false)), .fa 3 (.t 2), []⟩, ⟨some 31, (some (29, false)), .ld 1 false (.t 30), []⟩, ⟨some 32, (some (29, false)), .fa 3 (.t 3), []⟩, ⟨some 33, (some (29, false)), .ld 1 false (.t 32), []⟩, ⟨some 34, (some (29, false)), .call 71 [(.t 31), (.t 33)], []⟩, ⟨some 35, (some (29, false)), .not (.t 34), []⟩, ⟨some 36, none, .pick (.t 29) (.k (.bool true)) (.t 35), []⟩, ⟨some 37, none, .mv (.t 36), []⟩, ⟨some 38, (some (37, false)), .fa 4 (.t 2), []⟩, ⟨some 39, (some (37, false)), .ld 1 false (.t 38), []⟩, ⟨some 40, (some (37, false)), .fa 4 (.t 3), []⟩, ⟨some 41, (some (37, false)), .ld 1 false (.t 40), []⟩, ⟨some 42, (some (37, false)), .call 72 [(.t 39), (.t 41)], []⟩, ⟨some 43, (some (37, false)), .not (.t 42), []⟩, ⟨some 44, none, .pick (.t 37) (.k (.bool true)) (.t 43), []⟩])
 (.cond (.t 44) (.seq (.reg [] [⟨some 4, none, .mv (.k (.bool false)), []⟩])
 (.ret)) (.skip)))
 (.seq (.seq (.reg [] [⟨some 5, none, .mv (.k (.int .i64 0)), []⟩])
 (.block 0 (.loop [2, 3, 5] (.seq (.seq (.reg [] [⟨some 45, none, .mv (.t 5), []⟩, ⟨some 46, none, .fa 2 (.t 2), []⟩, ⟨some 47, none, .ld 1 false (.t 46), []⟩, ⟨some 48, none, .len (.t 47), []⟩, ⟨some 49, none, .bi .lss .i64 (.t 45) (.t 48), []⟩])
 (.cond (.t 49) (.skip) (.exit 0)))
 (.seq (.block 1 (.seq (.reg [0, 1, 2, 3, 4, 5, 6, 7, 8, 9, 10, 11, 12, 13] [⟨some 52, none, .fa 2 (.t 2), []⟩, ⟨some 53, none, .ld 1 false (.t 52), []⟩, ⟨some 54, none, .mv (.t 5), []⟩, ⟨some 55, none, .ia 10 (.t 53) (.t 54), []⟩, ⟨some 56, none, .ld 10 true (.t 55), []⟩, ⟨some 57, none, .fa 2 (.t 3), []⟩, ⟨some 58, none, .ld 1 false (.t 57), []⟩, ⟨some 59, none, .mv (.t 5), []⟩, ⟨some 60, none, .ia 10 (.t 58) (.t 59), []⟩, ⟨some 61, none, .ld 10 true (.t 60), []⟩, ⟨some 6, none, .alloc [.str [], .str [], .int .i64 0, .int .i64 0, .bool false, .int .i64 0, .int .i64 0, .str [], .sl .nil 5 [], .sl .nil 6 []], []⟩, ⟨some 7, none, .alloc [.str [], .str [], .int .i64 0, .int .i64 0, .bool false, .int .i64 0, .int .i64 0, .str [], .sl .nil 5 [], .sl .nil 6 []], []⟩, ⟨none, none, .st 10 (.t 6) (.t 56), [6, 9]⟩, ⟨none, none, .st 10 (.t 7) (.t 61), []⟩])
 (.seq (.reg [] [⟨some 62, none, .fa 0 (.t 6), []⟩, ⟨some 63, none, .ld 1 false (.t 62), []⟩, ⟨some 64, none, .fa 0 (.t 7), []⟩, ⟨some 65, none, .ld 1 false (.t 64), []⟩, ⟨some 66, none, .bs .neq (.t 63) (.t 65), []⟩, ⟨some 67, none, .mv (.t 66), []⟩, ⟨some 68, (some (67, false)), .fa 1 (.t 6), []⟩, ⟨some 69, (some (67, false)), .ld 3 true (.t 68), []⟩, ⟨some 70, (some (67, false)), .fa 1 (.t 7), []⟩, ⟨some 71, (some (67, false)), .ld 3 true (.t 70), []⟩, ⟨some 72, (some (67, false)), .eqa true [.s, (.i .i64), (.i .i64)] (.t 69) (.t 71), []⟩, ⟨some 73, none, .pick (.t 67) (.k (.bool true)) (.t 72), []⟩, ⟨some 74, none, .mv (.t 73), []⟩, ⟨some 75, (some (74, false)), .fa 4 (.t 6), []⟩, ⟨some 76, (some (74, false)), .ld 1 false (.t 75), []⟩, ⟨some 77, (some (74, false)), .fa 4 (.t 7), []⟩, ⟨some 78, (some (74, false)), .ld 1 false (.t 77), []⟩, ⟨some 79, (some (74, false)), .bb true (.t 76) (.t 78), []⟩, ⟨some 80, none, .pick (.t 74) (.k (.bool true)) (.t 79), []⟩, ⟨some 81, none, .mv (.t 80), []⟩, ⟨some 82, (some (81, false)), .fa 5 (.t 6), []⟩, ⟨some 83, (some (81, false)), .ld 5 true (.t 82), []⟩, ⟨some 84, (some (81, false)), .fa 5 (.t 7), []⟩, ⟨some 85, (some (81, false)), .ld 5 true (.t 84), []⟩, ⟨some 86, (some (81, false)), .call 20 [(.t 83), (.t 85)], []⟩, ⟨some 87, (some (81, false)), .not (.t 86), []⟩, ⟨some 88, none, .pick (.t 81) (.k (.bool true)) (.t 87), []⟩])
 (.cond (.t 88) (.seq (.reg [] [⟨some 4, none, .mv (.k (.bool false)), []⟩])
 (.ret)) (.skip)))))
 (.reg [] [⟨some 50, none, .mv (.t 5), []⟩, ⟨some 51, none, .bi .add .i64 (.t 50) (.k (.int .i64 1)), []⟩, ⟨some 5, none, .mv (.t 51), []⟩]))))))
 (.seq (.reg [] [⟨some 4, none, .mv (.k (.bool true)), []⟩])
 (.ret))))⟩
theorem ck44 : chkFn Tryd.prog 44 ir44 = true := by kernel_rfl
def ir46 : AFn := ⟨5, 1, [.t 2], .seq (.reg [] [⟨some 2, none, .mv (.k (.bool false)), []⟩])
 (.seq (.reg [] [⟨some 3, none, .mv (.t 0), []⟩, ⟨some 4, none, .call 73 [(.t 3)], []⟩, ⟨some 2, none, .mv (.t 4), []⟩])
 (.ret))⟩
theorem ck46 : chkFn Tryd.prog 46 ir46 = true := by kernel_rfl
def ir51 : AFn := ⟨42, 2, [.t 4], .seq (.reg [] [⟨some 4, none, .mv (.k (.bool false)), []⟩])
 (.seq (.seq (.reg [] [⟨some 6, none, .mv (.t 0), []⟩, ⟨some 7, none, .len (.t 6), []⟩, ⟨some 8, none, .mv (.t 1), []⟩, ⟨some 9, none, .len (.t 8), []⟩, ⟨some 10, none, .bi .neq .i64 (.t 7) (.t 9), []⟩])
 (.cond (.t 10) (.seq (.reg [] [⟨some 4, none, .mv (.k (.bool false)), []⟩])
 (.ret)) (.skip)))
 (.seq (.seq (.reg [] [⟨some 5, none, .mv (.k (.int .i64 0)), []⟩])
 (.block 0 (.loop [0, 1, 5] (.seq (.seq (.reg [] [⟨some 11, none, .mv (.t 5), []⟩, ⟨some 12, none, .mv (.t 0), []⟩, ⟨some 13, none, .len (.t 12), []⟩, ⟨some 14, none, .bi .lss .i64 (.t 11) (.t 13), []⟩])
 (.cond (.t 14) (.skip) (.exit 0)))
 (.seq (.block 1 (.seq (.reg [0, 1, 2, 3, 4, 5, 6, 7, 8, 9, 10, 11, 12, 13, 14, 15, 16, 17, 18, 19, 20, 21, 22, 23, 24] [⟨some 17, none, .mv (.t 0), []⟩, ⟨some 18, none, .mv (.t 5), []⟩, ⟨some 19, none, .ia 6 (.t 17) (.t 18), []⟩, ⟨some 20, none, .fa 0 (.t 19), []⟩, ⟨some 21, none, .ld 1 false (.t 20), []⟩, ⟨some 22, none, .mv (.t 1), []⟩, ⟨some 23, none, .mv (.t 5), []⟩, ⟨some 24, none, .ia 6 (.t 22) (.t 23), []⟩, ⟨some 25, none, .fa 0 (.t 24), []⟩, ⟨some 26, none, .ld 1 false (.t 25), []⟩, ⟨some 27, none, .bs .neq (.t 21) (.t 26), []⟩, ⟨some 28, none, .mv (.t 27), []⟩, ⟨some 29, (some (28, false)), .mv (.t 0), []⟩, ⟨some 30, (some (28, false)), .mv (.t 5), []⟩, ⟨some 31, (some (28, false)), .ia 6 (.t 29) (.t 30), []⟩, ⟨some 32, (some (28, false)), .fa 1 (.t 31), []⟩, ⟨some 33, (some (28, false)), .ld 5 true (.t 32), []⟩, ⟨some 34, (some (28, false)), .mv (.t 1), []⟩, ⟨some 35, (some (28, false)), .mv (.t 5), []⟩, ⟨some 36, (some (28, false)), .ia 6 (.t 34) (.t 35), []⟩, ⟨some 37, (some (28, false)), .fa 1 (.t 36), []⟩, ⟨some 38, (some (28, false)), .ld 5 true (.t 37), []⟩, ⟨some 39, (some (28, false)), .call 20 [(.t 33), (.t 38)], []⟩, ⟨some 40, (some (28, false)), .not (.t 39), []⟩, ⟨some 41, none, .pick (.t 28) (.k (.bool true)) (.t 40), []⟩])
 (.cond (.t 41) (.seq (.reg [] [⟨some 4, none, .mv (.k (.bool false)), []⟩])
 (.ret)) (.skip))))
 (.reg [] [⟨some 15, none, .mv (.t 5), []⟩, ⟨some 16, none, .bi .add .i64 (.t 15) (.k (.int .i64 1)), []⟩, ⟨some 5, none, .mv (.t 16), []⟩]))))))
 (.seq (.reg [] [⟨some 4, none, .mv (.k (.bool true)), []⟩])
 (.ret))))⟩
theorem ck51 : chkFn Tryd.prog 51 ir51 = true := by kernel_rfl
def ir67 : AFn := ⟨29, 1, [.t 2], .seq (.reg [] [⟨some 2, none, .mv (.k (.int .i64 0)), []⟩])
 (.seq (.reg [] [⟨some 3, none, .mv (.k (.int .i64 0)), []⟩])
 (.seq (.seq (.reg [] [⟨some 4, none, .mv (.k (.int .i64 0)), []⟩])
 (.block 0 (.loop [0, 3, 4] (.seq (.seq (.reg [] [⟨some 5, none, .mv (.t 4), []⟩, ⟨some 6, none, .mv (.t 0), []⟩, ⟨some 7, none, .len (.t 6), []⟩, ⟨some 8, none, .bi .lss .i64 (.t 5) (.t 7), []⟩])
 (.cond (.t 8) (.skip) (.exit 0)))
 (.seq (.block 1 (.reg [0, 1, 2, 3, 4, 5, 6, 7, 8, 9, 10, 11, 12, 13, 14, 15, 16, 17] [⟨some 11, none, .mv (.t 3), []⟩, ⟨some 12, none, .bi .add .i64 (.t 11) (.k (.int .i64 1)), []⟩, ⟨some 13, none, .mv (.t 0), []⟩, ⟨some 14, none, .mv (.t 4), []⟩, ⟨some 15, none, .ia 2 (.t 13) (.t 14), []⟩, ⟨some 16, none, .fa 0 (.t 15), []⟩, ⟨some 17, none, .ld 1 false (.t 16), []⟩, ⟨some 18, none, .lens (.t 17), []⟩, ⟨some 19, none, .bi .add .i64 (.t 12) (.t 18), []⟩, ⟨some 20, none, .mv (.t 0), []⟩, ⟨some 21, none, .mv (.t 4), []⟩, ⟨some 22, none, .ia 2 (.t 20) (.t 21), []⟩, ⟨some 23, none, .fa 1 (.t 22), []⟩, ⟨some 24, none, .ld 1 false (.t 23), []⟩, ⟨some 25, none, .bld [.int .i64 0, .int .i64 0, .str [], .sl .nil 5 [], .sl .nil 6 []] [(4, 1, (.t 24))], []⟩, ⟨some 26, none, .call 16 [(.t 25)], [6]⟩, ⟨some 27, none, .bi .add .i64 (.t 19) (.t 26), []⟩, ⟨some 3, none, .mv (.t 27), []⟩]))
 (.reg [] [⟨some 9, none, .mv (.t 4), []⟩, ⟨some 10, none, .bi .add .i64 (.t 9) (.k (.int .i64 1)), []⟩, ⟨some 4, none, .mv (.t 10), []⟩]))))))
 (.seq (.reg [] [⟨some 28, none, .mv (.t 3), []⟩, ⟨some 2, none, .mv (.t 28), []⟩])
 (.ret))))⟩
theorem ck67 : chkFn Tryd.prog 67 ir67 = true := by kernel_rfl
def ir68 : AFn := ⟨57, 1, [.t 2], .seq (.reg [] [⟨some 2, none, .mv (.k (.int .i64 0)), []⟩])
 (.seq (.reg [] [⟨some 3, none, .mv (.k (.int .i64 0)), []⟩])
 (.seq (.seq (.reg [] [⟨some 4, none, .mv (.k (.int .i64 0)), []⟩])
 (.block 0 (.loop [0, 3, 4] (.seq (.seq (.reg [] [⟨some 5, none, .mv (.t 4), []⟩, ⟨some 6, none, .mv (.t 0), []⟩, ⟨some 7, none, .len (.t 6), []⟩, ⟨some 8, none, .bi .lss .i64 (.t 5) (.t 7), []⟩])
 (.cond (.t 8) (.skip) (.exit 0)))
 (.seq (.block 1 (.reg [0, 1, 2, 3, 4, 5, 6, 7, 8, 9, 10, 11, 12, 13, 14, 15, 16, 17, 18, 19, 20, 21, 22, 23, 24, 25, 26, 27, 28, 31, 32, 33, 34, 35, 38, 39, 40, 41, 42, 29, 30, 36, 37, 43, 44, 45] [⟨some 11, none, .mv (.t 3), []⟩, ⟨some 12, none, .bi .add .i64 (.t 11) (.k (.int .i64 1)), []⟩, ⟨some 13, none, .mv (.t 0), []⟩, ⟨some 14, none, .mv (.t 4), []⟩, ⟨some 15, none, .ia 7 (.t 13) (.t 14), []⟩, ⟨some 16, none, .fa 2 (.t 15), []⟩, ⟨some 17, none, .ld 1 false (.t 16), []⟩, ⟨some 18, none, .lens (.t 17), []⟩, ⟨some 19, none, .bi .add .i64 (.t 12) (.t 18), []⟩, ⟨some 20, none, .mv (.t 0), []⟩, ⟨some 21, none, .mv (.t 4), []⟩, ⟨some 22, none, .ia 7 (.t 20) (.t 21), []⟩, ⟨some 23, none, .fa 1 (.t 22), []⟩, ⟨some 24, none, .ld 1 false (.t 23), []⟩, ⟨some 25, none, .lens (.t 24), []⟩, ⟨some 26, none, .bi .add .i64 (.t 19) (.t 25), []⟩, ⟨some 27, none, .mv (.t 0), []⟩, ⟨some 28, none, .mv (.t 4), []⟩, ⟨some 29, none, .ia 7 (.t 27) (.t 28), []⟩, ⟨some 30, none, .fa 5 (.t 29), []⟩, ⟨some 31, none, .ld 1 false (.t 30), []⟩, ⟨some 32, none, .lens (.t 31), []⟩, ⟨some 33, none, .bi .add .i64 (.t 26) (.t 32), []⟩, ⟨some 34, none, .mv (.t 0), []⟩, ⟨some 35, none, .mv (.t 4), []⟩, ⟨some 36, none, .ia 7 (.t 34) (.t 35), []⟩, ⟨some 37, none, .fa 3 (.t 36), []⟩, ⟨some 38, none, .ld 1 false (.t 37), []⟩, ⟨some 39, none, .bld [.int .i64 0, .int .i64 0, .str [], .sl .nil 5 [], .sl .nil 6 []] [(4, 1, (.t 38))], []⟩, ⟨some 42, none, .mv (.t 0), []⟩, ⟨some 43, none, .mv (.t 4), []⟩, ⟨some 44, none, .ia 7 (.t 42) (.t 43), []⟩, ⟨some 45, none, .fa 4 (.t 44), []⟩, ⟨some 46, none, .ld 1 false (.t 45), []⟩, ⟨some 49, none, .mv (.t 0), []⟩, ⟨some 50, none, .mv (.t 4), []⟩, ⟨some 51, none, .ia 7 (.t 49) (.t 50), []⟩, ⟨some 52, none, .fa 6 (.t 51), []⟩, ⟨some 53, none, .ld 1 false (.t 52), []⟩, ⟨some 40, none, .call 16 [(.t 39)], [6, 13, 20, 33, 38]⟩, ⟨some 41, none, .bi .add .i64 (.t 33) (.t 40), []⟩, ⟨some 47, none, .call 67 [(.t 46)], [6, 13, 20, 38]⟩, ⟨some 48, none, .bi .add .i64 (.t 41) (.t 47), []⟩, ⟨some 54, none, .call 68 [(.t 53)], [6, 13, 20]⟩, ⟨some 55, none, .bi .add .i64 (.t 48) (.t 54), []⟩, ⟨some 3, none, .mv (.t 55), []⟩]))
 (.reg [] [⟨some 9, none, .mv (.t 4), []⟩, ⟨some 10, none, .bi .add .i64 (.t 9) (.k (.int .i64 1)), []⟩, ⟨some 4, none, .mv (.t 10), []⟩]))))))
 (.seq (.reg [] [⟨some 56, none, .mv (.t 3), []⟩, ⟨some 2, none, .mv (.t 56), []⟩])
 (.ret))))⟩
theorem ck68 : chkFn Tryd.prog 68 ir68 = true := by kernel_rfl
def ir69 : AFn := ⟨19, 2, [.t 4], .seq (.reg [] [⟨some 4, none, .mv (.k (.int .i64 0)), []⟩])
 (.seq (.seq (.reg [] [⟨some 6, none, .mv (.t 0), []⟩, ⟨some 7, none, .len (.t 6), []⟩, ⟨some 8, none, .mv (.k (.int .i64 0)), []⟩])
 (.block 0 (.loop [0, 1, 7, 8] (.seq (.reg [] [⟨some 9, none, .bi .lss .i64 (.t 8) (.t 7), []⟩])
 (.seq (.cond (.t 9) (.skip) (.exit 0))
 (.seq (.block 1 (.seq (.reg [] [⟨some 10, none, .mv (.t 8), []⟩, ⟨some 5, none, .mv (.t 10), []⟩])
 (.seq (.reg [] [⟨some 11, none, .mv (.t 1), []⟩, ⟨some 12, none, .mv (.t 0), []⟩, ⟨some 13, none, .mv (.t 5), []⟩, ⟨some 14, none, .ia 5 (.t 12) (.t 13), []⟩, ⟨some 15, none, .ld 5 true (.t 14), []⟩, ⟨some 16, none, .callv (.t 11) [(.t 15)], []⟩])
 (.cond (.t 16) (.seq (.reg [] [⟨some 17, none, .mv (.t 5), []⟩, ⟨some 4, none, .mv (.t 17), []⟩])
 (.ret)) (.skip)))))
 (.reg [] [⟨some 18, none, .bi .add .i64 (.t 8) (.k (.int .i64 1)), []⟩, ⟨some 8, none, .mv (.t 18), []⟩])))))))
 (.seq (.reg [] [⟨some 4, none, .mv (.k (.int .i64 (-1))), []⟩])
 (.ret)))⟩
theorem ck69 : chkFn Tryd.prog 69 ir69 = true := by kernel_rfl
def ir71 : AFn := ⟨42, 2, [.t 4], .seq (.reg [] [⟨some 4, none, .mv (.k (.bool false)), []⟩])
 (.seq (.seq (.reg [] [⟨some 6, none, .mv (.t 0), []⟩, ⟨some 7, none, .len (.t 6), []⟩, ⟨some 8, none, .mv (.t 1), []⟩, ⟨some 9, none, .len (.t 8), []⟩, ⟨some 10, none, .bi .neq .i64 (.t 7) (.t 9), []⟩])
 (.cond (.t 10) (.seq (.reg [] [⟨some 4, none, .mv (.k (.bool false)), []⟩])
 (.ret)) (.skip)))
 (.seq (.seq (.reg [] [⟨some 5, none, .mv (.k (.int .i64 0)), []⟩])
 (.block 0 (.loop [0, 1, 5] (.seq (.seq (.reg [] [⟨some 11, none, .mv (.t 5), []⟩, ⟨some 12, none, .mv (.t 0), []⟩, ⟨some 13, none, .len (.t 12), []⟩, ⟨some 14, none, .bi .lss .i64 (.t 11) (.t 13), []⟩])
 (.cond (.t 14) (.skip) (.exit 0)))
 (.seq (.block 1 (.seq (.reg [0, 1, 2, 3, 4, 5, 6, 7, 8, 9, 10, 11, 12, 13, 14, 15, 16, 17, 18, 19, 20, 21, 22, 23, 24] [⟨some 17, none, .mv (.t 0), []⟩, ⟨some 18, none, .mv (.t 5), []⟩, ⟨some 19, none, .ia 2 (.t 17) (.t 18), []⟩, ⟨some 20, none, .fa 0 (.t 19), []⟩, ⟨some 21, none, .ld 1 false (.t 20), []⟩, ⟨some 22, none, .mv (.t 1), []⟩, ⟨some 23, none, .mv (.t 5), []⟩, ⟨some 24, none, .ia 2 (.t 22) (.t 23), []⟩, ⟨some 25, none, .fa 0 (.t 24), []⟩, ⟨some 26, none, .ld 1 false (.t 25), []⟩, ⟨some 27, none, .bs .neq (.t 21) (.t 26), []⟩, ⟨some 28, none, .mv (.t 27), []⟩, ⟨some 29, (some (28, false)), .mv (.t 0), []⟩, ⟨some 30, (some (28, false)), .mv (.t 5), []⟩, ⟨some 31, (some (28, false)), .ia 2 (.t 29) (.t 30), []⟩, ⟨some 32, (some (28, false)), .fa 1 (.t 31), []⟩, ⟨some 33, (some (28, false)), .ld 1 false (.t 32), []⟩, ⟨some 34, (some (28, false)), .mv (.t 1), []⟩, ⟨some 35, (some (28, false)), .mv (.t 5), []⟩, ⟨some 36, (some (28, false)), .ia 2 (.t 34) (.t 35), []⟩, ⟨some 37, (some (28, false)), .fa 1 (.t 36), []⟩, ⟨some 38, (some (28, false)), .ld 1 false (.t 37), []⟩, ⟨some 39, (some (28, false)), .call 51 [(.t 33), (.t 38)], []⟩, ⟨some 40, (some (28, false)), .not (.t 39), []⟩, ⟨some 41, none, .pick (.t 28) (.k (.bool true)) (.t 40), []⟩])
 (.cond (.t 41) (.seq (.reg [] [⟨some 4, none, .mv (.k (.bool false)), []⟩])
 (.ret)) (.skip))))
 (.reg [] [⟨some 15, none, .mv (.t 5), []⟩, ⟨some 16, none, .bi .add .i64 (.t 15) (.k (.int .i64 1)), []⟩, ⟨some 5, none, .mv (.t 16), []⟩]))))))
 (.seq (.reg [] [⟨some 4, none, .mv (.k (.bool true)), []⟩])
 (.ret))))⟩
theorem ck71 : chkFn Tryd.prog 71 ir71 = true := by kernel_rfl
def ir72 : AFn := ⟨77, 2, [.t 4], .seq (.reg [] [⟨some 4, none, .mv (.k (.bool false)), []⟩])
 (.seq (.seq (.reg [] [⟨some 8, none, .mv (.t 0), []⟩, ⟨some 9, none, .len (.t 8), []⟩, ⟨some 10, none, .mv (.t 1), []⟩, ⟨some 11, none, .len (.t 10), []⟩, ⟨some 12, none, .bi .neq .i64 (.t 9) (.t 11), []⟩])
 (.cond (.t 12) (.seq (.reg [] [⟨some 4, none, .mv (.k (.bool false)), []⟩])
 (.ret)) (.skip)))
 (.seq (.seq (.reg [] [⟨some 5, none, .mv (.k (.int .i64 0)), []⟩])
 (.block 0 (.loop [0, 1, 5] (.seq (.seq (.reg [] [⟨some 13, none, .mv (.t 5), []⟩, ⟨some 14, none, .mv (.t 0), []⟩, ⟨some 15, none, .len (.t 14), []⟩, ⟨some 16, none, .bi .lss .i64 (.t 13) (.t 15), []⟩])
 (.cond (.t 16) (.skip) (.exit 0)))
 (.seq (.block 1 (.seq (.reg [0, 1, 2, 3, 4, 5, 6, 7, 8, 9, 10, 11] [⟨some 19, none, .mv (.t 0), []⟩, ⟨some 20, none, .mv (.t 5), []⟩, ⟨some 21, none, .ia 7 (.t 19) (.t 20), []⟩, ⟨some 22, none, .ld 7 true (.t 21), []⟩, ⟨some 23, none, .mv (.t 1), []⟩, ⟨some 24, none, .mv (.t 5), []⟩, ⟨some 25, none, .ia 7 (.t 23) (.t 24), []⟩, ⟨some 26, none, .ld 7 true (.t 25), []⟩, ⟨some 6, none, .alloc [.int .i64 0, .str [], .str [], .sl .nil 6 [], .sl .nil 2 [], .str [], .sl .nil 7 []], []⟩, ⟨some 7, none, .alloc [.int .i64 0, .str [], .str [], .sl .nil 6 [], .sl .nil 2 [], .str [], .sl .nil 7 []], []⟩, ⟨none, none, .st 7 (.t 6) (.t 22), [7]⟩, ⟨none, none, .st 7 (.t 7) (.t 26), []⟩])
 (.seq (.reg [] [⟨some 27, none, .fa 0 (.t 6), []⟩, ⟨some 28, none, .ld 1 false (.t 27), []⟩, ⟨some 29, none, .fa 0 (.t 7), []⟩, ⟨some 30, none, .ld 1 false (.t 29), []⟩, ⟨some 31, none, .bi .neq .i64 (.t 28) (.t 30), []⟩, ⟨some 32, none, .mv (.t 31), []⟩, ⟨some 33, (some (32, false)), .fa 1 (.t 6), []⟩, ⟨some 34, (some (32, false)), .ld 1 false (.t 33), []⟩, ⟨some 35, (some (32, false)), .fa 1 (.t 7), []⟩, ⟨some 36, (some (32, false)), .ld 1 false (.t 35), []⟩, ⟨some 37, (some (32, false)), .bs .neq (.t 34) (.t 36), []⟩, ⟨some 38, none, .pick (.t 32) (.k (.bool true)) (.t 37), []⟩, ⟨some 39, none, .mv (.t 38), []⟩, ⟨some 40, (some (39, false)), .fa 2 (.t 6), []⟩, ⟨some 41, (some (39, false)), .ld 1 false (.t 40), []⟩, ⟨some 42, (some (39, false)), .fa 2 (.t 7), []⟩, ⟨some 43, (some (39, false)), .ld 1 false (.t 42), []⟩, ⟨some 44, (some (39, false)), .bs .neq (.t 41) (.t 43), []⟩, ⟨some 45, none, .pick (.t 39) (.k (.bool true)) (.t 44), []⟩, ⟨some 46, none, .mv (.t 45), []⟩, ⟨some 47, (some (46, false)), .fa 5 (.t 6), []⟩, ⟨some 48, (some (46, false)), .ld 1 false (.t 47), []⟩, ⟨some 49, (some (46, false)), .fa 5 (.t 7), []⟩, ⟨some 50, (some (46, false)), .ld 1 false (.t 49), []⟩, ⟨some 51, (some (46, false)), .bs .neq (.t 48) (.t 50), []⟩, ⟨some 52, none, .pick (.t 46) (.k (.bool true)) (.t 51), []⟩, ⟨some 53, none, .mv (.t 52), []⟩, ⟨some 54, (some (53, false)), .fa 3 (.t 6), []⟩, ⟨some 55, (some (53, false)), .ld 1 false (.t 54), []⟩, ⟨some 56, (some (53, false)), .fa 3 (.t 7), []⟩, ⟨some 57, (some (53, false)), .ld 1 false (.t 56), []⟩, ⟨some 58, (some (53, false)), .call 51 [(.t 55), (.t 57)], []⟩, ⟨some 59, (some (53, false)), .not (.t 58), []⟩, ⟨some 60, none, .pick (.t 53) (.k (.bool true)) (.t 59), []⟩, ⟨some 61, none, .mv (.t 60), []⟩, ⟨some 62, (some (61, false)), .fa 4 (.t 6), []⟩, ⟨some 63, (some (61, false)), .ld 1 false (.t 62), []⟩, ⟨some 64, (some (61, false)), .fa 4 (.t 7), []⟩, ⟨some 65, (some (61, false)), .ld 1 false (.t 64), []⟩, ⟨some 66, (some (61, false)), .call 71 [(.t 63), (.t 65)], []⟩, ⟨some 67, (some (61, false)), .not (.t 66), []⟩, ⟨some 68, none, .pick (.t 61) (.k (.bool true)) (.t 67), []⟩, ⟨some 69, none, .mv (.t 68), []⟩, ⟨some 70, (some (69, false)), .fa 6 (.t 6), []⟩, ⟨some 71, (some (69, false)), .ld 1 false (.t 70), []⟩, ⟨some 72, (some (69, false)), .fa 6 (.t 7), []⟩, ⟨some 73, (some (69, false)), .ld 1 false (.t 72), []⟩, ⟨some 74, (some (69, false)), .call 72 [(.t 71), (.t 73)], []⟩, ⟨some 75, (some (69, false)), .not (.t 74), []⟩, ⟨some 76, none, .pick (.t 69) (.k (.bool true)) (.t 75), []⟩])
 (.cond (.t 76) (.seq (.reg [] [⟨some 4, none, .mv (.k (.bool false)), []⟩])
 (.ret)) (.skip)))))
 (.reg [] [⟨some 17, none, .mv (.t 5), []⟩, ⟨some 18, none, .bi .add .i64 (.t 17) (.k (.int .i64 1)), []⟩, ⟨some 5, none, .mv (.t 18), []⟩]))))))
 (.seq (.reg [] [⟨some 4, none, .mv (.k (.bool true)), []⟩])
 (.ret))))⟩
theorem ck72 : chkFn Tryd.prog 72 ir72 = true := by kernel_rfl
def ir83 : AFn := ⟨15, 1, [.t 2], .seq (.reg [] [⟨some 2, none, .mv (.k (.int .i64 0)), []⟩])
 (.seq (.reg [] [⟨some 6, none, .mv (.t 0), []⟩, ⟨some 7, none, .call 112 [(.t 6)], []⟩, ⟨some 5, none, .mv (.t 7), []⟩, ⟨some 8, none, .ext (.t 5) 0, []⟩, ⟨some 9, none, .ext (.t 5) 1, []⟩, ⟨some 3, none, .mv (.t 8), []⟩, ⟨some 4, none, .mv (.t 9), []⟩])
 (.seq (.seq (.reg [] [⟨some 10, none, .mv (.t 3), []⟩, ⟨some 11, none, .mv (.t 0), []⟩, ⟨some 12, none, .lens (.t 11), []⟩, ⟨some 13, none, .bi .neq .i64 (.t 10) (.t 12), []⟩])
 (.cond (.t 13) (.seq (.reg [] [⟨some 2, none, .mv (.k (.int .i64 0)), []⟩])
 (.ret)) (.skip)))
 (.seq (.reg [] [⟨some 14, none, .mv (.t 4), []⟩, ⟨some 2, none, .mv (.t 14), []⟩])
 (.ret))))⟩
theorem ck83 : chkFn Tryd.prog 83 ir83 = true := by kernel_rfl
def ir88 : AFn := ⟨9, 1, [.t 2], .seq (.reg [] [⟨some 2, none, .mv (.k (.bool false)), []⟩])
 (.seq (.reg [] [⟨some 3, none, .mv (.t 0), []⟩, ⟨some 4, none, .bi .geq .u8 (.t 3) (.k (.int .u8 48)), []⟩, ⟨some 5, none, .mv (.t 4), []⟩, ⟨some 6, (some (5, true)), .mv (.t 0), []⟩, ⟨some 7, (some (5, true)), .bi .leq .u8 (.t 6) (.k (.int .u8 57)), []⟩, ⟨some 8, none, .pick (.t 5) (.t 7) (.k (.bool false)), []⟩, ⟨some 2, none, .mv (.t 8), []⟩])
 (.ret))⟩
theorem ck88 : chkFn Tryd.prog 88 ir88 = true := by kernel_rfl
def ir112 : AFn := ⟨38, 1, [.t 2, .t 3], .seq (.reg [] [⟨some 2, none, .mv (.k (.int .i64 0)), []⟩, ⟨some 3, none, .mv (.k (.int .i64 0)), []⟩])
 (.seq (.reg [] [⟨some 8, none, .mv (.t 0), []⟩, ⟨some 9, none, .call 131 [(.t 8)], []⟩, ⟨some 4, none, .mv (.t 9), []⟩])
 (.seq (.seq (.reg [] [⟨some 10, none, .mv (.t 4), []⟩, ⟨some 11, none, .bi .eql .i64 (.t 10) (.k (.int .i64 0)), []⟩])
 (.cond (.t 11) (.seq (.reg [] [⟨some 2, none, .mv (.k (.int .i64 0)), []⟩, ⟨some 3, none, .mv (.k (.int .i64 0)), []⟩])
 (.ret)) (.skip)))
 (.seq (.reg [] [⟨some 5, none, .mv (.k (.int .i64 3)), []⟩])
 (.seq (.seq (.reg [] [⟨some 12, none, .mv (.t 0), []⟩, ⟨some 13, none, .mv (.t 4), []⟩, ⟨some 14, none, .sls (.t 12) (some (.t 13)) none, []⟩, ⟨some 15, none, .call 121 [(.t 14), (.k (.str [46]))], []⟩])
 (.cond (.t 15) (.seq (.reg [] [⟨some 16, none, .mv (.t 0), []⟩, ⟨some 17, none, .mv (.t 4), []⟩, ⟨some 18, none, .bi .add .i64 (.t 17) (.k (.int .i64 1)), []⟩, ⟨some 19, none, .sls (.t 16) (some (.t 18)) none, []⟩, ⟨some 20, none, .call 132 [(.t 19)], []⟩, ⟨some 6, none, .mv (.t 20), []⟩])
 (.seq (.reg [] [⟨some 21, none, .mv (.t 6), []⟩, ⟨some 22, none, .bi .gtr .i64 (.t 21) (.k (.int .i64 0)), []⟩])
 (.cond (.t 22) (.reg [] [⟨some 23, none, .mv (.t 4), []⟩, ⟨some 24, none, .bi .add .i64 (.t 23) (.k (.int .i64 1)), []⟩, ⟨some 25, none, .mv (.t 6), []⟩, ⟨some 26, none, .bi .add .i64 (.t 24) (.t 25), []⟩, ⟨some 4, none, .mv (.t 26), []⟩, ⟨some 5, none, .mv (.k (.int .i64 4)), []⟩]) (.skip)))) (.skip)))
 (.seq (.seq (.reg [] [⟨some 27, none, .mv (.t 0), []⟩, ⟨some 28, none, .mv (.t 4), []⟩, ⟨some 29, none, .sls (.t 27) (some (.t 28)) none, []⟩, ⟨some 30, none, .call 133 [(.t 29)], []⟩, ⟨some 7, none, .mv (.t 30), []⟩])
 (.seq (.reg [] [⟨some 31, none, .mv (.t 7), []⟩, ⟨some 32, none, .bi .gtr .i64 (.t 31) (.k (.int .i64 0)), []⟩])
 (.cond (.t 32) (.reg [] [⟨some 33, none, .mv (.t 4), []⟩, ⟨some 34, none, .mv (.t 7), []⟩, ⟨some 35, none, .bi .add .i64 (.t 33) (.t 34), []⟩, ⟨some 4, none, .mv (.t 35), []⟩, ⟨some 5, none, .mv (.k (.int .i64 4)), []⟩]) (.skip))))
 (.seq (.reg [] [⟨some 36, none, .mv (.t 4), []⟩, ⟨some 37, none, .mv (.t 5), []⟩, ⟨some 2, none, .mv (.t 36), []⟩, ⟨some 3, none, .mv (.t 37), []⟩])
 (.ret)))))))⟩
theorem ck112 : chkFn Tryd.prog 112 ir112 = true := by kernel_rfl
def ir122 : AFn := ⟨75, 2, [.t 4, .t 5], .seq (.reg [] [⟨some 4, none, .mv (.k (.str [])), []⟩, ⟨some 5, none, .mv (.k (.int .i64 0)), []⟩])
 (.scope (.seq (.reg [] [⟨some 9, none, .bld [.sl .nil 1 [], .sl .nil 1 [], .bool false] [(2, 1, (.k (.bool true)))], []⟩, ⟨some 10, none, .box (.t 9), []⟩, ⟨some 6, none, .mv (.t 10), []⟩])
 (.seq (.reg [] [⟨some 7, none, .mv (.k (.int .i64 1)), []⟩])
 (.seq (.skip)
 (.seq (.block 0 (.loop [0, 1, 6, 7] (.block 1 (.seq (.block 2 (.seq (.reg [] [⟨some 12, none, .mv (.t 7), []⟩, ⟨some 13, none, .mv (.t 0), []⟩, ⟨some 14, none, .lens (.t 13), []⟩, ⟨some 15, none, .bi .geq .i64 (.t 12) (.t 14), []⟩, ⟨some 11, none, .mv (.t 15), []⟩])
 (.cond (.t 11) (.seq (.reg [] [⟨some 4, none, .mv (.k (.str [])), []⟩, ⟨some 5, none, .mv (.k (.int .i64 0)), []⟩])
 (.ret)) (.seq (.reg [] [⟨some 17, none, .mv (.t 0), []⟩, ⟨some 18, none, .mv (.t 7), []⟩, ⟨some 19, none, .ixs (.t 17) (.t 18), []⟩, ⟨some 20, none, .bi .eql .u8 (.t 19) (.k (.int .u8 34)), []⟩, ⟨some 16, none, .mv (.t 20), []⟩])
 (.cond (.t 16) (.exit 0) (.seq (.reg [] [⟨some 22, none, .mv (.t 0), []⟩, ⟨some 23, none, .mv (.t 7), []⟩, ⟨some 24, none, .ixs (.t 22) (.t 23), []⟩, ⟨some 25, none, .bi .eql .u8 (.t 24) (.k (.int .u8 92)), []⟩, ⟨some 21, none, .mv (.t 25), []⟩])
 (.cond (.t 21) (.seq (.reg [] [⟨some 26, none, .mv (.t 6), []⟩, ⟨some 27, none, .mv (.t 0), []⟩, ⟨some 28, none, .mv (.t 7), []⟩, ⟨some 29, none, .bi .add .i64 (.t 28) (.k (.int .i64 1)), []⟩, ⟨some 30, none, .sls (.t 27) (some (.t 29)) none, []⟩, ⟨some 31, none, .call 136 [(.t 26), (.t 30)], []⟩, ⟨some 8, none, .mv (.t 31), []⟩])
 (.seq (.seq (.reg [] [⟨some 32, none, .mv (.t 8), []⟩, ⟨some 33, none, .bi .eql .i64 (.t 32) (.k (.int .i64 0)), []⟩])
 (.cond (.t 33) (.seq (.reg [] [⟨some 4, none, .mv (.k (.str [])), []⟩, ⟨some 5, none, .mv (.k (.int .i64 0)), []⟩])
 (.ret)) (.skip)))
 (.seq (.reg [] [⟨some 34, none, .mv (.t 7), []⟩, ⟨some 35, none, .mv (.t 8), []⟩, ⟨some 36, none, .bi .add .i64 (.k (.int .i64 1)) (.t 35), []⟩, ⟨some 37, none, .bi .add .i64 (.t 34) (.t 36), []⟩, ⟨some 7, none, .mv (.t 37), []⟩])
 (.exit 1)))) (.seq (.reg [] [⟨some 39, none, .mv (.t 1), []⟩, ⟨some 40, none, .mv (.t 0), []⟩, ⟨some 41, none, .mv (.t 7), []⟩, ⟨some 42, none, .ixs (.t 40) (.t 41), []⟩, ⟨some 43, none, .callv (.t 39) [(.t 42)], []⟩, ⟨some 44, none, .not (.t 43), []⟩, ⟨some 38, none, .mv (.t 44), []⟩])
 (.cond (.t 38) (.seq (.reg [] [⟨some 4, none, .mv (.k (.str [])), []⟩, ⟨some 5, none, .mv (.k (.int .i64 0)), []⟩])
 (.ret)) (.skip))))))))))
 (.seq (.reg [] [⟨some 45, none, .mv (.t 6), []⟩, ⟨some 46, none, .call 137 [(.t 45)], []⟩])
 (.seq (.reg [0, 1, 2, 3, 4, 5, 6, 7, 8, 9, 10, 11, 12] [⟨some 47, none, .mv (.t 6), []⟩, ⟨some 48, none, .mv (.t 6), []⟩, ⟨some 49, none, .nilchk (.t 48), []⟩, ⟨some 50, none, .fa 0 (.t 49), []⟩, ⟨some 51, none, .ld 1 false (.t 50), []⟩, ⟨some 52, none, .mv (.t 0), []⟩, ⟨some 53, none, .mv (.t 7), []⟩, ⟨some 54, none, .ixs (.t 52) (.t 53), []⟩, ⟨some 55, none, .bls 1 1 [.int .u8 0] [(0, (.t 54))], []⟩, ⟨some 56, none, .app 1 1 (.t 51) (.t 55), []⟩, ⟨some 57, none, .nilchk (.t 47), []⟩, ⟨some 58, none, .fa 0 (.t 57), []⟩, ⟨none, none, .st 1 (.t 58) (.t 56), []⟩])
 (.reg [] [⟨some 59, none, .mv (.t 7), []⟩, ⟨some 60, none, .bi .add .i64 (.t 59) (.k (.int .i64 1)), []⟩, ⟨some 7, none, .mv (.t 60), []⟩])))))))
 (.seq (.reg [] [⟨some 61, none, .mv (.t 6), []⟩, ⟨some 62, none, .call 137 [(.t 61)], []⟩])
 (.seq (.seq (.reg [] [⟨some 63, none, .mv (.t 6), []⟩, ⟨some 64, none, .nilchk (.t 63), []⟩, ⟨some 65, none, .fa 2 (.t 64), []⟩, ⟨some 66, none, .ld 1 false (.t 65), []⟩, ⟨some 67, none, .not (.t 66), []⟩])
 (.cond (.t 67) (.seq (.reg [] [⟨some 4, none, .mv (.k (.str [])), []⟩, ⟨some 5, none, .mv (.k (.int .i64 0)), []⟩])
 (.ret)) (.skip)))
 (.seq (.reg [] [⟨some 68, none, .mv (.t 6), []⟩, ⟨some 69, none, .nilchk (.t 68), []⟩, ⟨some 70, none, .fa 0 (.t 69), []⟩, ⟨some 71, none, .ld 1 false (.t 70), []⟩, ⟨some 72, none, .cvb2s (.t 71), []⟩, ⟨some 73, none, .mv (.t 7), []⟩, ⟨some 74, none, .bi .add .i64 (.t 73) (.k (.int .i64 1)), []⟩, ⟨some 4, none, .mv (.t 72), []⟩, ⟨some 5, none, .mv (.t 74), []⟩])
 (.ret)))))))))⟩
theorem ck122 : chkFn Tryd.prog 122 ir122 = true := by kernel_rfl
def ir125 : AFn := ⟨19, 1, [.t 2, .t 3], .seq (.reg [] [⟨some 2, none, .mv (.k (.int .i64 0)), []⟩, ⟨some 3, none, .mv (.k (.bool false)), []⟩])
 (.seq (.reg [] [⟨some 7, none, .mv (.t 0), []⟩, ⟨some 8, none, .call 139 [(.t 7), (.k (.int .i64 10)), (.k (.int .i64 64))], []⟩, ⟨some 6, none, .mv (.t 8), []⟩, ⟨some 9, none, .ext (.t 6) 0, []⟩, ⟨some 10, none, .ext (.t 6) 1, []⟩, ⟨some 4, none, .mv (.t 9), []⟩, ⟨some 5, none, .mv (.t 10), []⟩])
 (.seq (.reg [] [⟨some 11, none, .mv (.t 4), []⟩, ⟨some 12, none, .mv (.t 5), []⟩, ⟨some 13, none, .ifnil false (.t 12), []⟩, ⟨some 14, none, .mv (.t 13), []⟩, ⟨some 15, (some (14, true)), .mv (.t 0), []⟩, ⟨some 16, (some (14, true)), .call 83 [(.t 15)], []⟩, ⟨some 17, (some (14, true)), .bi .eql .i64 (.t 16) (.k (.int .i64 3)), []⟩, ⟨some 18, none, .pick (.t 14) (.t 17) (.k (.bool false)), []⟩, ⟨some 2, none, .mv (.t 11), []⟩, ⟨some 3, none, .mv (.t 18), []⟩])
 (.ret)))⟩
theorem ck125 : chkFn Tryd.prog 125 ir125 = true := by kernel_rfl
def ir131 : AFn := ⟨24, 1, [.t 2], .seq (.reg [] [⟨some 2, none, .mv (.k (.int .i64 0)), []⟩])
 (.seq (.reg [] [⟨some 3, none, .mv (.k (.int .i64 0)), []⟩])
 (.seq (.seq (.reg [] [⟨some 5, none, .mv (.t 0), []⟩, ⟨some 6, none, .call 121 [(.t 5), (.k (.str [45]))], []⟩])
 (.cond (.t 6) (.reg [] [⟨some 3, none, .mv (.k (.int .i64 1)), []⟩]) (.skip)))
 (.seq (.reg [] [⟨some 7, none, .mv (.t 0), []⟩, ⟨some 8, none, .mv (.t 3), []⟩, ⟨some 9, none, .sls (.t 7) (some (.t 8)) none, []⟩, ⟨some 10, none, .call 132 [(.t 9)], []⟩, ⟨some 4, none, .mv (.t 10), []⟩])
 (.seq (.block 0 (.seq (.reg [] [⟨some 12, none, .mv (.t 4), []⟩, ⟨some 13, none, .bi .eql .i64 (.t 12) (.k (.int .i64 0)), []⟩, ⟨some 11, none, .mv (.t 13), []⟩])
 (.cond (.t 11) (.seq (.reg [] [⟨some 2, none, .mv (.k (.int .i64 0)), []⟩])
 (.ret)) (.seq (.reg [] [⟨some 15, none, .mv (.t 0), []⟩, ⟨some 16, none, .mv (.t 3), []⟩, ⟨some 17, none, .ixs (.t 15) (.t 16), []⟩, ⟨some 18, none, .bi .eql .u8 (.t 17) (.k (.int .u8 48)), []⟩, ⟨some 14, none, .mv (.t 18), []⟩])
 (.cond (.t 14) (.seq (.reg [] [⟨some 19, none, .mv (.t 3), []⟩, ⟨some 20, none, .bi .add .i64 (.t 19) (.k (.int .i64 1)), []⟩, ⟨some 2, none, .mv (.t 20), []⟩])
 (.ret)) (.skip))))))
 (.seq (.reg [] [⟨some 21, none, .mv (.t 3), []⟩, ⟨some 22, none, .mv (.t 4), []⟩, ⟨some 23, none, .bi .add .i64 (.t 21) (.t 22), []⟩, ⟨some 2, none, .mv (.t 23), []⟩])
 (.ret))))))⟩
theorem ck131 : chkFn Tryd.prog 131 ir131 = true := by kernel_rfl
def ir132 : AFn := ⟨17, 1, [.t 2], .seq (.reg [] [⟨some 2, none, .mv (.k (.int .i64 0)), []⟩])
 (.seq (.reg [] [⟨some 3, none, .mv (.k (.int .i64 0)), []⟩])
 (.seq (.block 0 (.loop [0, 3] (.seq (.seq (.reg [] [⟨some 4, none, .mv (.t 3), []⟩, ⟨some 5, none, .mv (.t 0), []⟩, ⟨some 6, none, .lens (.t 5), []⟩, ⟨some 7, none, .bi .lss .i64 (.t 4) (.t 6), []⟩, ⟨some 8, none, .mv (.t 7), []⟩, ⟨some 9, (some (8, true)), .mv (.t 0), []⟩, ⟨some 10, (some (8, true)), .mv (.t 3), []⟩, ⟨some 11, (some (8, true)), .ixs (.t 9) (.t 10), []⟩, ⟨some 12, (some (8, true)), .call 88 [(.t 11)], []⟩, ⟨some 13, none, .pick (.t 8) (.t 12) (.k (.bool false)), []⟩])
 (.cond (.t 13) (.skip) (.exit 0)))
 (.block 1 (.reg [] [⟨some 14, none, .mv (.t 3), []⟩, ⟨some 15, none, .bi .add .i64 (.t 14) (.k (.int .i64 1)), []⟩, ⟨some 3, none, .mv (.t 15), []⟩])))))
 (.seq (.reg [] [⟨some 16, none, .mv (.t 3), []⟩, ⟨some 2, none, .mv (.t 16), []⟩])
 (.ret))))⟩
theorem ck132 : chkFn Tryd.prog 132 ir132 = true := by kernel_rfl
def ir133 : AFn := ⟨39, 1, [.t 2], .seq (.reg [] [⟨some 2, none, .mv (.k (.int .i64 0)), []⟩])
 (.seq (.seq (.reg [] [⟨some 5, none, .mv (.t 0), []⟩, ⟨some 6, none, .bs .eql (.t 5) (.k (.str [])), []⟩, ⟨some 7, none, .mv (.t 6), []⟩, ⟨some 8, (some (7, false)), .mv (.t 0), []⟩, ⟨some 9, (some (7, false)), .ixs (.t 8) (.k (.int .i64 0)), []⟩, ⟨some 10, (some (7, false)), .bi .neq .u8 (.t 9) (.k (.int .u8 101)), []⟩, ⟨some 11, (some (7, false)), .mv (.t 10), []⟩, ⟨some 12, (some (11, true)), .mv (.t 0), []⟩, ⟨some 13, (some (11, true)), .ixs (.t 12) (.k (.int .i64 0)), []⟩, ⟨some 14, (some (11, true)), .bi .neq .u8 (.t 13) (.k (.int .u8 69)), []⟩, ⟨some 15, (some (7, false)), .pick (.t 11) (.t 14) (.k (.bool false)), []⟩, ⟨some 16, none, .pick (.t 7) (.k (.bool true)) (.t 15), []⟩])
 (.cond (.t 16) (.seq (.reg [] [⟨some 2, none, .mv (.k (.int .i64 0)), []⟩])
 (.ret)) (.skip)))
 (.seq (.reg [] [⟨some 3, none, .mv (.k (.int .i64 1)), []⟩])
 (.seq (.seq (.reg [] [⟨some 17, none, .mv (.t 0), []⟩, ⟨some 18, none, .lens (.t 17), []⟩, ⟨some 19, none, .bi .gtr .i64 (.t 18) (.k (.int .i64 1)), []⟩, ⟨some 20, none, .mv (.t 19), []⟩, ⟨some 21, (some (20, true)), .mv (.t 0), []⟩, ⟨some 22, (some (20, true)), .ixs (.t 21) (.k (.int .i64 1)), []⟩, ⟨some 23, (some (20, true)), .bi .eql .u8 (.t 22) (.k (.int .u8 43)), []⟩, ⟨some 24, (some (20, true)), .mv (.t 23), []⟩, ⟨some 25, (some (24, false)), .mv (.t 0), []⟩, ⟨some 26, (some (24, false)), .ixs (.t 25) (.k (.int .i64 1)), []⟩, ⟨some 27, (some (24, false)), .bi .eql .u8 (.t 26) (.k (.int .u8 45)), []⟩, ⟨some 28, (some (20, true)), .pick (.t 24) (.k (.bool true)) (.t 27), []⟩, ⟨some 29, none, .pick (.t 20) (.t 28) (.k (.bool false)), []⟩])
 (.cond (.t 29) (.reg [] [⟨some 3, none, .mv (.k (.int .i64 2)), []⟩]) (.skip)))
 (.seq (.reg [] [⟨some 30, none, .mv (.t 0), []⟩, ⟨some 31, none, .mv (.t 3), []⟩, ⟨some 32, none, .sls (.t 30) (some (.t 31)) none, []⟩, ⟨some 33, none, .call 132 [(.t 32)], []⟩, ⟨some 4, none, .mv (.t 33), []⟩])
 (.seq (.seq (.reg [] [⟨some 34, none, .mv (.t 4), []⟩, ⟨some 35, none, .bi .eql .i64 (.t 34) (.k (.int .i64 0)), []⟩])
 (.cond (.t 35) (.seq (.reg [] [⟨some 2, none, .mv (.k (.int .i64 0)), []⟩])
 (.ret)) (.skip)))
 (.seq (.reg [] [⟨some 36, none, .mv (.t 3), []⟩, ⟨some 37, none, .mv (.t 4), []⟩, ⟨some 38, none, .bi .add .i64 (.t 36) (.t 37), []⟩, ⟨some 2, none, .mv (.t 38), []⟩])
 (.ret)))))))⟩
theorem ck133 : chkFn Tryd.prog 133 ir133 = true := by kernel_rfl
def ir136 : AFn := ⟨48, 2, [.t 4], .seq (.reg [] [⟨some 4, none, .mv (.k (.int .i64 0)), []⟩])
 (.seq (.seq (.reg [] [⟨some 8, none, .mv (.t 1), []⟩, ⟨some 9, none, .call 121 [(.t 8), (.k (.str [117]))], []⟩])
 (.cond (.t 9) (.seq (.reg [] [⟨some 11, none, .mv (.t 1), []⟩, ⟨some 12, none, .sls (.t 11) (some (.k (.int .i64 1))) none, []⟩, ⟨some 13, none, .call 146 [(.t 12)], []⟩, ⟨some 10, none, .mv (.t 13), []⟩, ⟨some 14, none, .ext (.t 10) 0, []⟩, ⟨some 15, none, .ext (.t 10) 1, []⟩, ⟨some 5, none, .mv (.t 14), []⟩, ⟨some 6, none, .mv (.t 15), []⟩])
 (.seq (.seq (.reg [] [⟨some 16, none, .mv (.t 6), []⟩, ⟨some 17, none, .not (.t 16), []⟩])
 (.cond (.t 17) (.seq (.reg [] [⟨some 4, none, .mv (.k (.int .i64 0)), []⟩])
 (.ret)) (.skip)))
 (.seq (.reg [] [⟨some 18, none, .mv (.t 0), []⟩, ⟨some 19, none, .mv (.t 0), []⟩, ⟨some 20, none, .nilchk (.t 19), []⟩, ⟨some 21, none, .fa 1 (.t 20), []⟩, ⟨some 22, none, .ld 1 false (.t 21), []⟩, ⟨some 23, none, .mv (.t 5), []⟩, ⟨some 24, none, .bls 1 1 [.int .i64 0] [(0, (.t 23))], []⟩, ⟨some 25, none, .app 1 8 (.t 22) (.t 24), []⟩, ⟨some 26, none, .nilchk (.t 18), []⟩, ⟨some 27, none, .fa 1 (.t 26), []⟩, ⟨none, none, .st 1 (.t 27) (.t 25), []⟩])
 (.seq (.reg [] [⟨some 4, none, .mv (.k (.int .i64 5)), []⟩])
 (.ret))))) (.skip)))
 (.seq (.seq (.reg [] [⟨some 28, none, .mv (.t 1), []⟩, ⟨some 29, none, .bs .eql (.t 28) (.k (.str [])), []⟩])
 (.cond (.t 29) (.seq (.reg [] [⟨some 4, none, .mv (.k (.int .i64 0)), []⟩])
 (.ret)) (.skip)))
 (.seq (.reg [] [⟨some 30, none, .mv (.t 1), []⟩, ⟨some 31, none, .ixs (.t 30) (.k (.int .i64 0)), []⟩, ⟨some 32, none, .call 109 [(.k (.str [34, 92, 47, 98, 102, 110, 114, 116])), (.t 31)], []⟩, ⟨some 7, none, .mv (.t 32), []⟩])
 (.seq (.seq (.reg [] [⟨some 33, none, .mv (.t 7), []⟩, ⟨some 34, none, .bi .lss .i64 (.t 33) (.k (.int .i64 0)), []⟩])
 (.cond (.t 34) (.seq (.reg [] [⟨some 4, none, .mv (.k (.int .i64 0)), []⟩])
 (.ret)) (.skip)))
 (.seq (.reg [] [⟨some 35, none, .mv (.t 0), []⟩, ⟨some 36, none, .call 137 [(.t 35)], []⟩])
 (.seq (.reg [0, 1, 2, 3, 4, 5, 6, 7, 8, 9, 10, 11] [⟨some 37, none, .mv (.t 0), []⟩, ⟨some 38, none, .mv (.t 0), []⟩, ⟨some 39, none, .nilchk (.t 38), []⟩, ⟨some 40, none, .fa 0 (.t 39), []⟩, ⟨some 41, none, .ld 1 false (.t 40), []⟩, ⟨some 42, none, .mv (.t 7), []⟩, ⟨some 43, none, .ixs (.k (.str [34, 92, 47, 8, 12, 10, 13, 9])) (.t 42), []⟩, ⟨some 44, none, .bls 1 1 [.int .u8 0] [(0, (.t 43))], []⟩, ⟨some 45, none, .app 1 1 (.t 41) (.t 44), []⟩, ⟨some 46, none, .nilchk (.t 37), []⟩, ⟨some 47, none, .fa 0 (.t 46), []⟩, ⟨none, none, .st 1 (.t 47) (.t 45), []⟩])
 (.seq (.reg [] [⟨some 4, none, .mv (.k (.int .i64 1)), []⟩])
 (.ret))))))))⟩
theorem ck136 : chkFn Tryd.prog 136 ir136 = true := by kernel_rfl
def ir137 : AFn := ⟨34, 1, [], .seq (.reg [] [⟨some 5, none, .mv (.t 0), []⟩, ⟨some 6, none, .nilchk (.t 5), []⟩, ⟨some 7, none, .fa 1 (.t 6), []⟩, ⟨some 8, none, .ld 1 false (.t 7), []⟩, ⟨some 9, none, .call 147 [(.t 8)], []⟩, ⟨some 4, none, .mv (.t 9), []⟩, ⟨some 10, none, .ext (.t 4) 0, []⟩, ⟨some 11, none, .ext (.t 4) 1, []⟩, ⟨some 2, none, .mv (.t 10), []⟩, ⟨some 3, none, .mv (.t 11), []⟩])
 (.reg [0, 1, 2, 3, 4, 5, 6, 7, 9, 10, 11, 12, 8, 13, 14, 15, 16, 17, 18, 19, 20, 21, 22, 23, 24] [⟨some 12, none, .mv (.t 0), []⟩, ⟨some 13, none, .mv (.t 0), []⟩, ⟨some 14, none, .mv (.t 0), []⟩, ⟨some 15, none, .mv (.t 0), []⟩, ⟨some 16, none, .nilchk (.t 15), []⟩, ⟨some 17, none, .fa 0 (.t 16), []⟩, ⟨some 18, none, .ld 1 false (.t 17), []⟩, ⟨some 19, none, .mv (.t 2), []⟩, ⟨some 21, none, .mv (.t 0), []⟩, ⟨some 22, none, .nilchk (.t 21), []⟩, ⟨some 23, none, .fa 2 (.t 22), []⟩, ⟨some 24, none, .ld 1 false (.t 23), []⟩, ⟨some 20, none, .apps (.t 18) (.t 19), [11]⟩, ⟨some 25, none, .mv (.t 24), []⟩, ⟨some 26, (some (25, true)), .mv (.t 3), []⟩, ⟨some 27, none, .pick (.t 25) (.t 26) (.k (.bool false)), []⟩, ⟨some 28, none, .nilchk (.t 12), []⟩, ⟨some 29, none, .fa 0 (.t 28), []⟩, ⟨none, none, .st 1 (.t 29) (.t 20), []⟩, ⟨some 30, none, .nilchk (.t 13), []⟩, ⟨some 31, none, .fa 1 (.t 30), []⟩, ⟨none, none, .st 1 (.t 31) (.k (.sl .nil 1 [])), []⟩, ⟨some 32, none, .nilchk (.t 14), []⟩, ⟨some 33, none, .fa 2 (.t 32), []⟩, ⟨none, none, .st 1 (.t 33) (.t 27), []⟩])⟩
theorem ck137 : chkFn Tryd.prog 137 ir137 = true := by kernel_rfl
def ir146 : AFn := ⟨44, 1, [.t 2, .t 3], .seq (.reg [] [⟨some 2, none, .mv (.k (.int .i64 0)), []⟩, ⟨some 3, none, .mv (.k (.bool false)), []⟩])
 (.seq (.seq (.reg [] [⟨some 7, none, .mv (.t 0), []⟩, ⟨some 8, none, .lens (.t 7), []⟩, ⟨some 9, none, .bi .lss .i64 (.t 8) (.k (.int .i64 4)), []⟩])
 (.cond (.t 9) (.seq (.reg [] [⟨some 2, none, .mv (.k (.int .i64 0)), []⟩, ⟨some 3, none, .mv (.k (.bool false)), []⟩])
 (.ret)) (.skip)))
 (.seq (.reg [] [⟨some 4, none, .mv (.k (.int .i64 0)), []⟩])
 (.seq (.seq (.reg [] [⟨some 10, none, .mv (.k (.int .i64 0)), []⟩])
 (.block 0 (.loop [0, 4, 10] (.seq (.reg [] [⟨some 11, none, .bi .lss .i64 (.t 10) (.k (.int .i64 4)), []⟩])
 (.seq (.cond (.t 11) (.skip) (.exit 0))
 (.seq (.block 1 (.seq (.reg [] [⟨some 12, none, .mv (.t 10), []⟩, ⟨some 5, none, .mv (.t 12), []⟩])
 (.seq (.reg [] [⟨some 13, none, .mv (.t 0), []⟩, ⟨some 14, none, .mv (.t 5), []⟩, ⟨some 15, none, .ixs (.t 13) (.t 14), []⟩, ⟨some 16, none, .bi .or .u8 (.t 15) (.k (.int .u8 32)), []⟩, ⟨some 17, none, .call 109 [(.k (.str [48, 49, 50, 51, 52, 53, 54, 55, 56, 57, 97, 98, 99, 100, 101, 102])), (.t 16)], []⟩, ⟨some 6, none, .mv (.t 17), []⟩])
 (.seq (.seq (.reg [] [⟨some 18, none, .mv (.t 6), []⟩, ⟨some 19, none, .bi .lss .i64 (.t 18) (.k (.int .i64 0)), []⟩, ⟨some 20, none, .mv (.t 19), []⟩, ⟨some 21, (some (20, false)), .mv (.t 0), []⟩, ⟨some 22, (some (20, false)), .mv (.t 5), []⟩, ⟨some 23, (some (20, false)), .ixs (.t 21) (.t 22), []⟩, ⟨some 24, (some (20, false)), .bi .lss .u8 (.t 23) (.k (.int .u8 48)), []⟩, ⟨some 25, none, .pick (.t 20) (.k (.bool true)) (.t 24), []⟩, ⟨some 26, none, .mv (.t 25), []⟩, ⟨some 27, (some (26, false)), .mv (.t 0), []⟩, ⟨some 28, (some (26, false)), .mv (.t 5), []⟩, ⟨some 29, (some (26, false)), .ixs (.t 27) (.t 28), []⟩, ⟨some 30, (some (26, false)), .bi .gtr .u8 (.t 29) (.k (.int .u8 57)), []⟩, ⟨some 31, (some (26, false)), .mv (.t 30), []⟩, ⟨some 32, (some (31, true)), .mv (.t 0), []⟩, ⟨some 33, (some (31, true)), .mv (.t 5), []⟩, ⟨some 34, (some (31, true)), .ixs (.t 32) (.t 33), []⟩, ⟨some 35, (some (31, true)), .bi .lss .u8 (.t 34) (.k (.int .u8 65)), []⟩, ⟨some 36, (some (26, false)), .pick (.t 31) (.t 35) (.k (.bool false)), []⟩, ⟨some 37, none, .pick (.t 26) (.k (.bool true)) (.t 36), []⟩])
 (.cond (.t 37) (.seq (.reg [] [⟨some 2, none, .mv (.k (.int .i64 0)), []⟩, ⟨some 3, none, .mv (.k (.bool false)), []⟩])
 (.ret)) (.skip)))
 (.reg [] [⟨some 38, none, .mv (.t 4), []⟩, ⟨some 39, none, .bi .mul .i64 (.k (.int .i64 16)) (.t 38), []⟩, ⟨some 40, none, .mv (.t 6), []⟩, ⟨some 41, none, .bi .add .i64 (.t 39) (.t 40), []⟩, ⟨some 4, none, .mv (.t 41), []⟩])))))
 (.reg [] [⟨some 42, none, .bi .add .i64 (.t 10) (.k (.int .i64 1)), []⟩, ⟨some 10, none, .mv (.t 42), []⟩])))))))
 (.seq (.reg [] [⟨some 43, none, .mv (.t 4), []⟩, ⟨some 2, none, .mv (.t 43), []⟩, ⟨some 3, none, .mv (.k (.bool true)), []⟩])
 (.ret)))))⟩
theorem ck146 : chkFn Tryd.prog 146 ir146 = true := by kernel_rfl
def ir147 : AFn := ⟨75, 1, [.t 2, .t 3], .seq (.reg [] [⟨some 2, none, .mv (.k (.str [])), []⟩, ⟨some 3, none, .mv (.k (.bool false)), []⟩])
 (.seq (.reg [] [⟨some 4, none, .mv (.k (.sl .nil 1 [])), []⟩])
 (.seq (.seq (.reg [] [⟨some 5, none, .mv (.k (.int .i64 0)), []⟩])
 (.block 0 (.loop [0, 4, 5] (.seq (.seq (.reg [] [⟨some 7, none, .mv (.t 5), []⟩, ⟨some 8, none, .mv (.t 0), []⟩, ⟨some 9, none, .len (.t 8), []⟩, ⟨some 10, none, .bi .lss .i64 (.t 7) (.t 9), []⟩])
 (.cond (.t 10) (.skip) (.exit 0)))
 (.seq (.block 1 (.seq (.reg [] [⟨some 13, none, .mv (.t 0), []⟩, ⟨some 14, none, .mv (.t 5), []⟩, ⟨some 15, none, .ia 1 (.t 13) (.t 14), []⟩, ⟨some 16, none, .ld 1 false (.t 15), []⟩, ⟨some 6, none, .mv (.t 16), []⟩])
 (.seq (.block 2 (.seq (.reg [] [⟨some 18, none, .mv (.t 6), []⟩, ⟨some 19, none, .bi .lss .i64 (.t 18) (.k (.int .i64 0)), []⟩, ⟨some 20, none, .mv (.t 19), []⟩, ⟨some 21, (some (20, false)), .mv (.t 6), []⟩, ⟨some 22, (some (20, false)), .bi .gtr .i64 (.t 21) (.k (.int .i64 65535)), []⟩, ⟨some 23, none, .pick (.t 20) (.k (.bool true)) (.t 22), []⟩, ⟨some 24, none, .mv (.t 23), []⟩, ⟨some 25, (some (24, false)), .mv (.t 6), []⟩, ⟨some 26, (some (24, false)), .bi .geq .i64 (.t 25) (.k (.int .i64 56320)), []⟩, ⟨some 27, (some (24, false)), .mv (.t 26), []⟩, ⟨some 28, (some (27, true)), .mv (.t 6), []⟩, ⟨some 29, (some (27, true)), .bi .leq .i64 (.t 28) (.k (.int .i64 57343)), []⟩, ⟨some 30, (some (24, false)), .pick (.t 27) (.t 29) (.k (.bool false)), []⟩, ⟨some 31, none, .pick (.t 24) (.k (.bool true)) (.t 30), []⟩, ⟨some 17, none, .mv (.t 31), []⟩])
 (.cond (.t 17) (.seq (.reg [] [⟨some 2, none, .mv (.k (.str [])), []⟩, ⟨some 3, none, .mv (.k (.bool false)), []⟩])
 (.ret)) (.seq (.reg [] [⟨some 33, none, .mv (.t 6), []⟩, ⟨some 34, none, .bi .geq .i64 (.t 33) (.k (.int .i64 55296)), []⟩, ⟨some 35, none, .mv (.t 34), []⟩, ⟨some 36, (some (35, true)), .mv (.t 6), []⟩, ⟨some 37, (some (35, true)), .bi .lss .i64 (.t 36) (.k (.int .i64 56320)), []⟩, ⟨some 38, none, .pick (.t 35) (.t 37) (.k (.bool false)), []⟩, ⟨some 32, none, .mv (.t 38), []⟩])
 (.cond (.t 32) (.seq (.reg [] [⟨some 39, none, .mv (.t 5), []⟩, ⟨some 40, none, .bi .add .i64 (.t 39) (.k (.int .i64 1)), []⟩, ⟨some 5, none, .mv (.t 40), []⟩])
 (.seq (.seq (.reg [] [⟨some 41, none, .mv (.t 5), []⟩, ⟨some 42, none, .mv (.t 0), []⟩, ⟨some 43, none, .len (.t 42), []⟩, ⟨some 44, none, .bi .eql .i64 (.t 41) (.t 43), []⟩, ⟨some 45, none, .mv (.t 44), []⟩, ⟨some 46, (some (45, false)), .mv (.t 0), []⟩, ⟨some 47, (some (45, false)), .mv (.t 5), []⟩, ⟨some 48, (some (45, false)), .ia 1 (.t 46) (.t 47), []⟩, ⟨some 49, (some (45, false)), .ld 1 false (.t 48), []⟩, ⟨some 50, (some (45, false)), .bi .lss .i64 (.t 49) (.k (.int .i64 56320)), []⟩, ⟨some 51, none, .pick (.t 45) (.k (.bool true)) (.t 50), []⟩, ⟨some 52, none, .mv (.t 51), []⟩, ⟨some 53, (some (52, false)), .mv (.t 0), []⟩, ⟨some 54, (some (52, false)), .mv (.t 5), []⟩, ⟨some 55, (some (52, false)), .ia 1 (.t 53) (.t 54), []⟩, ⟨some 56, (some (52, false)), .ld 1 false (.t 55), []⟩, ⟨some 57, (some (52, false)), .bi .gtr .i64 (.t 56) (.k (.int .i64 57343)), []⟩, ⟨some 58, none, .pick (.t 52) (.k (.bool true)) (.t 57), []⟩])
 (.cond (.t 58) (.seq (.reg [] [⟨some 2, none, .mv (.k (.str [])), []⟩, ⟨some 3, none, .mv (.k (.bool false)), []⟩])
 (.ret)) (.skip)))
 (.reg [] [⟨some 59, none, .mv (.t 6), []⟩, ⟨some 60, none, .bi .sub .i64 (.t 59) (.k (.int .i64 55296)), []⟩, ⟨some 61, none, .bi .mul .i64 (.k (.int .i64 1024)) (.t 60), []⟩, ⟨some 62, none, .bi .add .i64 (.k (.int .i64 65536)) (.t 61), []⟩, ⟨some 63, none, .mv (.t 0), []⟩, ⟨some 64, none, .mv (.t 5), []⟩, ⟨some 65, none, .ia 1 (.t 63) (.t 64), []⟩, ⟨some 66, none, .ld 1 false (.t 65), []⟩, ⟨some 67, none, .bi .add .i64 (.t 62) (.t 66), []⟩, ⟨some 68, none, .bi .sub .i64 (.t 67) (.k (.int .i64 56320)), []⟩, ⟨some 6, none, .mv (.t 68), []⟩]))) (.skip))))))
 (.reg [] [⟨some 69, none, .mv (.t 4), []⟩, ⟨some 70, none, .mv (.t 6), []⟩, ⟨some 71, none, .cvi .i32 (.t 70), []⟩, ⟨some 72, none, .call 155 [(.t 69), (.t 71)], []⟩, ⟨some 4, none, .mv (.t 72), []⟩]))))
 (.reg [] [⟨some 11, none, .mv (.t 5), []⟩, ⟨some 12, none, .bi .add .i64 (.t 11) (.k (.int .i64 1)), []⟩, ⟨some 5, none, .mv (.t 12), []⟩]))))))
 (.seq (.reg [] [⟨some 73, none, .mv (.t 4), []⟩, ⟨some 74, none, .cvb2s (.t 73), []⟩, ⟨some 2, none, .mv (.t 74), []⟩, ⟨some 3, none, .mv (.k (.bool true)), []⟩])
 (.ret))))⟩
theorem ck147 : chkFn Tryd.prog 147 ir147 = true := by kernel_rfl
def ir155 : AFn := ⟨16, 2, [.t 4], .seq (.reg [] [⟨some 4, none, .mv (.k (.sl .nil 1 [])), []⟩])
 (.seq (.seq (.reg [] [⟨some 5, none, .mv (.t 1), []⟩, ⟨some 6, none, .cvi .u32 (.t 5), []⟩, ⟨some 7, none, .bi .leq .u32 (.t 6) (.k (.int .u32 127)), []⟩])
 (.cond (.t 7) (.seq (.reg [] [⟨some 8, none, .mv (.t 0), []⟩, ⟨some 9, none, .mv (.t 1), []⟩, ⟨some 10, none, .cvi .u8 (.t 9), []⟩, ⟨some 11, none, .bls 1 1 [.int .u8 0] [(0, (.t 10))], []⟩, ⟨some 12, none, .app 1 1 (.t 8) (.t 11), []⟩, ⟨some 4, none, .mv (.t 12), []⟩])
 (.ret)) (.skip)))
 (.seq (.reg [] [⟨some 13, none, .mv (.t 0), []⟩, ⟨some 14, none, .mv (.t 1), []⟩, ⟨some 15, none, .call 162 [(.t 13), (.t 14)], []⟩, ⟨some 4, none, .mv (.t 15), []⟩])
 (.ret)))⟩
theorem ck155 : chkFn Tryd.prog 155 ir155 = true := by kernel_rfl
def ir162 : AFn := ⟨78, 2, [.t 4], .seq (.reg [] [⟨some 4, none, .mv (.k (.sl .nil 1 [])), []⟩])
 (.seq (.reg [] [⟨some 6, none, .mv (.t 1), []⟩, ⟨some 7, none, .cvi .u32 (.t 6), []⟩, ⟨some 5, none, .mv (.t 7), []⟩])
 (.block 0 (.seq (.reg [] [⟨some 12, none, .mv (.t 5), []⟩, ⟨some 13, none, .bi .leq .u32 (.t 12) (.k (.int .u32 2047)), []⟩, ⟨some 11, none, .mv (.t 13), []⟩])
 (.cond (.t 11) (.seq (.reg [] [⟨some 14, none, .mv (.t 0), []⟩, ⟨some 15, none, .mv (.t 1), []⟩, ⟨some 16, none, .shf .shr (.t 15) (.k (.int .u64 6)), []⟩, ⟨some 17, none, .cvi .u8 (.t 16), []⟩, ⟨some 18, none, .bi .or .u8 (.k (.int .u8 192)) (.t 17), []⟩, ⟨some 19, none, .mv (.t 1), []⟩, ⟨some 20, none, .cvi .u8 (.t 19), []⟩, ⟨some 21, none, .bi .and .u8 (.t 20) (.k (.int .u8 63)), []⟩, ⟨some 22, none, .bi .or .u8 (.k (.int .u8 128)) (.t 21), []⟩, ⟨some 23, none, .bls 1 2 [.int .u8 0] [(0, (.t 18)), (1, (.t 22))], []⟩, ⟨some 24, none, .app 1 1 (.t 14) (.t 23), []⟩, ⟨some 4, none, .mv (.t 24), []⟩])
 (.ret)) (.seq (.seq (.reg [] [⟨some 26, none, .mv (.t 5), []⟩, ⟨some 27, none, .bi .lss .u32 (.t 26) (.k (.int .u32 55296)), []⟩, ⟨some 25, none, .mv (.t 27), []⟩])
 (.cond (.t 25) (.skip) (.reg [] [⟨some 28, none, .mv (.t 5), []⟩, ⟨some 29, none, .bi .lss .u32 (.k (.int .u32 57343)) (.t 28), []⟩, ⟨some 30, none, .mv (.t 29), []⟩, ⟨some 31, (some (30, true)), .mv (.t 5), []⟩, ⟨some 32, (some (30, true)), .bi .leq .u32 (.t 31) (.k (.int .u32 65535)), []⟩, ⟨some 33, none, .pick (.t 30) (.t 32) (.k (.bool false)), []⟩, ⟨some 25, none, .mv (.t 33), []⟩])))
 (.cond (.t 25) (.seq (.reg [] [⟨some 34, none, .mv (.t 0), []⟩, ⟨some 35, none, .mv (.t 1), []⟩, ⟨some 36, none, .shf .shr (.t 35) (.k (.int .u64 12)), []⟩, ⟨some 37, none, .cvi .u8 (.t 36), []⟩, ⟨some 38, none, .bi .or .u8 (.k (.int .u8 224)) (.t 37), []⟩, ⟨some 39, none, .mv (.t 1), []⟩, ⟨some 40, none, .shf .shr (.t 39) (.k (.int .u64 6)), []⟩, ⟨some 41, none, .cvi .u8 (.t 40), []⟩, ⟨some 42, none, .bi .and .u8 (.t 41) (.k (.int .u8 63)), []⟩, ⟨some 43, none, .bi .or .u8 (.k (.int .u8 128)) (.t 42), []⟩, ⟨some 44, none, .mv (.t 1), []⟩, ⟨some 45, none, .cvi .u8 (.t 44), []⟩, ⟨some 46, none, .bi .and .u8 (.t 45) (.k (.int .u8 63)), []⟩, ⟨some 47, none, .bi .or .u8 (.k (.int .u8 128)) (.t 46), []⟩, ⟨some 48, none, .bls 1 3 [.int .u8 0] [(0, (.t 38)), (1, (.t 43)), (2, (.t 47))], []⟩, ⟨some 49, none, .app 1 1 (.t 34) (.t 48), []⟩, ⟨some 4, none, .mv (.t 49), []⟩])
 (.ret)) (.seq (.reg [] [⟨some 51, none, .mv (.t 5), []⟩, ⟨some 52, none, .bi .gtr .u32 (.t 51) (.k (.int .u32 65535)), []⟩, ⟨some 53, none, .mv (.t 52), []⟩, ⟨some 54, (some (53, true)), .mv (.t 5), []⟩, ⟨some 55, (some (53, true)), .bi .leq .u32 (.t 54) (.k (.int .u32 1114111)), []⟩, ⟨some 56, none, .pick (.t 53) (.t 55) (.k (.bool false)), []⟩, ⟨some 50, none, .mv (.t 56), []⟩])
 (.cond (.t 50) (.seq (.reg [] [⟨some 57, none, .mv (.t 0), []⟩, ⟨some 58, none, .mv (.t 1), []⟩, ⟨some 59, none, .shf .shr (.t 58) (.k (.int .u64 18)), []⟩, ⟨some 60, none, .cvi .u8 (.t 59), []⟩, ⟨some 61, none, .bi .or .u8 (.k (.int .u8 240)) (.t 60), []⟩, ⟨some 62, none, .mv (.t 1), []⟩, ⟨some 63, none, .shf .shr (.t 62) (.k (.int .u64 12)), []⟩, ⟨some 64, none, .cvi .u8 (.t 63), []⟩, ⟨some 65, none, .bi .and .u8 (.t 64) (.k (.int .u8 63)), []⟩, ⟨some 66, none, .bi .or .u8 (.k (.int .u8 128)) (.t 65), []⟩, ⟨some 67, none, .mv (.t 1), []⟩, ⟨some 68, none, .shf .shr (.t 67) (.k (.int .u64 6)), []⟩, ⟨some 69, none, .cvi .u8 (.t 68), []⟩, ⟨some 70, none, .bi .and .u8 (.t 69) (.k (.int .u8 63)), []⟩, ⟨some 71, none, .bi .or .u8 (.k (.int .u8 128)) (.t 70), []⟩, ⟨some 72, none, .mv (.t 1), []⟩, ⟨some 73, none, .cvi .u8 (.t 72), []⟩, ⟨some 74, none, .bi .and .u8 (.t 73) (.k (.int .u8 63)), []⟩, ⟨some 75, none, .bi .or .u8 (.k (.int .u8 128)) (.t 74), []⟩, ⟨some 76, none, .bls 1 4 [.int .u8 0] [(0, (.t 61)), (1, (.t 66)), (2, (.t 71)), (3, (.t 75))], []⟩, ⟨some 77, none, .app 1 1 (.t 57) (.t 76), []⟩, ⟨some 4, none, .mv (.t 77), []⟩])
 (.ret)) (.seq (.reg [] [⟨some 8, none, .mv (.t 0), []⟩, ⟨some 9, none, .bls 1 3 [.int .u8 0] [(0, (.k (.int .u8 239))), (1, (.k (.int .u8 191))), (2, (.k (.int .u8 189)))], []⟩, ⟨some 10, none, .app 1 1 (.t 8) (.t 9), []⟩, ⟨some 4, none, .mv (.t 10), []⟩])
 (.ret))))))))))⟩
theorem ck162 : chkFn Tryd.prog 162 ir162 = true := by kernel_rfl
end Go.Proofs.YtpjafglhdlfnbaaDoor
namespace Go.Proofs.YtpjafglhdlfnbaaDoor
open Go.Ab
mutual
inductive Val where
  | mk (k n : Int) (s : List UInt8) (l : List Val) (m : List Mem)
inductive Mem where
  | mk (name : List UInt8) (v : Val)
end
mutual
def cV : Val → List AV
  | .mk k n s l m => [.int .i64 k, .int .i64 n, .str s, .sl .no 5 (cVs l), .sl .no 6 (cMs m)]
def cVs : List Val → List (List AV)
  | [] => []
  | v :: r => cV v :: cVs r
def cM : Mem → List AV
  | .mk s v => .str s :: cV v
def cMs : List Mem → List (List AV)
  | [] => []
  | x :: r => cM x :: cMs r
end
theorem cVs_map : ∀ l, cVs l = l.map cV
  | [] => rfl
  | v :: r => by rw [cVs, cVs_map r]; rfl
theorem cMs_map : ∀ l, cMs l = l.map cM
  | [] => rfl
  | v :: r => by rw [cMs, cMs_map r]; rfl
theorem cVs_len (l : List Val) : (cVs l).length = l.length := by rw [cVs_map]; simp
theorem cMs_len (l : List Mem) : (cMs l).length = l.length := by rw [cMs_map]; simp
theorem cVs_get {l a : List Val} {x : Val} {b : List Val} (h : l = a ++ x :: b) : (cVs l).getD a.length [] = cV x := by rw [cVs_map, getD_mid' h]
theorem cMs_get {l a : List Mem} {x : Mem} {b : List Mem} (h : l = a ++ x :: b) : (cMs l).getD a.length [] = cM x := by rw [cMs_map, getD_mid' h]
theorem cV_mk (k n : Int) (s : List UInt8) (l : List Val) (m : List Mem) : cV (.mk k n s l m) = [.int .i64 k, .int .i64 n, .str s, .sl .no 5 (cVs l), .sl .no 6 (cMs m)] := rfl
theorem cM_mk (s : List UInt8) (v : Val) : cM (.mk s v) = .str s :: cV v := rfl
theorem cV_strip (v : Val) : (cV v).map AV.strip1 = cV v := by cases v; rfl
mutual
theorem Val.ind {P : Val → Prop} (h : ∀ k n s l m, (∀ v ∈ l, P v) → (∀ s v, Mem.mk s v ∈ m → P v) → P (.mk k n s l m)) : ∀ v, P v
  | .mk k n s l m => h k n s l m (Val.indL h l) (fun s v hm => Val.indM h m s v hm)
theorem Val.indL {P : Val → Prop} (h : ∀ k n s l m, (∀ v ∈ l, P v) → (∀ s v, Mem.mk s v ∈ m → P v) → P (.mk k n s l m)) : ∀ l : List Val, ∀ v ∈ l, P v
  | [], _, hv => by cases hv
  | x :: r, v, hv => (List.mem_cons.1 hv).elim (fun e => e ▸ Val.ind h x) (Val.indL h r v)
theorem Val.ind1 {P : Val → Prop} (h : ∀ k n s l m, (∀ v ∈ l, P v) → (∀ s v, Mem.mk s v ∈ m → P v) → P (.mk k n s l m)) : ∀ m : Mem, ∀ s v, m = .mk s v → P v
  | .mk s v, s', v', e => by cases e; exact Val.ind h v
theorem Val.indM {P : Val → Prop} (h : ∀ k n s l m, (∀ v ∈ l, P v) → (∀ s v, Mem.mk s v ∈ m → P v) → P (.mk k n s l m)) : ∀ l : List Mem, ∀ s v, Mem.mk s v ∈ l → P v
  | [], _, _, hv => by cases hv
  | x :: r, s, v, hv => (List.mem_cons.1 hv).elim (fun e => Val.ind1 h x s v e.symm) (Val.indM h r s v)
end
theorem cV_len (v : Val) : (cV v).length = 5 := by cases v; rfl
theorem cM_len (x : Mem) : (cM x).length = 6 := by cases x with | mk s v => cases v; rfl
theorem cV_take (v : Val) : (cV v).take 5 = cV v := by cases v; rfl
theorem cM_take (x : Mem) : (cM x).take 6 = cM x := by cases x with | mk s v => cases v; rfl
theorem cV_splice (a b c d e : AV) (v : Val) : splice [a, b, c, d, e] 0 (cV v) = cV v := by cases v; rfl
theorem cM_splice (a b c d e f : AV) (x : Mem) : splice [a, b, c, d, e, f] 0 (cM x) = cM x := by cases x with | mk s v => cases v; rfl
mutual
def bV : Val → Nat
  | .mk _ _ s l m => 1 + s.length + bVs l + bMs m
def bVs : List Val → Nat
  | [] => 0
  | v :: r => bV v + bVs r
def bM : Mem → Nat
  | .mk s v => s.length + bV v
def bMs : List Mem → Nat
  | [] => 0
  | x :: r => bM x + bMs r
end
theorem bV_pos (v : Val) : 1 ≤ bV v := by cases v; simp only [bV]; omega
theorem bM_pos (v : Mem) : 1 ≤ bM v := by cases v with | mk s v => have := bV_pos v; simp only [bM]; omega
theorem bVs_len : ∀ l, l.length ≤ bVs l
  | [] => by simp
  | v :: r => by have := bVs_len r; have := bV_pos v; simp only [bVs, List.length_cons]; omega
theorem bMs_len : ∀ l, l.length ≤ bMs l
  | [] => by simp
  | v :: r => by have := bMs_len r; have := bM_pos v; simp only [bMs, List.length_cons]; omega
theorem bVs_mid (a : List Val) (x : Val) (b : List Val) : bVs (a ++ x :: b) = bVs a + bV x + bVs b := by
  induction a with
  | nil => simp [bVs]
  | cons y a ih => simp only [List.cons_append, bVs, ih]; omega
theorem bMs_mid (a : List Mem) (x : Mem) (b : List Mem) : bMs (a ++ x :: b) = bMs a + bM x + bMs b := by
  induction a with
  | nil => simp [bMs]
  | cons y a ih => simp only [List.cons_append, bMs, ih]; omega
abbrev Lim : Nat := 1099511627776
theorem sizeC : ∀ v, bV v ≤ Lim → Pure Tryd.prog 16 [.agg (cV v)] (.int .i64 (bV v)) := by
  refine Val.ind fun k n s l m ihl ihm hb => ?_
  refine Pure.go ir16 ck16 (Nat.le_refl _) fun KP Q hQ => ?_
  have hl := cVs_len l
  have hm := cMs_len m
  have hll := bVs_len l
  have hml := bMs_len m
  have hb' : 1 + s.length + bVs l + bMs m ≤ Lim := hb
  simp only [Lim] at hb'
  simp (disch := first | omega | assumption) only [ir16, cV_mk, wrap64, go_sem, ↓reduceIte]
  refine goL_range l 4 (fun n : Int => [(3, .int .i64 n)]) (fun done rest n H => n + bVs rest = 1 + s.length + bVs l ∧ H = Heap.emp) (1 + s.length) (by simp (disch := first | omega | assumption) only [go_sem, ↓reduceIte]) ⟨by omega, rfl⟩ ?_ ?_
  · rintro n H J ⟨hn, rfl⟩ hlt
    simp only [bVs] at hn
    simp (disch := first | omega | assumption) only [hl, hlt, go_sem, ↓reduceIte]
    refine goL_range m 5 (fun n : Int => [(3, .int .i64 n)]) (fun done rest n H => n + bMs rest = 1 + s.length + bVs l + bMs m ∧ H = Heap.emp) n (by simp (disch := first | omega | assumption) only [go_sem, ↓reduceIte]) ⟨by omega, rfl⟩ ?_ ?_
    · rintro n H J ⟨hn, rfl⟩ hlt
      simp only [bMs] at hn
      simp (disch := first | omega | assumption) only [hm, hlt, go_sem, ↓reduceIte]
      have : n = ((bV (.mk k n s l m) : Nat) : Int) := by simp only [bV]; omega
      exact hQ _ _ _ _ nofun rfl (by simp [tupOf, envOf, AV.strip, AV.strip1, bV, this])
    · rintro done x rest n H J hd hlt _ ⟨hn, rfl⟩ hJ
      have hg := cMs_get hd
      have hbm := bMs_mid done x rest
      rw [← hd] at hbm
      cases x with
      | mk t v =>
      simp only [bMs, bM] at hn hbm
      simp (disch := first | omega | assumption) only [cV_len, cV_take, cV_splice, cM_len, cM_take, cM_splice, cM_mk, hm, hlt, hg, wrap64, go_sem, ↓reduceIte]
      refine goK_pure (ihm t v (by rw [hd]; simp) (by simp only [Lim]; omega)) ?_
      simp (disch := first | omega | assumption) only [hl, hm, hlt, hg, cM_mk, wrap64, go_sem, ↓reduceIte]
      refine goJ (hJ (n + t.length + bV v) Heap.emp ⟨by omega, rfl⟩) (by simp (disch := first | omega | assumption) only [go_sem, ↓reduceIte])
  · rintro done x rest n H J hd hlt _ ⟨hn, rfl⟩ hJ
    have hg := cVs_get hd
    have hbm := bVs_mid done x rest
    rw [← hd] at hbm
    simp only [bVs] at hn
    simp (disch := first | omega | assumption) only [cV_len, cV_take, cV_splice, cM_len, cM_take, cM_splice, cM_mk, hl, hlt, hg, go_sem, ↓reduceIte]
    refine goK_pure (ihl x (by rw [hd]; simp) (by simp only [Lim]; omega)) ?_
    simp (disch := first | omega | assumption) only [wrap64, go_sem, ↓reduceIte]
    refine goJ (hJ (n + bV x) Heap.emp ⟨by omega, rfl⟩) (by simp (disch := first | omega | assumption) only [go_sem, ↓reduceIte])
noncomputable def eqd {α : Type} (a b : α) : Bool := @decide (a = b) (Classical.propDecidable _)
theorem eqd_true {α : Type} {a b : α} (h : a = b) : eqd a b = true := by simp [eqd, h]
theorem eqd_false {α : Type} {a b : α} (h : a ≠ b) : eqd a b = false := by simp [eqd, h]
theorem two_mid {α : Type} {a b done rest : List α} {x : α} (h : a = done ++ x :: rest) (hl : a.length = b.length) (hp : b.take done.length = done) : ∃ y r, b = done ++ y :: r := by
  have h1 : done.length < b.length := by rw [← hl, h]; simp
  refine ⟨b[done.length], b.drop (done.length + 1), ?_⟩
  conv => lhs; rw [← List.take_append_drop done.length b, hp, List.drop_eq_getElem_cons h1]
theorem two_step {α : Type} {b done r : List α} {y : α} (h : b = done ++ y :: r) : b.take (done ++ [y]).length = done ++ [y] := by
  subst h
  have e : done ++ y :: r = (done ++ [y]) ++ r := by simp
  rw [e, List.take_left']; rfl
theorem two_end {α : Type} {a b : List α} (hl : a.length = b.length) (hp : b.take a.length = a) : a = b := by
  rw [hl, List.take_length] at hp; exact hp.symm
theorem two_ne {α : Type} {a b done rest r : List α} {x y : α} (h : a = done ++ x :: rest) (h' : b = done ++ y :: r) (hxy : x ≠ y) : a ≠ b := fun e => by
  rw [h, h'] at e
  exact hxy (List.cons.inj (List.append_cancel_left e)).1
end Go.Proofs.YtpjafglhdlfnbaaDoor
namespace Go.Proofs.YtpjafglhdlfnbaaDoor
open Go.Ab
mutual
def depthV : Val → Int
  | .mk k _ _ l m => if k = 6 then depthVs l 0 + 1 else if k = 7 then depthMs m 0 + 1 else 0
def depthVs : List Val → Int → Int
  | [], n => n
  | v :: r, n => depthVs r (mm2 true n (depthV v))
def depthM : Mem → Int
  | .mk _ v => depthV v
def depthMs : List Mem → Int → Int
  | [], n => n
  | x :: r, n => depthMs r (mm2 true n (depthM x))
end
def zV : Val := .mk 0 0 [] [] []
theorem intP (n : Int) : Pure Tryd.prog 21 [.int .i64 n] (.agg (cV (.mk 2 n [] [] []))) := by
  refine Pure.go ir21 ck21 (Nat.le_refl _) fun KP Q hQ => ?_
  simp (disch := first | omega | assumption) only [ir21, go_sem, ↓reduceIte]
  refine goA_intro fun b hb => ?_
  simp (disch := first | omega | assumption) only [go_sem, ↓reduceIte]
  exact hQ _ _ _ [.agg [.int .i64 2, .int .i64 n, .str [], .sl .nil 5 [], .sl .nil 6 []]] nofun (by simp (disch := first | omega | assumption) only [ir21, resvs, resv, go_sem, ↓reduceIte]) rfl
theorem textP (t : List UInt8) : Pure Tryd.prog 23 [.str t] (.agg (cV (.mk 4 0 t [] []))) := by
  refine Pure.go ir23 ck23 (Nat.le_refl _) fun KP Q hQ => ?_
  simp (disch := first | omega | assumption) only [ir23, go_sem, ↓reduceIte]
  refine goA_intro fun b hb => ?_
  simp (disch := first | omega | assumption) only [go_sem, ↓reduceIte]
  exact hQ _ _ _ [.agg [.int .i64 4, .int .i64 0, .str t, .sl .nil 5 [], .sl .nil 6 []]] nofun (by simp (disch := first | omega | assumption) only [ir23, resvs, resv, go_sem, ↓reduceIte]) rfl
def getV (t : List UInt8) : List Mem → Val × Bool
  | [] => (zV, false)
  | .mk s v :: r => if s = t then (v, true) else getV t r
theorem getP (t : List UInt8) (m : List Mem) (hb : m.length ≤ Lim) : Pure Tryd.prog 18 [.str t, .sl .no 6 (cMs m)] (.tup [.agg (cV (getV t m).1), .bool (getV t m).2]) := by
  refine Pure.go ir18 ck18 (Nat.le_refl _) fun KP Q hQ => ?_
  have hm := cMs_len m
  simp only [Lim] at hb
  simp (disch := first | omega | assumption) only [ir18, go_sem, ↓reduceIte]
  refine goA_intro fun b hb => ?_
  simp (disch := first | omega | assumption) only [hm, go_sem, ↓reduceIte]
  refine goL_range m 10 (fun _ : Unit => []) (fun done rest n H => getV t rest = getV t m ∧ H b = some (.cells [.int .i64 0, .int .i64 0, .str [], .sl .nil 5 [], .sl .nil 6 []])) () (by simp (disch := first | omega | assumption) only [go_sem, ↓reduceIte]) ⟨rfl, by simp [Heap.upd]⟩ ?_ ?_
  · rintro n H J ⟨hn, hH⟩ hlt
    simp (disch := first | omega | assumption) only [hm, hlt, hH, go_sem, ↓reduceIte]
    refine hQ _ _ _ [.agg [.int .i64 0, .int .i64 0, .str [], .sl .nil 5 [], .sl .nil 6 []], .bool false] nofun (by simp (disch := first | omega | assumption) only [ir18, resvs, resv, go_sem, ↓reduceIte]) ?_
    rw [← hn]
    rfl
  · rintro done x rest n H J hd hlt _ ⟨hn, hH⟩ hJ
    have hg := cMs_get hd
    cases x with
    | mk s v =>
    simp only [getV] at hn
    simp (disch := first | omega | assumption) only [cV_len, cV_take, cV_splice, cM_len, cM_take, cM_splice, cM_mk, hm, hlt, hg, go_sem, ↓reduceIte]
    refine goA_intro fun b2 hb2 => ?_
    have hne := ne_of_none hb2 hH
    by_cases hs : s = t
    · simp (disch := first | omega | assumption) only [cV_len, cV_take, cV_splice, cM_len, cM_take, cM_splice, cM_mk, hs, hH, Ne.symm hne, hne, go_sem, ↓reduceIte]
      simp only [hs, if_true] at hn
      refine hQ _ _ _ [.agg (cV v), .bool true] nofun (by simp (disch := first | omega | assumption) only [cV_len, cV_take, cV_splice, cM_len, cM_take, cM_splice, cM_mk, ir18, resvs, resv, go_sem, ↓reduceIte]) ?_
      rw [← hn]
      simp [tupOf, AV.strip, AV.strip1, cV_strip]
    · simp (disch := first | omega | assumption) only [cV_len, cV_take, cV_splice, cM_len, cM_take, cM_splice, cM_mk, hs, go_sem, ↓reduceIte]
      simp only [hs, if_false] at hn
      exact goJ (hJ () _ ⟨hn, by simp [Heap.upd, Ne.symm hne, hH]⟩) (by simp (disch := first | omega | assumption) only [wrap64, go_sem, ↓reduceIte])
end Go.Proofs.YtpjafglhdlfnbaaDoor
namespace Go.Proofs.YtpjafglhdlfnbaaDoor
open Go.Ab
end Go.Proofs.YtpjafglhdlfnbaaDoor
namespace Go.Proofs.YtpjafglhdlfnbaaDoor
open Go.Ab
theorem membersR (a b : List Mem) (ha : a.length ≤ Lim) (hc : ∀ s v, Mem.mk s v ∈ a → ∀ u, Pure Tryd.prog 20 [.agg (cV v), .agg (cV u)] (.bool (eqd v u))) :
    Pure Tryd.prog 51 [.sl .no 6 (cMs a), .sl .no 6 (cMs b)] (.bool (eqd a b)) := by
  refine Pure.go ir51 ck51 (Nat.le_refl _) fun KP Q hQ => ?_
  have h1 := cMs_len a
  have h2 := cMs_len b
  simp only [Lim] at ha
  by_cases hl : a.length = b.length
  case neg =>
    have hl' : ¬ ((a.length : Int) = b.length) := by omega
    have hne : a ≠ b := fun e => hl (by rw [e])
    simp (disch := first | omega | assumption) only [ir51, h1, h2, hl', go_sem, ↓reduceIte]
    exact hQ _ _ _ _ nofun rfl (by simp [tupOf, envOf, AV.strip, AV.strip1, eqd_false hne])
  have hl' : ((a.length : Int) = b.length) = True := eq_true (by omega)
  simp (disch := first | omega | assumption) only [ir51, h1, h2, hl', go_sem, ↓reduceIte]
  refine goL_range a 5 (fun _ : Unit => []) (fun done rest n H => b.take done.length = done) () (by simp (disch := first | omega | assumption) only [go_sem, ↓reduceIte]) rfl ?_ ?_
  · rintro n H J hp hlt
    simp (disch := first | omega | assumption) only [h1, hlt, go_sem, ↓reduceIte]
    exact hQ _ _ _ _ nofun rfl (by simp [tupOf, envOf, AV.strip, AV.strip1, eqd_true (two_end hl hp)])
  · rintro done x rest n H J hd hlt _ hp hJ
    obtain ⟨y, r, hb⟩ := two_mid hd hl hp
    have g1 := cMs_get hd
    have g2 := cMs_get hb
    have hlt2 : (done.length : Int) < b.length := by omega
    have hmem : x ∈ a := by rw [hd]; simp
    have hst := two_step hb
    have hne : x ≠ y → a ≠ b := two_ne hd hb
    obtain ⟨s, v⟩ := x
    obtain ⟨t, u⟩ := y
    by_cases hs : s = t
    case neg =>
      have hne2 := hne (by simp [hs])
      simp (disch := first | omega | assumption) only [cV_len, cV_take, cV_splice, cM_len, cM_take, cM_splice, cM_mk, h1, h2, hlt, hlt2, g1, g2, hs, go_sem, ↓reduceIte]
      exact hQ _ _ _ _ nofun rfl (by simp [tupOf, envOf, AV.strip, AV.strip1, eqd_false hne2])
    simp (disch := first | omega | assumption) only [cV_len, cV_take, cV_splice, cM_len, cM_take, cM_splice, cM_mk, h1, h2, hlt, hlt2, g1, g2, hs, go_sem, ↓reduceIte]
    refine goK_pure (hc s v hmem u) ?_
    by_cases hv : v = u
    · simp (disch := first | omega | assumption) only [eqd_true hv, go_sem, ↓reduceIte]
      exact goJ (hJ () _ (by rw [hs, hv]; exact hst)) (by simp (disch := first | omega | assumption) only [wrap64, go_sem, ↓reduceIte])
    · have := hne (by simp [hv])
      simp (disch := first | omega | assumption) only [eqd_false hv, go_sem, ↓reduceIte]
      exact hQ _ _ _ _ nofun rfl (by simp [tupOf, envOf, AV.strip, AV.strip1, eqd_false this])
theorem sameR : ∀ v, bV v ≤ Lim → ∀ u, Pure Tryd.prog 20 [.agg (cV v), .agg (cV u)] (.bool (eqd v u)) := by
  refine Val.ind fun k n s l m ihl ihm hb u => ?_
  obtain ⟨k', n', s', l', m'⟩ := u
  have hb' : 1 + s.length + bVs l + bMs m ≤ Lim := hb
  have hll := bVs_len l
  have hml := bMs_len m
  have il : ∀ x ∈ l, ∀ y, Pure Tryd.prog 20 [.agg (cV x), .agg (cV y)] (.bool (eqd x y)) := fun x hx y => by
    obtain ⟨a, b, hd⟩ := List.append_of_mem hx
    have := bVs_mid a x b
    rw [← hd] at this
    exact ihl x hx (by omega) y
  have im : ∀ s v, Mem.mk s v ∈ m → ∀ u, Pure Tryd.prog 20 [.agg (cV v), .agg (cV u)] (.bool (eqd v u)) := fun t v hx u => by
    obtain ⟨a, b, hd⟩ := List.append_of_mem hx
    have := bMs_mid a (.mk t v) b
    rw [← hd] at this
    simp only [bM] at this
    exact ihm t v hx (by omega) u
  refine Pure.go ir20 ck20 (Nat.le_refl _) fun KP Q hQ => ?_
  have hlb := cVs_len l
  have hlb' := cVs_len l'
  by_cases h1 : k = k'
  case neg =>
    have hne : ¬ (Val.mk k n s l m = Val.mk k' n' s' l' m') := by simp [h1]
    simp (disch := first | omega | assumption) only [ir20, cV_mk, h1, go_sem, ↓reduceIte]
    exact hQ _ _ _ _ nofun rfl (by simp [tupOf, envOf, AV.strip, AV.strip1, eqd_false hne])
  by_cases h2 : n = n'
  case neg =>
    have hne : ¬ (Val.mk k n s l m = Val.mk k' n' s' l' m') := by simp [h2]
    simp (disch := first | omega | assumption) only [ir20, cV_mk, h1, h2, go_sem, ↓reduceIte]
    exact hQ _ _ _ _ nofun rfl (by simp [tupOf, envOf, AV.strip, AV.strip1, eqd_false hne])
  by_cases h3 : s = s'
  case neg =>
    have hne : ¬ (Val.mk k n s l m = Val.mk k' n' s' l' m') := by simp [h3]
    simp (disch := first | omega | assumption) only [ir20, cV_mk, h1, h2, h3, go_sem, ↓reduceIte]
    exact hQ _ _ _ _ nofun rfl (by simp [tupOf, envOf, AV.strip, AV.strip1, eqd_false hne])
  by_cases hl : l.length = l'.length
  case neg =>
    have hl' : ¬ ((l.length : Int) = l'.length) := by omega
    have hne : ¬ (Val.mk k n s l m = Val.mk k' n' s' l' m') := by simp only [Val.mk.injEq]; rintro ⟨_, _, _, e, _⟩; exact hl (by rw [e])
    simp (disch := first | omega | assumption) only [ir20, cV_mk, h1, h2, h3, hlb, hlb', hl', go_sem, ↓reduceIte]
    exact hQ _ _ _ _ nofun rfl (by simp [tupOf, envOf, AV.strip, AV.strip1, eqd_false hne])
  have hl' : ((l.length : Int) = l'.length) = True := eq_true (by omega)
  simp (disch := first | omega | assumption) only [ir20, cV_mk, h1, h2, h3, hlb, hlb', hl', go_sem, ↓reduceIte]
  simp only [Lim] at hb'
  refine goL_range l 5 (fun _ : Unit => []) (fun done rest n H => l'.take done.length = done) () (by simp (disch := first | omega | assumption) only [go_sem, ↓reduceIte]) rfl ?_ ?_
  · rintro _ H J hp hlt
    have e4 := two_end hl hp
    simp (disch := first | omega | assumption) only [hlb, hlt, go_sem, ↓reduceIte]
    refine goK_pure (membersR m m' (by simp only [Lim]; omega) im) ?_
    simp (disch := first | omega | assumption) only [go_sem, ↓reduceIte]
    have : eqd (Val.mk k n s l m) (Val.mk k' n' s' l' m') = eqd m m' := by
      by_cases h : m = m'
      · rw [eqd_true h, eqd_true (by rw [h1, h2, h3, e4, h])]
      · rw [eqd_false h, eqd_false (by simp [h])]
    exact hQ _ _ _ _ nofun rfl (by simp [tupOf, envOf, AV.strip, AV.strip1, this])
  · rintro done x rest _ H J hd hlt _ hp hJ
    obtain ⟨y, r, hb⟩ := two_mid hd hl hp
    have g1 := cVs_get hd
    have g2 := cVs_get hb
    have hlt2 : (done.length : Int) < l'.length := by omega
    simp (disch := first | omega | assumption) only [cV_len, cV_take, cV_splice, cM_len, cM_take, cM_splice, cM_mk, hlb, hlb', hlt, hlt2, g1, g2, go_sem, ↓reduceIte]
    refine goK_pure (il x (by rw [hd]; simp) y) ?_
    by_cases hxy : x = y
    · simp (disch := first | omega | assumption) only [eqd_true hxy, go_sem, ↓reduceIte]
      exact goJ (hJ () _ (by rw [hxy]; exact two_step hb)) (by simp (disch := first | omega | assumption) only [wrap64, go_sem, ↓reduceIte])
    · have hne : ¬ (Val.mk k n s l m = Val.mk k' n' s' l' m') := by simp only [Val.mk.injEq]; rintro ⟨_, _, _, e, _⟩; exact two_ne hd hb hxy e
      simp (disch := first | omega | assumption) only [eqd_false hxy, go_sem, ↓reduceIte]
      exact hQ _ _ _ _ nofun rfl (by simp [tupOf, envOf, AV.strip, AV.strip1, eqd_false hne])
end Go.Proofs.YtpjafglhdlfnbaaDoor
namespace Go.Proofs.YtpjafglhdlfnbaaDoor
open Go.Ab
end Go.Proofs.YtpjafglhdlfnbaaDoor
namespace Go.Proofs.YtpjafglhdlfnbaaDoor
open Go.Ab
abbrev OwnR (H : Heap) (o : Own) (sz : Nat) (xs : List (List AV)) : AV → Heap → Prop := fun v H' => ∃ o', v = .sl o' sz xs ∧ OwnS H o H' o' xs.length sz
abbrev Gives (P : Program) (f : FuncId) (args : List AV) (H : Heap) (o : Own) (sz : Nat) (xs : List (List AV)) : Prop :=
  ACalls P f args H (fun e H' => match e with | .ret v => OwnR H o sz xs v H' | .pan _ => False)
theorem goK_gives {P : Program} {KP : AV → Heap → Prop} {Q : AExit → Env → Heap → Prop} {st : List Fr} {ρ : Env} {H : Heap} {all l : List AItem} {d : Option Nat} {R : List Chk} {f : FuncId} {args : List AV} {o : Own} {sz : Nat} {xs : List (List AV)}
    (h : Gives P f args H o sz xs) (hk : ∀ o' H', OwnS H o H' o' xs.length sz → goR P KP Q all l st R (ρ.set d (.sl o' sz xs)) H') : goK P KP Q all l st d R ρ f args H :=
  goK_both (XP := fun _ _ => False) h (fun v H' ⟨o', e, hs⟩ => by subst e; exact hk o' H' hs) (fun _ _ h => h.elim)
end Go.Proofs.YtpjafglhdlfnbaaDoor
namespace Go.Proofs.YtpjafglhdlfnbaaDoor
open Go.Ab
def tipOf : Own → Option Nat
  | .tip b _ => some b
  | _ => none
structure Sep (H : Heap) (l : List (Own × Nat × Nat)) : Prop where
  own : ∀ x ∈ l, Owned H x.1 x.2.1 x.2.2
  nd : (l.filterMap fun x => tipOf x.1).Nodup
theorem tipOf_some {o : Own} {b : Nat} (h : tipOf o = some b) : ∃ d, o = .tip b d := by
  cases o <;> simp [tipOf] at h
  rename_i c d; subst h; exact ⟨d, rfl⟩
theorem Owned.ofKept {H H' : Heap} {o o2 : Own} {n sz : Nat} (h : Owned H o n sz) (hk : Kept H o2 H') (hne : ∀ b d d2, o = .tip b d → o2 ≠ .tip b d2) : Owned H' o n sz := by
  cases o with
  | tip b d => exact hk b _ h fun d2 e => hne b d d2 rfl e
  | no => exact h
  | nil => exact h
  | full => exact h
theorem Sep.step {H H' : Heap} {a b : List (Own × Nat × Nat)} {o o' : Own} {n n' sz : Nat} (h : Sep H (a ++ (o, n, sz) :: b)) (h' : OwnS H o H' o' n' sz) : Sep H' (a ++ (o', n', sz) :: b) := by
  have hnd := h.nd
  simp only [List.filterMap_append, List.filterMap_cons] at hnd
  have hother : ∀ x, x ∈ a ∨ x ∈ b → ∀ c d d2, x.1 = .tip c d → o ≠ .tip c d2 := fun x hx c d d2 hxe e => by
    subst e
    simp only [tipOf] at hnd
    rw [List.nodup_append] at hnd
    obtain ⟨_, hb, hab⟩ := hnd
    rcases hx with hx | hx
    · exact hab c (List.mem_filterMap.2 ⟨x, hx, by rw [hxe]⟩) c (List.mem_cons_self ..) rfl
    · exact (List.nodup_cons.1 hb).1 (List.mem_filterMap.2 ⟨x, hx, by rw [hxe]⟩)
  refine ⟨fun x hx => ?_, ?_⟩
  · rcases List.mem_append.1 hx with hx | hx
    · exact Owned.ofKept (h.own x (by simp [hx])) h'.kept fun c d d2 => hother x (.inl hx) c d d2
    · rcases List.mem_cons.1 hx with rfl | hx
      · exact h'.own
      · exact Owned.ofKept (h.own x (by simp [hx])) h'.kept fun c d d2 => hother x (.inr hx) c d d2
  · simp only [List.filterMap_append, List.filterMap_cons]
    have hsub : ∀ c, c ∈ a.filterMap (fun x => tipOf x.1) ∨ c ∈ b.filterMap (fun x => tipOf x.1) → tipOf o' ≠ some c := fun c hc e => by
      obtain ⟨d', e⟩ := tipOf_some e
      have hH : H c ≠ none ∧ ∀ d0, o ≠ .tip c d0 := by
        rcases hc with hc | hc <;> obtain ⟨x, hx, hxe⟩ := List.mem_filterMap.1 hc <;> obtain ⟨d, hxe⟩ := tipOf_some hxe
        · have := h.own x (by simp [hx]); rw [hxe] at this
          have h2 : H c = some _ := this
          exact ⟨by simp [h2], fun d0 => hother x (.inl hx) c d d0 hxe⟩
        · have := h.own x (by simp [hx]); rw [hxe] at this
          have h2 : H c = some _ := this
          exact ⟨by simp [h2], fun d0 => hother x (.inr hx) c d d0 hxe⟩
      rcases h'.new c d' e with h1 | ⟨d0, h1⟩
      · exact hH.1 h1
      · exact hH.2 d0 h1
    have hnd2 : (a.filterMap (fun x => tipOf x.1) ++ b.filterMap (fun x => tipOf x.1)).Nodup := by
      cases ho : tipOf o with
      | none => rw [ho] at hnd; exact hnd
      | some c =>
        rw [ho] at hnd
        rw [List.nodup_append] at hnd ⊢
        exact ⟨hnd.1, (List.nodup_cons.1 hnd.2.1).2, fun x hx y hy => hnd.2.2 x hx y (List.mem_cons_of_mem _ hy)⟩
    cases ho : tipOf o' with
    | none => exact hnd2
    | some c =>
      have hc := hsub c
      rw [List.nodup_append] at hnd2 ⊢
      refine ⟨hnd2.1, List.nodup_cons.2 ⟨fun hm => hc (.inr hm) ho, hnd2.2.1⟩, fun x hx y hy => ?_⟩
      rcases List.mem_cons.1 hy with rfl | hy
      · exact fun e => hc (.inl (e ▸ hx)) ho
      · exact hnd2.2.2 x hx y hy
theorem Sep.mono {H H' : Heap} {l : List (Own × Nat × Nat)} (h : Sep H l) (hk : ∀ c n sz, H c = some (.tip n sz) → H' c = some (.tip n sz)) : Sep H' l :=
  ⟨fun x hx => by
    have := h.own x hx
    obtain ⟨o, n, sz⟩ := x
    cases o with
    | tip c d => exact hk c _ _ this
    | no => exact this
    | nil => exact this
    | full => exact this, h.nd⟩
end Go.Proofs.YtpjafglhdlfnbaaDoor
namespace Go.Proofs.YtpjafglhdlfnbaaDoor
open Go.Ab Go.RowKit Go.Sort Go.Lib
theorem idxByteC (s : List UInt8) (c : UInt8) : Pure Tryd.prog 109 [.str s, .int .u8 c.toNat] (.int .i64 (Lib.indexByte s c)) := by
  refine Pure.of_calls fun γ w vs ht hv => ?_
  obtain ⟨hl, hr⟩ := hv
  match vs, hl with
  | [v, u], _ =>
    cases hr 0 _ _ rfl rfl
    cases hr 1 _ _ rfl rfl
    refine (Tryd.strings_IndexByte ⟨s.toArray⟩ c.toNat w).mono fun e w' ⟨he, hw⟩ => ⟨hw, _, he, ?_⟩
    have e1 : ((c.toNat : Int)).toNat.toUInt8 = c := by simp
    rw [e1]
    exact .int _ _
theorem containsC1 (s : List UInt8) (c : UInt8) : Pure Tryd.prog 105 [.str s, .str [c]] (.bool (decide (0 ≤ Lib.indexByte s c))) := by
  refine Pure.of_calls fun γ w vs ht hv => ?_
  obtain ⟨hl, hr⟩ := hv
  match vs, hl with
  | [v, u], _ =>
    cases hr 0 _ _ rfl rfl
    cases hr 1 _ _ rfl rfl
    exact (Tryd.strings_Contains_one ⟨s.toArray⟩ c w).mono fun e w' ⟨he, hw⟩ => ⟨hw, _, he, .bool _⟩
end Go.Proofs.YtpjafglhdlfnbaaDoor
namespace Go.Proofs.YtpjafglhdlfnbaaDoor
open Go.Ab
def isD (c : UInt8) : Bool := decide (48 ≤ c.toNat) && decide (c.toNat ≤ 57)
def isL (c : UInt8) : Bool := (decide (97 ≤ c.toNat) && decide (c.toNat ≤ 122)) || ((decide (65 ≤ c.toNat) && decide (c.toNat ≤ 90)) || decide (c.toNat = 95))
theorem digitC (c : UInt8) : Pure Tryd.prog 88 [.int .u8 (c.toNat : Int)] (.bool (isD c)) := by
  refine Pure.go ir88 ck88 (Nat.le_refl _) fun KP Q hQ => ?_
  by_cases h : (48 : Int) ≤ c.toNat
  · simp (disch := first | omega | assumption) only [ir88, h, go_sem, ↓reduceIte]
    have h' : 48 ≤ c.toNat := by omega
    have e : decide ((c.toNat : Int) ≤ 57) = decide (c.toNat ≤ 57) := by rw [decide_eq_decide]; omega
    exact hQ _ _ _ _ nofun rfl (by simp [tupOf, envOf, AV.strip, AV.strip1, isD, h', e])
  · simp (disch := first | omega | assumption) only [ir88, h, go_sem, ↓reduceIte]
    have h' : ¬ 48 ≤ c.toNat := by omega
    exact hQ _ _ _ _ nofun rfl (by simp [tupOf, envOf, AV.strip, AV.strip1, isD, h'])
def nameG : List UInt8 → Nat → Bool
  | [], _ => true
  | c :: r, i => if isL c || (decide (i ≠ 0) && isD c) then nameG r (i + 1) else false
def nameM (s : List UInt8) : Bool := nameG s 0 && decide (s ≠ [])
def run1 : List UInt8 → Nat
  | [] => 0
  | c :: r => if isD c then run1 r + 1 else 0
theorem run1_le : ∀ l, run1 l ≤ l.length
  | [] => Nat.le_refl _
  | c :: r => by have := run1_le r; simp only [run1, List.length_cons]; split <;> omega
theorem drop_cases (s : List UInt8) (k : Nat) : (s.drop k = [] ∧ s.length ≤ k) ∨ (k < s.length ∧ s.drop k = s.getD k 0 :: s.drop (k + 1)) := by
  rcases Nat.lt_or_ge k s.length with h | h
  · right
    refine ⟨h, ?_⟩
    rw [List.drop_eq_getElem_cons h]
    simp [h]
  · left; exact ⟨List.drop_of_length_le h, h⟩
theorem digitsC (s : List UInt8) (hs : s.length ≤ Lim) : Pure Tryd.prog 132 [.str s] (.int .i64 (run1 s)) := by
  refine Pure.go ir132 ck132 (Nat.le_refl _) fun KP Q hQ => ?_
  simp only [Lim] at hs
  have hr1 := run1_le s
  simp (disch := first | omega | assumption) only [ir132, go_sem, ↓reduceIte]
  refine goL_st (fun n : Nat => [(3, .int .i64 n)]) (fun n H => run1 s = n + run1 (s.drop n) ∧ n ≤ s.length) (fun n => s.length - n) 0 (by simp (disch := first | omega | assumption) only [go_sem, ↓reduceIte]) ⟨by simp, by omega⟩ ?_
  rintro n H J ⟨hn, hle⟩ hJ
  rcases drop_cases s n with ⟨h1, h2⟩ | ⟨h1, h2⟩
  · have hlt : ¬ ((n : Int) < s.length) := by omega
    rw [h1] at hn
    simp only [run1, Nat.add_zero] at hn
    simp (disch := first | omega | assumption) only [hlt, go_sem, ↓reduceIte]
    exact hQ _ _ _ _ nofun rfl (by simp [tupOf, envOf, AV.strip, AV.strip1, hn])
  · have hlt : ((n : Int) < s.length) := by omega
    rw [h2] at hn
    simp only [run1] at hn
    simp (disch := first | omega | assumption) only [hlt, go_sem, ↓reduceIte]
    refine goK_pure (digitC (s.getD n 0)) ?_
    cases hd : isD (s.getD n 0) with
    | true =>
      simp only [hd, if_true] at hn
      simp (disch := first | omega | assumption) only [hd, go_sem, ↓reduceIte]
      exact goJ (hJ (n + 1) _ (by omega) ⟨by omega, by omega⟩) (by simp (disch := first | omega | assumption) only [wrap64, Int.natCast_add, Int.natCast_one, go_sem, ↓reduceIte])
    | false =>
      simp only [hd, Bool.false_eq_true, if_false, Nat.add_zero] at hn
      simp (disch := first | omega | assumption) only [hd, go_sem, ↓reduceIte]
      exact hQ _ _ _ _ nofun rfl (by simp [tupOf, envOf, AV.strip, AV.strip1, hn])
end Go.Proofs.YtpjafglhdlfnbaaDoor
namespace Go.Proofs.YtpjafglhdlfnbaaDoor
open Go.Ab
theorem prefix1 (c : UInt8) (s : List UInt8) : [c].isPrefixOf s = decide (s.head? = some c) := by
  cases s with
  | nil => rfl
  | cons d r =>
    by_cases h : d = c
    · subst h; simp [List.isPrefixOf]
    · have h' : ¬ c = d := fun e => h e.symm
      simp [List.isPrefixOf, h, h']
def intN (s : List UInt8) : Nat := if run1 s = 0 then 0 else if s.getD 0 0 = 48 then 1 else run1 s
def wholeN (s : List UInt8) : Nat := if s.head? = some 45 then (if run1 s.tail = 0 then 0 else 1 + intN s.tail) else intN s
theorem intN_le (s : List UInt8) : intN s ≤ s.length := by have := run1_le s; unfold intN; split <;> (try split) <;> omega
theorem wholeN_le (s : List UInt8) : wholeN s ≤ s.length := by
  have h1 := intN_le s
  have h2 := intN_le s.tail
  unfold wholeN
  split
  · rename_i h
    cases s with
    | nil => simp at h
    | cons c r =>
      simp only [List.tail_cons, List.length_cons] at h2 ⊢
      by_cases h0 : run1 r = 0 <;> simp only [h0, if_true, if_false] <;> omega
  · exact h1
theorem u8_is (a : UInt8) (n : Nat) (hn : n < 256) : decide ((a.toNat : Int) = n) = decide (a = UInt8.ofNat n) := by
  rw [decide_eq_decide]
  have : (UInt8.ofNat n).toNat = n := by simp [UInt8.toNat_ofNat']; omega
  constructor
  · intro h; apply UInt8.toNat_inj.1; rw [this]; omega
  · intro h; subst h; rw [this]
theorem wholeC (s : List UInt8) (hs : s.length ≤ Lim) : Pure Tryd.prog 131 [.str s] (.int .i64 (wholeN s)) := by
  refine Pure.go ir131 ck131 (Nat.le_refl _) fun KP Q hQ => ?_
  simp only [Lim] at hs
  simp (disch := first | omega | assumption) only [ir131, go_sem, ↓reduceIte]
  refine goK_pure (prefixC s [45]) ?_
  rw [prefix1]
  by_cases h : s.head? = some 45
  · cases s with
    | nil => simp at h
    | cons c r =>
      have hc : c = 45 := by simpa using h
      subst hc
      simp only [List.length_cons] at hs
      have h1 : (1 : Int) ≤ ((r.length + 1 : Nat) : Int) := by omega
      have h2 : (1 : Int) < ((r.length + 1 : Nat) : Int) ∨ r = [] := by cases r <;> simp; omega
      simp (disch := first | omega | assumption) only [h, h1, Int.toNat_one, go_sem, ↓reduceIte]
      refine goK_pure (digitsC r (by simp only [Lim]; omega)) ?_
      by_cases h0 : run1 r = 0
      · simp (disch := first | omega | assumption) only [h0, go_sem, ↓reduceIte]
        exact hQ _ _ _ _ nofun rfl (by simp [tupOf, envOf, AV.strip, AV.strip1, wholeN, h0])
      · have h0' : ¬ ((run1 r : Int) = 0) := by omega
        have hrl := run1_le r
        have hlt : (1 : Int) < ((r.length + 1 : Nat) : Int) := by omega
        have e := u8_is (r.getD 0 0) 48 (by omega)
        by_cases h48 : r.getD 0 0 = 48
        · have hi : intN r = 1 := by simp only [intN, h0, h48, if_false, if_true]
          simp (disch := first | omega | assumption) only [h0', hlt, Int.toNat_one, h48, UInt8.reduceToNat, wrap64, go_sem, ↓reduceIte]
          exact hQ _ _ _ _ nofun rfl (by simp [tupOf, envOf, AV.strip, AV.strip1, wholeN, h0, hi])
        · have h48' : ¬ ((r.getD 0 0).toNat : Int) = 48 := by
            intro hh
            rw [decide_eq_true (by exact hh)] at e
            exact h48 (by simpa using e.symm)
          have hi : intN r = run1 r := by simp only [intN, h0, h48, if_false]
          simp (disch := first | omega | assumption) only [h0', hlt, Int.toNat_one, h48', wrap64, go_sem, ↓reduceIte]
          exact hQ _ _ _ _ nofun rfl (by simp [tupOf, envOf, AV.strip, AV.strip1, wholeN, h0, hi])
  · simp (disch := first | omega | assumption) only [h, go_sem, ↓reduceIte]
    refine goK_pure (digitsC s (by simp only [Lim]; omega)) ?_
    by_cases h0 : run1 s = 0
    · simp (disch := first | omega | assumption) only [h0, go_sem, ↓reduceIte]
      exact hQ _ _ _ _ nofun rfl (by simp [tupOf, envOf, AV.strip, AV.strip1, wholeN, h, intN, h0])
    · have h0' : ¬ ((run1 s : Int) = 0) := by omega
      have hrl := run1_le s
      have hlt : (0 : Int) < (s.length : Int) := by omega
      have e := u8_is (s.getD 0 0) 48 (by omega)
      by_cases h48 : s.getD 0 0 = 48
      · have hi : intN s = 1 := by simp only [intN, h0, h48, if_false, if_true]
        simp (disch := first | omega | assumption) only [h0', hlt, h48, UInt8.reduceToNat, wrap64, go_sem, ↓reduceIte]
        exact hQ _ _ _ _ nofun rfl (by simp [tupOf, envOf, AV.strip, AV.strip1, wholeN, h, hi])
      · have h48' : ¬ ((s.getD 0 0).toNat : Int) = 48 := by
          intro hh
          rw [decide_eq_true (by exact hh)] at e
          exact h48 (by simpa using e.symm)
        have hi : intN s = run1 s := by simp only [intN, h0, h48, if_false]
        simp (disch := first | omega | assumption) only [h0', hlt, h48', wrap64, go_sem, ↓reduceIte]
        exact hQ _ _ _ _ nofun rfl (by simp [tupOf, envOf, AV.strip, AV.strip1, wholeN, h, hi])
def isE (c : UInt8) : Bool := decide (c = 101) || decide (c = 69)
def sgN (r : List UInt8) : Nat := if r.head? = some 43 ∨ r.head? = some 45 then 1 else 0
def powN : List UInt8 → Nat
  | [] => 0
  | c :: r => if isE c then (if run1 (r.drop (sgN r)) = 0 then 0 else 1 + sgN r + run1 (r.drop (sgN r))) else 0
theorem sgN_le (r : List UInt8) : sgN r ≤ r.length := by
  unfold sgN
  split
  · cases r <;> simp_all
  · omega
theorem powN_le : ∀ s, powN s ≤ s.length
  | [] => by simp [powN]
  | c :: r => by
    have h := run1_le (r.drop (sgN r))
    have h2 := sgN_le r
    rw [List.length_drop] at h
    simp only [powN, List.length_cons]
    split
    · split <;> omega
    · omega
theorem powerC (s : List UInt8) (hs : s.length ≤ Lim) : Pure Tryd.prog 133 [.str s] (.int .i64 (powN s)) := by
  refine Pure.go ir133 ck133 (Nat.le_refl _) fun KP Q hQ => ?_
  simp only [Lim] at hs
  cases s with
  | nil =>
    simp (disch := first | omega | assumption) only [ir133, go_sem, ↓reduceIte]
    exact hQ _ _ _ _ nofun rfl (by simp [tupOf, envOf, AV.strip, AV.strip1, powN])
  | cons c r =>
    simp only [List.length_cons] at hs
    have hne : ¬ (c :: r = []) := by simp
    have hp : (0 : Int) < ((r.length + 1 : Nat) : Int) := by omega
    have e1 := u8_is c 101 (by omega)
    have e2 := u8_is c 69 (by omega)
    have hE : ∀ (P : Prop), P → P := fun _ h => h
    by_cases hc : isE c = true
    case neg =>
      have hc1 : ¬ (c.toNat : Int) = 101 := by
        intro hh; rw [decide_eq_true (by exact hh)] at e1
        exact hc (by simp [isE, (by simpa using e1.symm : c = 101)])
      have hc2 : ¬ (c.toNat : Int) = 69 := by
        intro hh; rw [decide_eq_true (by exact hh)] at e2
        exact hc (by simp [isE, (by simpa using e2.symm : c = 69)])
      simp (disch := first | omega | assumption) only [ir133, hne, hp, hc1, hc2, go_sem, ↓reduceIte]
      have hcf : isE c = false := by simpa using hc
      exact hQ _ _ _ _ nofun rfl (by simp [tupOf, envOf, AV.strip, AV.strip1, powN, hcf])
    have fin : ∀ k : Nat, run1 (r.drop (sgN r)) = k → powN (c :: r) = if k = 0 then 0 else 1 + sgN r + k := fun k hk => by subst hk; simp only [powN, hc, if_true]
    have hcase : (c.toNat : Int) = 101 ∨ (¬ (c.toNat : Int) = 101 ∧ (c.toNat : Int) = 69) := by
      simp only [isE, Bool.or_eq_true, decide_eq_true_eq] at hc
      rcases hc with rfl | rfl
      · exact .inl rfl
      · exact .inr ⟨by decide, rfl⟩
    have hdl := run1_le (r.drop (sgN r))
    rw [List.length_drop] at hdl
    have hsl := sgN_le r
    cases r with
    | nil =>
      have k0 := fin 0 (by simp [sgN, run1])
      rcases hcase with h1 | ⟨h1, h2⟩
      · simp (disch := first | omega | assumption) only [ir133, h1, go_sem, ↓reduceIte]
        refine goK_pure (digitsC [] (by simp)) ?_
        simp (disch := first | omega | assumption) only [run1, go_sem, ↓reduceIte]
        exact hQ _ _ _ _ nofun rfl (by simp [tupOf, envOf, AV.strip, AV.strip1, k0])
      · simp (disch := first | omega | assumption) only [ir133, h1, h2, go_sem, ↓reduceIte]
        refine goK_pure (digitsC [] (by simp)) ?_
        simp (disch := first | omega | assumption) only [run1, go_sem, ↓reduceIte]
        exact hQ _ _ _ _ nofun rfl (by simp [tupOf, envOf, AV.strip, AV.strip1, k0])
    | cons d t =>
      simp only [List.length_cons] at hs
      have hl1 : (1 : Int) < ((t.length + 1 + 1 : Nat) : Int) := by omega
      have hl2 : (2 : Int) ≤ ((t.length + 1 + 1 : Nat) : Int) := by omega
      have hl3 : (1 : Int) ≤ ((t.length + 1 + 1 : Nat) : Int) := by omega
      have f1 := u8_is d 43 (by omega)
      have f2 := u8_is d 45 (by omega)
      by_cases hsg : d = 43 ∨ d = 45
      · have hsg1 : sgN (d :: t) = 1 := by simp only [sgN, List.head?_cons, Option.some.injEq, hsg, if_true]
        have k0 := fin (run1 t) (by rw [hsg1]; rfl)
        rw [hsg1] at k0 hdl
        have hd : (d.toNat : Int) = 43 ∨ (¬ (d.toNat : Int) = 43 ∧ (d.toNat : Int) = 45) := by
          rcases hsg with rfl | rfl
          · exact .inl rfl
          · exact .inr ⟨by decide, rfl⟩
        rcases hcase with h1 | ⟨h1, h2⟩ <;> rcases hd with h3 | ⟨h3, h4⟩
        all_goals
          simp only [hl1, hl2, List.length_cons, List.drop_succ_cons, List.drop_zero] at hdl
        · simp (disch := first | omega | assumption) only [ir133, h1, h3, hl1, hl2, Int.toNat_one, go_sem, ↓reduceIte]
          refine goK_pure (digitsC t (by simp only [Lim]; omega)) ?_
          by_cases hz : run1 t = 0
          · simp (disch := first | omega | assumption) only [hz, go_sem, ↓reduceIte]
            exact hQ _ _ _ _ nofun rfl (by simp [tupOf, envOf, AV.strip, AV.strip1, k0, hz])
          · have hz' : ¬ (run1 t : Int) = 0 := by omega
            simp (disch := first | omega | assumption) only [hz', wrap64, go_sem, ↓reduceIte]
            exact hQ _ _ _ _ nofun rfl (by simp [tupOf, envOf, AV.strip, AV.strip1, k0, hz])
        · simp (disch := first | omega | assumption) only [ir133, h1, h3, h4, hl1, hl2, Int.toNat_one, go_sem, ↓reduceIte]
          refine goK_pure (digitsC t (by simp only [Lim]; omega)) ?_
          by_cases hz : run1 t = 0
          · simp (disch := first | omega | assumption) only [hz, go_sem, ↓reduceIte]
            exact hQ _ _ _ _ nofun rfl (by simp [tupOf, envOf, AV.strip, AV.strip1, k0, hz])
          · have hz' : ¬ (run1 t : Int) = 0 := by omega
            simp (disch := first | omega | assumption) only [hz', wrap64, go_sem, ↓reduceIte]
            exact hQ _ _ _ _ nofun rfl (by simp [tupOf, envOf, AV.strip, AV.strip1, k0, hz])
        · simp (disch := first | omega | assumption) only [ir133, h1, h2, h3, hl1, hl2, Int.toNat_one, go_sem, ↓reduceIte]
          refine goK_pure (digitsC t (by simp only [Lim]; omega)) ?_
          by_cases hz : run1 t = 0
          · simp (disch := first | omega | assumption) only [hz, go_sem, ↓reduceIte]
            exact hQ _ _ _ _ nofun rfl (by simp [tupOf, envOf, AV.strip, AV.strip1, k0, hz])
          · have hz' : ¬ (run1 t : Int) = 0 := by omega
            simp (disch := first | omega | assumption) only [hz', wrap64, go_sem, ↓reduceIte]
            exact hQ _ _ _ _ nofun rfl (by simp [tupOf, envOf, AV.strip, AV.strip1, k0, hz])
        · simp (disch := first | omega | assumption) only [ir133, h1, h2, h3, h4, hl1, hl2, Int.toNat_one, go_sem, ↓reduceIte]
          refine goK_pure (digitsC t (by simp only [Lim]; omega)) ?_
          by_cases hz : run1 t = 0
          · simp (disch := first | omega | assumption) only [hz, go_sem, ↓reduceIte]
            exact hQ _ _ _ _ nofun rfl (by simp [tupOf, envOf, AV.strip, AV.strip1, k0, hz])
          · have hz' : ¬ (run1 t : Int) = 0 := by omega
            simp (disch := first | omega | assumption) only [hz', wrap64, go_sem, ↓reduceIte]
            exact hQ _ _ _ _ nofun rfl (by simp [tupOf, envOf, AV.strip, AV.strip1, k0, hz])
      · have hsg0 : sgN (d :: t) = 0 := by simp only [sgN, List.head?_cons, Option.some.injEq, hsg, if_false]
        have k0 := fin (run1 (d :: t)) (by rw [hsg0]; rfl)
        rw [hsg0] at k0 hdl
        have h3 : ¬ (d.toNat : Int) = 43 := by
          intro hh; rw [decide_eq_true (by exact hh)] at f1
          exact hsg (.inl (by simpa using f1.symm))
        have h4 : ¬ (d.toNat : Int) = 45 := by
          intro hh; rw [decide_eq_true (by exact hh)] at f2
          exact hsg (.inr (by simpa using f2.symm))
        simp only [List.drop_zero, List.length_cons] at hdl
        rcases hcase with h1 | ⟨h1, h2⟩
        · simp (disch := first | omega | assumption) only [ir133, h1, h3, h4, hl1, hl3, Int.toNat_one, go_sem, ↓reduceIte]
          refine goK_pure (digitsC (d :: t) (by simp only [Lim, List.length_cons]; omega)) ?_
          by_cases hz : run1 (d :: t) = 0
          · simp (disch := first | omega | assumption) only [hz, go_sem, ↓reduceIte]
            exact hQ _ _ _ _ nofun rfl (by simp [tupOf, envOf, AV.strip, AV.strip1, k0, hz])
          · have hz' : ¬ (run1 (d :: t) : Int) = 0 := by omega
            simp (disch := first | omega | assumption) only [hz', wrap64, go_sem, ↓reduceIte]
            exact hQ _ _ _ _ nofun rfl (by simp [tupOf, envOf, AV.strip, AV.strip1, k0, hz])
        · simp (disch := first | omega | assumption) only [ir133, h1, h2, h3, h4, hl1, hl3, Int.toNat_one, go_sem, ↓reduceIte]
          refine goK_pure (digitsC (d :: t) (by simp only [Lim, List.length_cons]; omega)) ?_
          by_cases hz : run1 (d :: t) = 0
          · simp (disch := first | omega | assumption) only [hz, go_sem, ↓reduceIte]
            exact hQ _ _ _ _ nofun rfl (by simp [tupOf, envOf, AV.strip, AV.strip1, k0, hz])
          · have hz' : ¬ (run1 (d :: t) : Int) = 0 := by omega
            simp (disch := first | omega | assumption) only [hz', wrap64, go_sem, ↓reduceIte]
            exact hQ _ _ _ _ nofun rfl (by simp [tupOf, envOf, AV.strip, AV.strip1, k0, hz])
end Go.Proofs.YtpjafglhdlfnbaaDoor
namespace Go.Proofs.YtpjafglhdlfnbaaDoor
open Go.Ab
def fracN (r : List UInt8) : Nat := if r.head? = some 46 ∧ 0 < run1 r.tail then 1 + run1 r.tail else 0
def numN (s : List UInt8) : Nat × Int :=
  if wholeN s = 0 then (0, 0) else
    (wholeN s + fracN (s.drop (wholeN s)) + powN (s.drop (wholeN s + fracN (s.drop (wholeN s)))), if fracN (s.drop (wholeN s)) = 0 ∧ powN (s.drop (wholeN s + fracN (s.drop (wholeN s)))) = 0 then 3 else 4)
theorem numberC (s : List UInt8) (hs : s.length ≤ Lim) : Pure Tryd.prog 112 [.str s] (.tup [.int .i64 (numN s).1, .int .i64 (numN s).2]) := by
  refine Pure.go ir112 ck112 (Nat.le_refl _) fun KP Q hQ => ?_
  have hs' := hs
  simp only [Lim] at hs
  simp (disch := first | omega | assumption) only [ir112, go_sem, ↓reduceIte]
  refine goK_pure (wholeC s hs') ?_
  have hw := wholeN_le s
  by_cases h0 : wholeN s = 0
  · simp (disch := first | omega | assumption) only [h0, go_sem, ↓reduceIte]
    exact hQ _ _ _ _ nofun rfl (by simp [tupOf, envOf, AV.strip, AV.strip1, numN, h0])
  have h0' : ¬ ((wholeN s : Int) = 0) := by omega
  have hwl : (wholeN s : Int) ≤ s.length := by omega
  simp (disch := first | omega | assumption) only [h0', hwl, go_sem, ↓reduceIte]
  refine goK_pure (prefixC (s.drop (wholeN s)) [46]) ?_
  rw [prefix1]
  generalize hn : wholeN s = n at *
  have fin : ∀ f p : Nat, fracN (s.drop n) = f → powN (s.drop (n + f)) = p → numN s = (n + f + p, if f = 0 ∧ p = 0 then 3 else 4) := fun f p hf hp => by
    unfold numN
    rw [hn, hf, hp]
    simp only [h0, if_false]
  have hpl := powN_le (s.drop n)
  rw [List.length_drop] at hpl
  by_cases h46 : (s.drop n).head? = some 46
  · obtain ⟨c, t, hct⟩ : ∃ c t, s.drop n = c :: t := by
      cases hx : s.drop n with
      | nil => rw [hx] at h46; simp at h46
      | cons c t => exact ⟨c, t, rfl⟩
    have hlen : s.length = n + 1 + t.length := by have := congrArg List.length hct; simp at this; omega
    have hdr : s.drop (n + 1) = t := by rw [← List.drop_drop, hct]; rfl
    have hto : ((n : Int) + 1).toNat = n + 1 := by omega
    have hn1 : (0 : Int) ≤ (n : Int) + 1 := by omega
    have hn2 : (n : Int) + 1 ≤ s.length := by omega
    have hrl := run1_le t
    simp (disch := first | omega | assumption) only [h46, wrap64, hto, hn1, hn2, hdr, go_sem, ↓reduceIte]
    refine goK_pure (digitsC t (by simp only [Lim]; omega)) ?_
    by_cases hk : (0 : Int) < run1 t
    · have hk' : 0 < run1 t := by omega
      have hfr : fracN (s.drop n) = 1 + run1 t := by unfold fracN; rw [if_pos ⟨h46, by rw [hct]; exact hk'⟩, hct]; rfl
      have hto2 : ((n : Int) + 1 + run1 t).toNat = n + (1 + run1 t) := by omega
      have hn3 : (0 : Int) ≤ (n : Int) + 1 + run1 t := by omega
      have hn4 : (n : Int) + 1 + run1 t ≤ s.length := by omega
      have hpl2 := powN_le (s.drop (n + (1 + run1 t)))
      rw [List.length_drop] at hpl2
      simp (disch := first | omega | assumption) only [hk, wrap64, hto2, hn3, hn4, go_sem, ↓reduceIte]
      refine goK_pure (powerC (s.drop (n + (1 + run1 t))) (by rw [List.length_drop]; simp only [Lim]; omega)) ?_
      have hf := fin _ _ hfr rfl
      generalize hp : powN (s.drop (n + (1 + run1 t))) = p at *
      by_cases hp0 : (0 : Int) < p
      · simp (disch := first | omega | assumption) only [hp0, wrap64, go_sem, ↓reduceIte]
        exact hQ _ _ _ _ nofun rfl (by simp [tupOf, envOf, AV.strip, AV.strip1, hf, Int.add_assoc])
      · have hp00 : p = 0 := by omega
        subst hp00
        simp (disch := first | omega | assumption) only [go_sem, ↓reduceIte]
        exact hQ _ _ _ _ nofun rfl (by simp [tupOf, envOf, AV.strip, AV.strip1, hf, Int.add_assoc])
    · have hk0 : run1 t = 0 := by omega
      have hfr : fracN (s.drop n) = 0 := by unfold fracN; exact if_neg fun hh => by have := hh.2; rw [hct] at this; simp only [List.tail_cons] at this; omega
      simp (disch := first | omega | assumption) only [hk, hwl, go_sem, ↓reduceIte]
      refine goK_pure (powerC (s.drop n) (by rw [List.length_drop]; simp only [Lim]; omega)) ?_
      have hf := fin _ _ hfr rfl
      rw [Nat.add_zero] at hf
      generalize hp : powN (s.drop n) = p at *
      by_cases hp0 : (0 : Int) < p
      · have hp1 : ¬ p = 0 := by omega
        simp (disch := first | omega | assumption) only [hp0, wrap64, go_sem, ↓reduceIte]
        exact hQ _ _ _ _ nofun rfl (by simp [tupOf, envOf, AV.strip, AV.strip1, hf, hp1])
      · have hp00 : p = 0 := by omega
        subst hp00
        simp (disch := first | omega | assumption) only [go_sem, ↓reduceIte]
        exact hQ _ _ _ _ nofun rfl (by simp [tupOf, envOf, AV.strip, AV.strip1, hf])
  · have hfr : fracN (s.drop n) = 0 := by unfold fracN; exact if_neg fun hh => h46 hh.1
    simp (disch := first | omega | assumption) only [h46, hwl, go_sem, ↓reduceIte]
    refine goK_pure (powerC (s.drop n) (by rw [List.length_drop]; simp only [Lim]; omega)) ?_
    have hf := fin _ _ hfr rfl
    rw [Nat.add_zero] at hf
    generalize hp : powN (s.drop n) = p at *
    by_cases hp0 : (0 : Int) < p
    · have hp1 : ¬ p = 0 := by omega
      simp (disch := first | omega | assumption) only [hp0, wrap64, go_sem, ↓reduceIte]
      exact hQ _ _ _ _ nofun rfl (by simp [tupOf, envOf, AV.strip, AV.strip1, hf, hp1])
    · have hp00 : p = 0 := by omega
      subst hp00
      simp (disch := first | omega | assumption) only [go_sem, ↓reduceIte]
      exact hQ _ _ _ _ nofun rfl (by simp [tupOf, envOf, AV.strip, AV.strip1, hf])
def numK (s : List UInt8) : Int := if (numN s).1 = s.length then (numN s).2 else 0
theorem NumberC (s : List UInt8) (hs : s.length ≤ Lim) : Pure Tryd.prog 83 [.str s] (.int .i64 (numK s)) := by
  refine Pure.go ir83 ck83 (Nat.le_refl _) fun KP Q hQ => ?_
  simp (disch := first | omega | assumption) only [ir83, go_sem, ↓reduceIte]
  refine goK_pure (numberC s hs) ?_
  by_cases h : (numN s).1 = s.length
  · have h' : (((numN s).1 : Int) = s.length) = True := eq_true (by omega)
    simp (disch := first | omega | assumption) only [h', go_sem, ↓reduceIte]
    exact hQ _ _ _ _ nofun rfl (by simp [tupOf, envOf, AV.strip, AV.strip1, numK, h])
  · have h' : ¬ ((numN s).1 : Int) = s.length := by omega
    simp (disch := first | omega | assumption) only [h', go_sem, ↓reduceIte]
    exact hQ _ _ _ _ nofun rfl (by simp [tupOf, envOf, AV.strip, AV.strip1, numK, h])
def okI : Lib.NumEnd Int → Bool
  | .ok _ => true
  | _ => false
def valI (s : List UInt8) : Int := match Lib.parseIntB 64 s with
  | .ok v => v
  | Lib.NumEnd.syntax => 0
  | .range => Lib.intSat 64 s
def wholeB (s : List UInt8) : Bool := okI (Lib.parseIntB 64 s) && decide (numK s = 3)
theorem WholeC (s : List UInt8) (hs : s.length ≤ Lim) : Pure Tryd.prog 125 [.str s] (.tup [.int .i64 (valI s), .bool (wholeB s)]) := by
  refine Pure.go ir125 ck125 (Nat.le_refl _) fun KP Q hQ => ?_
  simp (disch := first | omega | assumption) only [ir125, go_sem, ↓reduceIte]
  refine goK_pure (parseIntC s (by simp only [Lim] at hs; omega)) ?_
  rcases hp : Lib.parseIntB 64 s with v | _ | _
  · simp (disch := first | omega | assumption) only [parseA, hp, go_sem, ↓reduceIte]
    refine goK_pure (NumberC s hs) ?_
    simp (disch := first | omega | assumption) only [go_sem, ↓reduceIte]
    exact hQ _ _ _ _ nofun rfl (by simp [tupOf, envOf, AV.strip, AV.strip1, valI, wholeB, hp, okI])
  · simp (disch := first | omega | assumption) only [parseA, hp, go_sem, ↓reduceIte]
    exact hQ _ _ _ _ nofun rfl (by simp [tupOf, envOf, AV.strip, AV.strip1, valI, wholeB, hp, okI])
  · simp (disch := first | omega | assumption) only [parseA, hp, go_sem, ↓reduceIte]
    exact hQ _ _ _ _ nofun rfl (by simp [tupOf, envOf, AV.strip, AV.strip1, valI, wholeB, hp, okI])
def numB (s : List UInt8) : Bool := decide (numK s = 4) || (decide (numK s = 3) && !wholeB s)
def resB (s : List UInt8) : Bool := decide (s = [116, 114, 117, 101]) || (decide (s = [102, 97, 108, 115, 101]) || decide (s = [110, 117, 108, 108]))
theorem goodC (s : List UInt8) (hs : s.length ≤ Lim) : Pure Tryd.prog 46 [.str s] (.bool (Lib.validD s)) := by
  refine Pure.go ir46 ck46 (Nat.le_refl _) fun KP Q hQ => ?_
  simp (disch := first | omega | assumption) only [ir46, go_sem, ↓reduceIte]
  refine goK_pure (validC s (by simp only [Lim] at hs; omega)) ?_
  simp (disch := first | omega | assumption) only [go_sem, ↓reduceIte]
  exact hQ _ _ _ _ nofun rfl (by simp [tupOf, envOf, AV.strip, AV.strip1])
def bareM (n : Int) (s : List UInt8) (l : List Val) (m : List Mem) : Bool := decide (n = 0) && (decide (s = []) && (decide (l.length = 0) && decide (m.length = 0)))
def singleM (k n : Int) (s : List UInt8) (l : List Val) (m : List Mem) : Bool :=
  bareM 0 [] l m && (if k = 0 then decide (n = 0) && decide (s = []) else if k = 1 then (decide (n = 0) || decide (n = 1)) && decide (s = []) else if k = 2 then decide (s = [])
    else if k = 3 then decide (n = 0) && numB s else if k = 4 then decide (n = 0) && Lib.validD s else if k = 5 then decide (n = 0) && (nameM s && !resB s) else if k = 8 then decide (n = 0) && nameM s else false)
end Go.Proofs.YtpjafglhdlfnbaaDoor
namespace Go.Proofs.YtpjafglhdlfnbaaDoor
open Go.Ab
mutual
def allV (may : List UInt8 → Bool) : Val → Bool
  | .mk k n s l m => if k = 6 then allVs may l && bareM n s [] m else if k = 7 then allMs may m && bareM n s l [] else singleM k n s l m
def allVs (may : List UInt8 → Bool) : List Val → Bool
  | [] => true
  | v :: r => allV may v && allVs may r
def allM (may : List UInt8 → Bool) : Mem → Bool
  | .mk s v => may s && allV may v
def allMs (may : List UInt8 → Bool) : List Mem → Bool
  | [] => true
  | x :: r => allM may x && allMs may r
end
def goodV (v : Val) : Bool := allV Lib.validD v
def inR (n : Int) : Prop := -9223372036854775808 ≤ n ∧ n ≤ 9223372036854775807
mutual
def wfV : Val → Prop
  | .mk _ n _ l m => inR n ∧ wfVs l ∧ wfMs m
def wfVs : List Val → Prop
  | [] => True
  | v :: r => wfV v ∧ wfVs r
def wfM : Mem → Prop
  | .mk _ v => wfV v
def wfMs : List Mem → Prop
  | [] => True
  | x :: r => wfM x ∧ wfMs r
end
end Go.Proofs.YtpjafglhdlfnbaaDoor
namespace Go.Proofs.YtpjafglhdlfnbaaDoor
open Go.Ab
def hexL : List UInt8 := [48, 49, 50, 51, 52, 53, 54, 55, 56, 57, 97, 98, 99, 100, 101, 102]
def hexD (c : UInt8) : Option Nat := if Lib.indexByte hexL (c ||| 32) < 0 ∨ c.toNat < 48 ∨ (57 < c.toNat ∧ c.toNat < 65) then none else some (Lib.indexByte hexL (c ||| 32)).toNat
def unitG : Nat → List UInt8 → Nat → Option Nat
  | 0, _, u => some u
  | _ + 1, [], _ => none
  | n + 1, c :: t, u => match hexD c with
    | none => none
    | some k => unitG n t (16 * u + k)
def unitM (s : List UInt8) : Option Nat := unitG 4 s 0
def encM (n : Nat) : List UInt8 :=
  if n ≤ 127 then [UInt8.ofNat n]
  else if n ≤ 2047 then [UInt8.ofNat (192 + n / 64), UInt8.ofNat (128 + n % 64)]
  else if n ≤ 65535 then [UInt8.ofNat (224 + n / 4096), UInt8.ofNat (128 + n / 64 % 64), UInt8.ofNat (128 + n % 64)]
  else [UInt8.ofNat (240 + n / 262144), UInt8.ofNat (128 + n / 4096 % 64), UInt8.ofNat (128 + n / 64 % 64), UInt8.ofNat (128 + n % 64)]
def joinM : List Nat → Option (List UInt8)
  | [] => some []
  | u :: r => if 65535 < u ∨ (56320 ≤ u ∧ u ≤ 57343) then none
    else if 55296 ≤ u ∧ u < 56320 then match r with
      | [] => none
      | v :: r => if v < 56320 ∨ 57343 < v then none else (joinM r).map (encM (65536 + 1024 * (u - 55296) + (v - 56320)) ++ ·)
    else (joinM r).map (encM u ++ ·)
structure Sd where
  b : List UInt8
  u : List Nat
  ok : Bool
def flushM (q : Sd) : Sd := ⟨q.b ++ (joinM q.u).getD [], [], q.ok && (joinM q.u).isSome⟩
def Sd.put (q : Sd) (c : UInt8) : Sd := ⟨(flushM q).b ++ [c], [], (flushM q).ok⟩
def escL : List UInt8 := [34, 92, 47, 98, 102, 110, 114, 116]
def escV : List UInt8 := [34, 92, 47, 8, 12, 10, 13, 9]
def escM (q : Sd) : List UInt8 → Option (Sd × List UInt8)
  | [] => none
  | c :: t => if c = 117 then (unitM t).map fun u => (⟨q.b, q.u ++ [u], q.ok⟩, t.drop 4)
    else if Lib.indexByte escL c < 0 then none else some (q.put (escV.getD (Lib.indexByte escL c).toNat 0), t)
def quoG (may : UInt8 → Bool) : Nat → List UInt8 → Sd → Option (Sd × List UInt8)
  | 0, _, _ => none
  | _ + 1, [], _ => none
  | n + 1, c :: t, q => if c = 34 then some (flushM q, t)
    else if c = 92 then match escM q t with
      | none => none
      | some (q', t') => quoG may n t' q'
    else if may c then quoG may n t (q.put c) else none
def quoM (may : UInt8 → Bool) (t : List UInt8) : Option (List UInt8 × List UInt8) := match quoG may (t.length + 1) t ⟨[], [], true⟩ with
  | some (q, t') => if q.ok then some (q.b, t') else none
  | none => none
def hiB (c : UInt8) : Bool := decide (32 ≤ c.toNat)
def bk (c : UInt8) : Bool := decide (0 ≤ Lib.indexByte [9, 10, 13, 32] c)
def skB : List UInt8 → List UInt8
  | [] => []
  | c :: t => if bk c then skB t else c :: t
def nch (c : UInt8) : Bool := decide (0 ≤ Lib.indexByte [48, 49, 50, 51, 52, 53, 54, 55, 56, 57, 43, 45, 46, 101, 69] c)
def nst (c : UInt8) : Bool := decide (0 ≤ Lib.indexByte [45, 48, 49, 50, 51, 52, 53, 54, 55, 56, 57] c)
abbrev RR (α : Type) := Except Int (α × List UInt8)
def RR.bind {α β : Type} (x : RR α) (f : α → List UInt8 → RR β) : RR β := match x with
  | .ok (a, t) => f a t
  | .error e => .error e
def mayM (p t : List UInt8) : Option (List UInt8) := if p.isPrefixOf (skB t) then some ((skB t).drop p.length) else none
def mustM (p t : List UInt8) : RR Unit := match mayM p t with
  | some t' => .ok ((), t')
  | none => .error 2
def textM (t : List UInt8) : RR (List UInt8) := if [34].isPrefixOf (skB t) then match quoM hiB (skB t).tail with
    | some x => .ok x
    | none => .error 2
  else .error 2
def nullV : Val := .mk 0 0 [] [] []
def numV (s : List UInt8) : Val := if wholeB s then .mk 2 (valI s) [] [] [] else .mk 3 0 s [] []
def numM (t : List UInt8) : RR Val := if numK (t.takeWhile nch) = 0 then .error 2 else .ok (numV (t.takeWhile nch), t.dropWhile nch)
def itemsM (p : List UInt8 → RR Val) : Nat → List Val → List UInt8 → RR (List Val)
  | 0, _, _ => .error 2
  | n + 1, l, t => match mayM [93] t with
    | some t' => .ok (l, t')
    | none => (mustM [44] t).bind fun _ t => (p t).bind fun v t => itemsM p n (l ++ [v]) t
def listM (p : List UInt8 → RR Val) (t : List UInt8) : RR Val := match mayM [93] t with
  | some t' => .ok (.mk 6 0 [] [] [], t')
  | none => (p t).bind fun v t => (itemsM p (t.length + 1) [v] t).bind fun l t => .ok (.mk 6 0 [] l [], t)
def hasN (s : List UInt8) : List Mem → Bool
  | [] => false
  | .mk t _ :: r => decide (t = s) || hasN s r
def memberM (p : List UInt8 → RR Val) (l : List Mem) (t : List UInt8) : RR (List Mem) :=
  (textM t).bind fun s t => if hasN s l then .error 5 else (mustM [58] t).bind fun _ t => (p t).bind fun v t => .ok (l ++ [.mk s v], t)
def membersM (p : List UInt8 → RR Val) : Nat → List Mem → List UInt8 → RR (List Mem)
  | 0, _, _ => .error 2
  | n + 1, l, t => match mayM [125] t with
    | some t' => .ok (l, t')
    | none => (mustM [44] t).bind fun _ t => (memberM p l t).bind fun l t => membersM p n l t
def mapM (p : List UInt8 → RR Val) (t : List UInt8) : RR Val := match mayM [125] t with
  | some t' => .ok (.mk 7 0 [] [] [], t')
  | none => (memberM p [] t).bind fun l t => (membersM p (t.length + 1) l t).bind fun l t => .ok (.mk 7 0 [] [] l, t)
def wordM (t : List UInt8) : RR Val := match mayM [110, 117, 108, 108] t with
  | some t' => .ok (nullV, t')
  | none => match mayM [116, 114, 117, 101] t with
    | some t' => .ok (.mk 1 1 [] [] [], t')
    | none => (mustM [102, 97, 108, 115, 101] t).bind fun _ t => .ok (.mk 1 0 [] [] [], t)
def headM (t : List UInt8) (p : List UInt8 → RR Val) : RR Val := match t with
  | [] => wordM []
  | c :: r => if c = 123 then mapM p r else if c = 91 then listM p r
    else if c = 34 then (textM (c :: r)).bind fun s t => .ok (.mk 4 0 s [] [], t)
    else if nst c then numM (c :: r) else wordM (c :: r)
def deepM (_ : List UInt8) : RR Val := .error 4
def valM : Nat → List UInt8 → RR Val
  | 0, t => if (skB t).head? = some 123 ∨ (skB t).head? = some 91 then .error 4 else headM (skB t) deepM
  | n + 1, t => headM (skB t) (valM n)
def readM (s : List UInt8) : Val × Int := if 8192 < s.length then (nullV, 3) else if !Lib.validD s then (nullV, 2) else match valM 16 s with
  | .error e => (nullV, e)
  | .ok (v, t) => if skB t = [] then (v, 0) else (nullV, 2)
theorem skB_suf : ∀ t, skB t <:+ t
  | [] => List.suffix_refl _
  | c :: t => by
    rw [skB]; split
    · exact (skB_suf t).trans (List.suffix_cons ..)
    · exact List.suffix_refl _
theorem mayM_suf {p t t' : List UInt8} (h : mayM p t = some t') : t' <:+ t ∧ t'.length + p.length ≤ t.length := by
  unfold mayM at h
  split at h
  · rename_i hp
    cases h
    have h1 := skB_suf t
    have h2 := (List.isPrefixOf_iff_prefix.1 hp).length_le
    have h3 := h1.length_le
    exact ⟨(List.drop_suffix _ _).trans h1, by simp; omega⟩
  · cases h
theorem RR.bind_ok {α β : Type} {x : RR α} {f : α → List UInt8 → RR β} {r : β × List UInt8} (h : x.bind f = .ok r) : ∃ a t, x = .ok (a, t) ∧ f a t = .ok r := by
  cases x with
  | error e => cases h
  | ok y => exact ⟨y.1, y.2, rfl, h⟩
theorem mustM_suf {p t t' : List UInt8} {u : Unit} (h : mustM p t = .ok (u, t')) : t' <:+ t ∧ t'.length + p.length ≤ t.length := by
  unfold mustM at h
  split at h
  · rename_i hm; cases h; exact mayM_suf hm
  · cases h
theorem escM_suf {q q' : Sd} {t t' : List UInt8} (h : escM q t = some (q', t')) : t' <:+ t ∧ t'.length < t.length := by
  cases t with
  | nil => cases h
  | cons c t =>
    simp only [escM] at h
    split at h
    · cases hu : unitM t with
      | none => simp [hu] at h
      | some u =>
        simp only [hu, Option.map_some, Option.some.injEq, Prod.mk.injEq] at h
        obtain ⟨_, rfl⟩ := h
        exact ⟨(List.drop_suffix _ _).trans (List.suffix_cons ..), by simp; omega⟩
    · split at h
      · cases h
      · simp only [Option.some.injEq, Prod.mk.injEq] at h
        obtain ⟨_, rfl⟩ := h
        exact ⟨List.suffix_cons .., by simp⟩
theorem quoG_suf {may : UInt8 → Bool} : ∀ (n : Nat) (t : List UInt8) (q q' : Sd) (t' : List UInt8), quoG may n t q = some (q', t') → t' <:+ t ∧ t'.length < t.length
  | 0, _, _, _, _, h => by cases h
  | _ + 1, [], _, _, _, h => by cases h
  | n + 1, c :: t, q, q', t', h => by
    simp only [quoG] at h
    split at h
    · simp only [Option.some.injEq, Prod.mk.injEq] at h
      obtain ⟨_, rfl⟩ := h
      exact ⟨List.suffix_cons .., by simp⟩
    · split at h
      · cases he : escM q t with
        | none => simp [he] at h
        | some x =>
          obtain ⟨q1, t1⟩ := x
          simp only [he] at h
          have h1 := escM_suf he
          have h2 := quoG_suf n t1 q1 q' t' h
          exact ⟨(h2.1.trans h1.1).trans (List.suffix_cons ..), by simp; omega⟩
      · split at h
        · have h2 := quoG_suf n t _ q' t' h
          exact ⟨h2.1.trans (List.suffix_cons ..), by simp; omega⟩
        · cases h
theorem quoM_suf {may : UInt8 → Bool} {t t' b : List UInt8} (h : quoM may t = some (b, t')) : t' <:+ t ∧ t'.length < t.length := by
  unfold quoM at h
  split at h
  · rename_i q t1 hq
    split at h
    · cases h; exact quoG_suf _ _ _ _ _ hq
    · cases h
  · cases h
theorem textM_suf {t t' b : List UInt8} (h : textM t = .ok (b, t')) : t' <:+ t ∧ t'.length + 2 ≤ t.length := by
  unfold textM at h
  split at h
  · rename_i hp
    split at h
    · rename_i x hx
      cases h
      have h1 := quoM_suf hx
      have h2 := skB_suf t
      have h3 := h2.length_le
      have h4 := (List.isPrefixOf_iff_prefix.1 hp).length_le
      simp only [List.length_tail, List.length_cons, List.length_nil] at h1 h4
      exact ⟨(h1.1.trans (List.tail_suffix _)).trans h2, by omega⟩
    · cases h
  · cases h
end Go.Proofs.YtpjafglhdlfnbaaDoor
namespace Go.Proofs.YtpjafglhdlfnbaaDoor
open Go.Ab
theorem unitG_len : ∀ (n : Nat) (t : List UInt8) (u v : Nat), unitG n t u = some v → n ≤ t.length
  | 0, _, _, _, _ => Nat.zero_le _
  | n + 1, [], _, _, h => by cases h
  | n + 1, c :: t, u, v, h => by
    simp only [unitG] at h
    split at h
    · cases h
    · have := unitG_len n t _ v h; simp; omega
theorem encM_len (n : Nat) : (encM n).length ≤ 4 ∧ (n ≤ 65535 → (encM n).length ≤ 3) := by
  unfold encM
  split
  · simp
  · split
    · simp
    · split
      · simp
      · refine ⟨by simp, fun h => by omega⟩
theorem joinM_len : ∀ (u : List Nat) (s : List UInt8), joinM u = some s → s.length ≤ 3 * u.length
  | [], s, h => by cases h; simp
  | u :: [], s, h => by
    simp only [joinM] at h
    split at h
    · cases h
    · rename_i h1
      split at h
      · cases h
      · simp only [Option.map_some, Option.some.injEq] at h
        subst h
        have := (encM_len u).2 (by omega)
        simp; omega
  | u :: v :: r, s, h => by
    rw [joinM] at h
    split at h
    · cases h
    · rename_i h1
      split at h
      · split at h
        · cases h
        · cases hr : joinM r with
          | none => simp [hr] at h
          | some x =>
            simp only [hr, Option.map_some, Option.some.injEq] at h
            subst h
            have h2 := joinM_len r x hr
            have h3 := (encM_len (65536 + 1024 * (u - 55296) + (v - 56320))).1
            simp only [List.length_append, List.length_cons]; omega
      · cases hr : joinM (v :: r) with
        | none => simp [hr] at h
        | some x =>
          simp only [hr, Option.map_some, Option.some.injEq] at h
          subst h
          have h2 := joinM_len (v :: r) x hr
          have h3 := (encM_len u).2 (by omega)
          simp only [List.length_append, List.length_cons] at h2 ⊢; omega
def Sd.w (q : Sd) : Nat := q.b.length + 3 * q.u.length
theorem flush_w (q : Sd) : (flushM q).b.length ≤ q.w := by
  unfold flushM Sd.w
  cases h : joinM q.u with
  | none => simp
  | some s => have := joinM_len _ _ h; simp; omega
theorem put_w (q : Sd) (c : UInt8) : (q.put c).w ≤ q.w + 1 := by
  have := flush_w q
  simp only [Sd.put, Sd.w, List.length_append, List.length_cons, List.length_nil] at this ⊢; omega
theorem escM_w {q q' : Sd} {t t' : List UInt8} (h : escM q t = some (q', t')) : q'.w + t'.length ≤ q.w + t.length := by
  cases t with
  | nil => cases h
  | cons c t =>
    simp only [escM] at h
    split at h
    · cases hu : unitM t with
      | none => simp [hu] at h
      | some u =>
        simp only [hu, Option.map_some, Option.some.injEq, Prod.mk.injEq] at h
        obtain ⟨rfl, rfl⟩ := h
        have := unitG_len _ _ _ _ hu
        simp only [Sd.w, List.length_append, List.length_cons, List.length_nil, List.length_drop]; omega
    · split at h
      · cases h
      · simp only [Option.some.injEq, Prod.mk.injEq] at h
        obtain ⟨rfl, rfl⟩ := h
        have := put_w q (escV.getD (Lib.indexByte escL c).toNat 0)
        simp only [List.length_cons]; omega
theorem quoG_w {may : UInt8 → Bool} : ∀ (n : Nat) (t : List UInt8) (q q' : Sd) (t' : List UInt8), quoG may n t q = some (q', t') → q'.b.length + t'.length + 1 ≤ q.w + t.length
  | 0, _, _, _, _, h => by cases h
  | _ + 1, [], _, _, _, h => by cases h
  | n + 1, c :: t, q, q', t', h => by
    simp only [quoG] at h
    split at h
    · simp only [Option.some.injEq, Prod.mk.injEq] at h
      obtain ⟨rfl, rfl⟩ := h
      have := flush_w q
      simp only [List.length_cons]; omega
    · split at h
      · cases he : escM q t with
        | none => simp [he] at h
        | some x =>
          obtain ⟨q1, t1⟩ := x
          simp only [he] at h
          have h1 := escM_w he
          have h2 := quoG_w n t1 q1 q' t' h
          simp only [List.length_cons]; omega
      · split at h
        · have h2 := quoG_w n t _ q' t' h
          have h3 := put_w q c
          simp only [List.length_cons]; omega
        · cases h
theorem quoM_w {may : UInt8 → Bool} {t t' b : List UInt8} (h : quoM may t = some (b, t')) : b.length + t'.length + 1 ≤ t.length := by
  unfold quoM at h
  split at h
  · rename_i q t1 hq
    split at h
    · cases h; have := quoG_w _ _ _ _ _ hq; simpa [Sd.w] using this
    · cases h
  · cases h
theorem textM_w {t t' b : List UInt8} (h : textM t = .ok (b, t')) : b.length + t'.length + 2 ≤ t.length := by
  unfold textM at h
  split at h
  · rename_i hp
    split at h
    · rename_i x hx
      cases h
      have h1 := quoM_w hx
      have h3 := (skB_suf t).length_le
      have h4 := (List.isPrefixOf_iff_prefix.1 hp).length_le
      simp only [List.length_tail, List.length_cons, List.length_nil] at h1 h4
      omega
    · cases h
  · cases h
structure Fit (t t' : List UInt8) (b : Nat) : Prop where
  suf : t' <:+ t
  lt : t'.length < t.length
  sz : b + 2 * t'.length ≤ 2 * t.length
def Rp (p : List UInt8 → RR Val) : Prop := ∀ t v t', p t = .ok (v, t') → Fit t t' (bV v) ∧ wfV v
theorem bVs_snoc (l : List Val) (v : Val) : bVs (l ++ [v]) = bVs l + bV v := by simpa [bVs] using bVs_mid l v []
theorem bMs_snoc (l : List Mem) (v : Mem) : bMs (l ++ [v]) = bMs l + bM v := by simpa [bMs] using bMs_mid l v []
theorem wfVs_snoc : ∀ (l : List Val) (v : Val), wfVs l → wfV v → wfVs (l ++ [v])
  | [], _, _, h => ⟨h, trivial⟩
  | _ :: l, v, h, h' => ⟨h.1, wfVs_snoc l v h.2 h'⟩
theorem wfMs_snoc : ∀ (l : List Mem) (v : Mem), wfMs l → wfM v → wfMs (l ++ [v])
  | [], _, _, h => ⟨h, trivial⟩
  | _ :: l, v, h, h' => ⟨h.1, wfMs_snoc l v h.2 h'⟩
theorem itemsM_fit {p : List UInt8 → RR Val} (hp : Rp p) : ∀ (n : Nat) (l : List Val) (t : List UInt8) (l' : List Val) (t' : List UInt8), itemsM p n l t = .ok (l', t') →
    t' <:+ t ∧ t'.length < t.length ∧ bVs l' + 2 * t'.length ≤ bVs l + 2 * t.length ∧ (wfVs l → wfVs l')
  | 0, _, _, _, _, h => by cases h
  | n + 1, l, t, l', t', h => by
    simp only [itemsM] at h
    split at h
    · rename_i t1 hm
      cases h
      have h1 := mayM_suf hm
      simp only [List.length_cons, List.length_nil] at h1
      exact ⟨h1.1, by omega, by omega, id⟩
    · obtain ⟨_, t1, h1, h⟩ := RR.bind_ok h
      obtain ⟨v, t2, h2, h⟩ := RR.bind_ok h
      have h3 := itemsM_fit hp n _ t2 l' t' h
      have h1 := mustM_suf h1
      obtain ⟨h2, hw⟩ := hp _ _ _ h2
      obtain ⟨s2, b2, z2⟩ := h2
      rw [bVs_snoc] at h3
      simp only [List.length_cons, List.length_nil] at h1
      exact ⟨(h3.1.trans s2).trans h1.1, by omega, by omega, fun h => h3.2.2.2 (wfVs_snoc _ _ h hw)⟩
theorem memberM_fit {p : List UInt8 → RR Val} (hp : Rp p) {l l' : List Mem} {t t' : List UInt8} (h : memberM p l t = .ok (l', t')) :
    t' <:+ t ∧ t'.length < t.length ∧ bMs l' + 2 * t'.length ≤ bMs l + 2 * t.length ∧ (wfMs l → wfMs l') := by
  unfold memberM at h
  obtain ⟨s, t1, h1, h⟩ := RR.bind_ok h
  split at h
  · cases h
  · obtain ⟨_, t2, h2, h⟩ := RR.bind_ok h
    obtain ⟨v, t3, h3, h⟩ := RR.bind_ok h
    cases h
    have hs := textM_suf h1
    have hw := textM_w h1
    have h2 := mustM_suf h2
    obtain ⟨⟨s3, b3, z3⟩, w3⟩ := hp _ _ _ h3
    rw [bMs_snoc]
    simp only [bM, List.length_cons, List.length_nil] at h2 ⊢
    exact ⟨(s3.trans h2.1).trans hs.1, by omega, by omega, fun h => wfMs_snoc _ _ h w3⟩
theorem membersM_fit {p : List UInt8 → RR Val} (hp : Rp p) : ∀ (n : Nat) (l : List Mem) (t : List UInt8) (l' : List Mem) (t' : List UInt8), membersM p n l t = .ok (l', t') →
    t' <:+ t ∧ t'.length < t.length ∧ bMs l' + 2 * t'.length ≤ bMs l + 2 * t.length ∧ (wfMs l → wfMs l')
  | 0, _, _, _, _, h => by cases h
  | n + 1, l, t, l', t', h => by
    simp only [membersM] at h
    split at h
    · rename_i t1 hm
      cases h
      have h1 := mayM_suf hm
      simp only [List.length_cons, List.length_nil] at h1
      exact ⟨h1.1, by omega, by omega, id⟩
    · obtain ⟨_, t1, h1, h⟩ := RR.bind_ok h
      obtain ⟨l2, t2, h2, h⟩ := RR.bind_ok h
      have h3 := membersM_fit hp n _ t2 l' t' h
      have h1 := mustM_suf h1
      have h2 := memberM_fit hp h2
      simp only [List.length_cons, List.length_nil] at h1
      exact ⟨(h3.1.trans h2.1).trans h1.1, by omega, by omega, fun h => h3.2.2.2 (h2.2.2.2 h)⟩
theorem inR0 : inR 0 := by simp [inR]
theorem listM_fit {p : List UInt8 → RR Val} (hp : Rp p) : ∀ t v t', listM p t = .ok (v, t') → t' <:+ t ∧ bV v + 2 * t'.length ≤ 2 * t.length + 1 ∧ wfV v := fun t v t' h => by
  unfold listM at h
  split at h
  · rename_i t1 hm
    cases h
    have h1 := mayM_suf hm
    simp only [List.length_cons, List.length_nil] at h1
    exact ⟨h1.1, by simp only [bV, bVs, bMs, List.length_nil]; omega, inR0, trivial, trivial⟩
  · obtain ⟨v1, t1, h1, h⟩ := RR.bind_ok h
    obtain ⟨l, t2, h2, h⟩ := RR.bind_ok h
    cases h
    obtain ⟨⟨s1, b1, z1⟩, w1⟩ := hp _ _ _ h1
    obtain ⟨s2, b2, z2, w2⟩ := itemsM_fit hp _ _ _ _ _ h2
    simp only [bVs] at z2
    exact ⟨s2.trans s1, by simp only [bV, bMs, List.length_nil]; omega, inR0, w2 ⟨w1, trivial⟩, trivial⟩
theorem mapM_fit {p : List UInt8 → RR Val} (hp : Rp p) : ∀ t v t', mapM p t = .ok (v, t') → t' <:+ t ∧ bV v + 2 * t'.length ≤ 2 * t.length + 1 ∧ wfV v := fun t v t' h => by
  unfold mapM at h
  split at h
  · rename_i t1 hm
    cases h
    have h1 := mayM_suf hm
    simp only [List.length_cons, List.length_nil] at h1
    exact ⟨h1.1, by simp only [bV, bVs, bMs, List.length_nil]; omega, inR0, trivial, trivial⟩
  · obtain ⟨l1, t1, h1, h⟩ := RR.bind_ok h
    obtain ⟨l, t2, h2, h⟩ := RR.bind_ok h
    cases h
    obtain ⟨s1, b1, z1, w1⟩ := memberM_fit hp h1
    obtain ⟨s2, b2, z2, w2⟩ := membersM_fit hp _ _ _ _ _ h2
    simp only [bMs] at z1
    exact ⟨s2.trans s1, by simp only [bV, bVs, List.length_nil]; omega, inR0, trivial, w2 (w1 trivial)⟩
theorem numK_nil : numK [] = 0 := by decide
theorem parse_inR {s : List UInt8} {n : Int} (h : Lib.parseIntB 64 s = .ok n) : inR n := by
  cases s with
  | nil => cases h
  | cons c r =>
    simp only [Lib.parseIntB] at h
    split at h
    · cases h
    · cases h
    · split at h
      · cases h
      · split at h
        · cases h
        · rename_i h1 h2
          cases h
          simp only [inR]
          split <;> simp_all <;> omega
theorem numV_fit (s : List UInt8) : bV (numV s) ≤ 1 + s.length ∧ wfV (numV s) := by
  unfold numV
  split
  · rename_i h
    refine ⟨by simp only [bV, bVs, bMs, List.length_nil]; omega, ?_, trivial, trivial⟩
    unfold wholeB at h
    unfold valI
    rcases hp : Lib.parseIntB 64 s with v | _ | _
    · exact parse_inR hp
    · exact inR0
    · rw [hp] at h; simp [okI] at h
  · exact ⟨by simp only [bV, bVs, bMs]; omega, inR0, trivial, trivial⟩
theorem wordM_fit {t t' : List UInt8} {v : Val} (h : wordM t = .ok (v, t')) : t' <:+ t ∧ t'.length + 4 ≤ t.length ∧ bV v = 1 ∧ wfV v := by
  unfold wordM at h
  split at h
  · rename_i t1 hm
    cases h
    have h1 := mayM_suf hm
    simp only [List.length_cons, List.length_nil] at h1
    exact ⟨h1.1, by omega, rfl, inR0, trivial, trivial⟩
  · split at h
    · rename_i t1 hm
      cases h
      have h1 := mayM_suf hm
      simp only [List.length_cons, List.length_nil] at h1
      exact ⟨h1.1, by omega, rfl, by simp [inR], trivial, trivial⟩
    · obtain ⟨_, t1, h1, h⟩ := RR.bind_ok h
      cases h
      have h1 := mustM_suf h1
      simp only [List.length_cons, List.length_nil] at h1
      exact ⟨h1.1, by omega, rfl, inR0, trivial, trivial⟩
theorem headM_fit {p : List UInt8 → RR Val} (hp : Rp p) : Rp (fun t => headM t p) := fun t v t' h => by
  cases t with
  | nil => have := wordM_fit (t := []) h; simp at this
  | cons c r =>
    simp only [headM] at h
    split at h
    · obtain ⟨s1, z1, w1⟩ := mapM_fit hp _ _ _ h
      have := s1.length_le
      exact ⟨⟨s1.trans (List.suffix_cons ..), by simp; omega, by simp; omega⟩, w1⟩
    · split at h
      · obtain ⟨s1, z1, w1⟩ := listM_fit hp _ _ _ h
        have := s1.length_le
        exact ⟨⟨s1.trans (List.suffix_cons ..), by simp; omega, by simp; omega⟩, w1⟩
      · split at h
        · obtain ⟨s, t1, h1, h⟩ := RR.bind_ok h
          cases h
          have h2 := textM_suf h1
          have h3 := textM_w h1
          exact ⟨⟨h2.1, by omega, by simp only [bV, bVs, bMs]; omega⟩, inR0, trivial, trivial⟩
        · split at h
          · unfold numM at h
            split at h
            · cases h
            · rename_i hk
              cases h
              have h1 := numV_fit ((c :: r).takeWhile nch)
              have h2 : ((c :: r).takeWhile nch).length + ((c :: r).dropWhile nch).length = (c :: r).length := by
                rw [← List.length_append, List.takeWhile_append_dropWhile]
              have h3 : 0 < ((c :: r).takeWhile nch).length := by
                cases hx : (c :: r).takeWhile nch with
                | nil => rw [hx] at hk; exact absurd numK_nil hk
                | cons _ _ => simp
              exact ⟨⟨List.dropWhile_suffix _, by omega, by omega⟩, h1.2⟩
          · have := wordM_fit h
            exact ⟨⟨this.1, by omega, by omega⟩, this.2.2.2⟩
theorem deepM_fit : Rp deepM := fun _ _ _ h => by cases h
theorem valM_fit : ∀ n, Rp (valM n)
  | 0 => fun t v t' h => by
    simp only [valM] at h
    split at h
    · cases h
    · obtain ⟨⟨a, b, c⟩, d⟩ := headM_fit deepM_fit _ _ _ h
      have h1 := skB_suf t
      have h2 := h1.length_le
      exact ⟨⟨a.trans h1, by omega, by omega⟩, d⟩
  | n + 1 => fun t v t' h => by
    simp only [valM] at h
    obtain ⟨⟨a, b, c⟩, d⟩ := headM_fit (valM_fit n) _ _ _ h
    have h1 := skB_suf t
    have h2 := h1.length_le
    exact ⟨⟨a.trans h1, by omega, by omega⟩, d⟩
end Go.Proofs.YtpjafglhdlfnbaaDoor
namespace Go.Proofs.YtpjafglhdlfnbaaDoor
open Go.Ab
theorem bytesOf_len (l : List UInt8) : (bytesOf l).length = l.length := by simp [bytesOf]
theorem bytesOf_app (a b : List UInt8) : bytesOf a ++ bytesOf b = bytesOf (a ++ b) := by simp [bytesOf]
theorem bytesOf_strip (l : List UInt8) : (bytesOf l).map (·.map AV.strip1) = bytesOf l := by simp [bytesOf, AV.strip1]
theorem byts_of (l : List UInt8) : byts (bytesOf l) = some l := by
  induction l with
  | nil => rfl
  | cons c r ih =>
    have h := c.toNat_lt
    simp only [bytesOf, List.map_cons] at ih ⊢
    simp only [byts, ih, Option.map_some]
    rw [if_pos ⟨by omega, by omega⟩]
    simp
theorem bytesOf_one (acc : List UInt8) (c : UInt8) : bytesOf acc ++ [[.int .u8 c.toNat]] = bytesOf (acc ++ [c]) := bytesOf_app acc [c]
theorem wr32 {n : Nat} (h : n < 4294967296) : IntKind.wrap .u32 (n : Int) = n := by
  have e : IntKind.wrap .u32 (n : Int) = (n : Int) % 4294967296 := rfl
  rw [e]; omega
theorem wri32 {n : Nat} (h : n < 2147483648) : IntKind.wrap .i32 (n : Int) = n := by
  have e : IntKind.wrap .i32 (n : Int) = if (n : Int) % 4294967296 ≥ 2147483648 then (n : Int) % 4294967296 - 4294967296 else (n : Int) % 4294967296 := by
    simp [IntKind.wrap, IntKind.bits, IntKind.signed]
  rw [e]; split <;> omega
theorem wr8 (n : Nat) : IntKind.wrap .u8 (n : Int) = ((n % 256 : Nat) : Int) := by
  have e : IntKind.wrap .u8 (n : Int) = (n : Int) % 256 := rfl
  rw [e]; omega
theorem fd6 (n : Nat) : (n : Int).fdiv (2 ^ min 6 IntKind.i32.bits) = ((n / 64 : Nat) : Int) := by
  show (n : Int).fdiv 64 = _
  rw [Int.fdiv_eq_ediv_of_nonneg _ (by decide)]; omega
theorem fd12 (n : Nat) : (n : Int).fdiv (2 ^ min 12 IntKind.i32.bits) = ((n / 4096 : Nat) : Int) := by
  show (n : Int).fdiv 4096 = _
  rw [Int.fdiv_eq_ediv_of_nonneg _ (by decide)]; omega
theorem fd18 (n : Nat) : (n : Int).fdiv (2 ^ min 18 IntKind.i32.bits) = ((n / 262144 : Nat) : Int) := by
  show (n : Int).fdiv 262144 = _
  rw [Int.fdiv_eq_ediv_of_nonneg _ (by decide)]; omega
theorem leadT : ∀ x : Fin 32, IntKind.wrap .u8 ((BitVec.ofInt IntKind.u8.bits 192 ||| BitVec.ofInt IntKind.u8.bits ((x.val : Nat) : Int)).toNat : Int) = ((UInt8.ofNat (192 + x.val)).toNat : Int) := by decide +kernel
theorem leadU : ∀ x : Fin 16, IntKind.wrap .u8 ((BitVec.ofInt IntKind.u8.bits 224 ||| BitVec.ofInt IntKind.u8.bits ((x.val : Nat) : Int)).toNat : Int) = ((UInt8.ofNat (224 + x.val)).toNat : Int) := by decide +kernel
theorem leadV : ∀ x : Fin 8, IntKind.wrap .u8 ((BitVec.ofInt IntKind.u8.bits 240 ||| BitVec.ofInt IntKind.u8.bits ((x.val : Nat) : Int)).toNat : Int) = ((UInt8.ofNat (240 + x.val)).toNat : Int) := by decide +kernel
theorem contT : ∀ x : Fin 256, IntKind.wrap .u8 ((BitVec.ofInt IntKind.u8.bits 128 ||| BitVec.ofInt IntKind.u8.bits (IntKind.wrap .u8 ((BitVec.ofInt IntKind.u8.bits ((x.val : Nat) : Int) &&& BitVec.ofInt IntKind.u8.bits 63).toNat : Int))).toNat : Int) = ((UInt8.ofNat (128 + x.val % 64)).toNat : Int) := by decide +kernel
theorem lead2 {m : Nat} (h : m < 32) : IntKind.wrap .u8 ((BitVec.ofInt IntKind.u8.bits 192 ||| BitVec.ofInt IntKind.u8.bits (IntKind.wrap .u8 (m : Int))).toNat : Int) = ((UInt8.ofNat (192 + m)).toNat : Int) := by
  rw [wr8 m, Nat.mod_eq_of_lt (show m < 256 by omega)]; exact leadT ⟨m, h⟩
theorem lead3 {m : Nat} (h : m < 16) : IntKind.wrap .u8 ((BitVec.ofInt IntKind.u8.bits 224 ||| BitVec.ofInt IntKind.u8.bits (IntKind.wrap .u8 (m : Int))).toNat : Int) = ((UInt8.ofNat (224 + m)).toNat : Int) := by
  rw [wr8 m, Nat.mod_eq_of_lt (show m < 256 by omega)]; exact leadU ⟨m, h⟩
theorem lead4 {m : Nat} (h : m < 8) : IntKind.wrap .u8 ((BitVec.ofInt IntKind.u8.bits 240 ||| BitVec.ofInt IntKind.u8.bits (IntKind.wrap .u8 (m : Int))).toNat : Int) = ((UInt8.ofNat (240 + m)).toNat : Int) := by
  rw [wr8 m, Nat.mod_eq_of_lt (show m < 256 by omega)]; exact leadV ⟨m, h⟩
theorem cont (m : Nat) : IntKind.wrap .u8 ((BitVec.ofInt IntKind.u8.bits 128 ||| BitVec.ofInt IntKind.u8.bits (IntKind.wrap .u8 ((BitVec.ofInt IntKind.u8.bits (IntKind.wrap .u8 (m : Int)) &&& BitVec.ofInt IntKind.u8.bits 63).toNat : Int))).toNat : Int) = ((UInt8.ofNat (128 + m % 64)).toNat : Int) := by
  rw [wr8 m]
  have := contT ⟨m % 256, Nat.mod_lt _ (by decide)⟩
  simp only at this
  rw [this, Nat.mod_mod_of_dvd m (by decide)]
theorem appNon (n : Nat) (h0 : 127 < n) (h1 : n ≤ 1114111) (h2 : ¬ (55296 ≤ n ∧ n ≤ 57343)) (acc : List UInt8) (H : Heap) (o : Own) (ho : Owned H o acc.length 1) (hb : acc.length ≤ Lim) :
    Gives Tryd.prog 162 [.sl o 1 (bytesOf acc), .int .i32 n] H o 1 (bytesOf (acc ++ encM n)) := by
  refine ACalls.goO ir162 ck162 (Nat.le_refl _) fun KP Q hQ hP => ?_
  have e1 := wr32 (n := n) (by omega)
  have hal := bytesOf_len acc
  simp only [Lim] at hb
  have ho' : Owned H o (bytesOf acc).length 1 := by rw [hal]; exact ho
  have fin : ∀ (e : List UInt8) o' H', encM n = e → OwnS H o H' o' ((bytesOf acc).length + e.length) 1 → OwnR H o 1 (bytesOf (acc ++ encM n)) (.sl o' 1 (bytesOf acc ++ bytesOf e)) H' := fun e o' H' he hs => by
    rw [he]; exact ⟨o', by rw [bytesOf_app], by rw [bytesOf_len, List.length_append]; rw [hal] at hs; exact hs⟩
  by_cases h3 : n ≤ 2047
  · have g1 : ((n : Int) ≤ 2047) = True := eq_true (by omega)
    simp (disch := first | omega | assumption) only [ir162, e1, g1, steps, st2, pev, rev, oev, optr, ibin, sbin, ishf, bound, mmAll, mm2, mk, mkArgs, AV.cells, AV.boxable, AV.one, AV.strip1, fillA, fillS, Nat.reduceEqDiff, reduceCtorEq, ↓reduceIte, Nat.reduceAdd, Int.reduceNeg, Nat.reduceLeDiff, Int.reduceToNat, Int.reduceEq, Int.reduceLT, Int.reduceLE, Int.reduceAdd]
    simp only [fd6, lead2 (show n / 64 < 32 by omega), cont]
    refine goP_ownS ho' (by simp [hal]; omega) (by simp [hal, maxLen]; omega) fun o' H' hs => ?_
    simp (disch := first | omega | assumption) only [steps, st2, pev, rev, oev, optr, ibin, sbin, ishf, bound, mmAll, mm2, mk, mkArgs, AV.cells, AV.boxable, AV.one, AV.strip1, fillA, fillS, Nat.reduceEqDiff, reduceCtorEq, ↓reduceIte, Nat.reduceAdd, Int.reduceNeg, Nat.reduceLeDiff, Int.reduceToNat, Int.reduceEq, Int.reduceLT, Int.reduceLE, Int.reduceAdd]
    exact hQ _ _ H' H' [_] nofun rfl (Low.refl _) (fin [_, _] o' H' (by unfold encM; rw [if_neg (by omega), if_pos h3]) hs)
  · have g1 : ¬ ((n : Int) ≤ 2047) := by omega
    by_cases h4 : n ≤ 65535
    · by_cases h5 : n < 55296
      · have g2 : ((n : Int) < 55296) = True := eq_true (by omega)
        simp (disch := first | omega | assumption) only [ir162, e1, g1, g2, steps, st2, pev, rev, oev, optr, ibin, sbin, ishf, bound, mmAll, mm2, mk, mkArgs, AV.cells, AV.boxable, AV.one, AV.strip1, fillA, fillS, Nat.reduceEqDiff, reduceCtorEq, ↓reduceIte, Nat.reduceAdd, Int.reduceNeg, Nat.reduceLeDiff, Int.reduceToNat, Int.reduceEq, Int.reduceLT, Int.reduceLE, Int.reduceAdd]
        simp only [fd6, fd12, lead3 (show n / 4096 < 16 by omega), cont]
        refine goP_ownS ho' (by simp [hal]; omega) (by simp [hal, maxLen]; omega) fun o' H' hs => ?_
        simp (disch := first | omega | assumption) only [steps, st2, pev, rev, oev, optr, ibin, sbin, ishf, bound, mmAll, mm2, mk, mkArgs, AV.cells, AV.boxable, AV.one, AV.strip1, fillA, fillS, Nat.reduceEqDiff, reduceCtorEq, ↓reduceIte, Nat.reduceAdd, Int.reduceNeg, Nat.reduceLeDiff, Int.reduceToNat, Int.reduceEq, Int.reduceLT, Int.reduceLE, Int.reduceAdd]
        exact hQ _ _ H' H' [_] nofun rfl (Low.refl _) (fin [_, _, _] o' H' (by unfold encM; rw [if_neg (by omega), if_neg h3, if_pos h4]) hs)
      · have g2 : ¬ ((n : Int) < 55296) := by omega
        have g3 : ((57343 : Int) < n) = True := eq_true (by omega)
        have g4 : ((n : Int) ≤ 65535) = True := eq_true (by omega)
        simp (disch := first | omega | assumption) only [ir162, e1, g1, g2, g3, g4, steps, st2, pev, rev, oev, optr, ibin, sbin, ishf, bound, mmAll, mm2, mk, mkArgs, AV.cells, AV.boxable, AV.one, AV.strip1, fillA, fillS, Nat.reduceEqDiff, reduceCtorEq, ↓reduceIte, Nat.reduceAdd, Int.reduceNeg, Nat.reduceLeDiff, Int.reduceToNat, Int.reduceEq, Int.reduceLT, Int.reduceLE, Int.reduceAdd]
        simp only [fd6, fd12, lead3 (show n / 4096 < 16 by omega), cont]
        refine goP_ownS ho' (by simp [hal]; omega) (by simp [hal, maxLen]; omega) fun o' H' hs => ?_
        simp (disch := first | omega | assumption) only [steps, st2, pev, rev, oev, optr, ibin, sbin, ishf, bound, mmAll, mm2, mk, mkArgs, AV.cells, AV.boxable, AV.one, AV.strip1, fillA, fillS, Nat.reduceEqDiff, reduceCtorEq, ↓reduceIte, Nat.reduceAdd, Int.reduceNeg, Nat.reduceLeDiff, Int.reduceToNat, Int.reduceEq, Int.reduceLT, Int.reduceLE, Int.reduceAdd]
        exact hQ _ _ H' H' [_] nofun rfl (Low.refl _) (fin [_, _, _] o' H' (by unfold encM; rw [if_neg (by omega), if_neg h3, if_pos h4]) hs)
    · have g2 : ¬ ((n : Int) < 55296) := by omega
      have g3 : ((57343 : Int) < n) = True := eq_true (by omega)
      have g4 : ¬ ((n : Int) ≤ 65535) := by omega
      have g5 : ((65535 : Int) < n) = True := eq_true (by omega)
      have g6 : ((n : Int) ≤ 1114111) = True := eq_true (by omega)
      simp (disch := first | omega | assumption) only [ir162, e1, g1, g2, g3, g4, g5, g6, steps, st2, pev, rev, oev, optr, ibin, sbin, ishf, bound, mmAll, mm2, mk, mkArgs, AV.cells, AV.boxable, AV.one, AV.strip1, fillA, fillS, Nat.reduceEqDiff, reduceCtorEq, ↓reduceIte, Nat.reduceAdd, Int.reduceNeg, Nat.reduceLeDiff, Int.reduceToNat, Int.reduceEq, Int.reduceLT, Int.reduceLE, Int.reduceAdd]
      simp only [fd6, fd12, fd18, lead4 (show n / 262144 < 8 by omega), cont]
      refine goP_ownS ho' (by simp [hal]; omega) (by simp [hal, maxLen]; omega) fun o' H' hs => ?_
      simp (disch := first | omega | assumption) only [steps, st2, pev, rev, oev, optr, ibin, sbin, ishf, bound, mmAll, mm2, mk, mkArgs, AV.cells, AV.boxable, AV.one, AV.strip1, fillA, fillS, Nat.reduceEqDiff, reduceCtorEq, ↓reduceIte, Nat.reduceAdd, Int.reduceNeg, Nat.reduceLeDiff, Int.reduceToNat, Int.reduceEq, Int.reduceLT, Int.reduceLE, Int.reduceAdd]
      exact hQ _ _ H' H' [_] nofun rfl (Low.refl _) (fin [_, _, _, _] o' H' (by unfold encM; rw [if_neg (by omega), if_neg h3, if_neg h4]) hs)
theorem appRune (n : Nat) (h1 : n ≤ 1114111) (h2 : ¬ (55296 ≤ n ∧ n ≤ 57343)) (acc : List UInt8) (H : Heap) (o : Own) (ho : Owned H o acc.length 1) (hb : acc.length ≤ Lim) :
    Gives Tryd.prog 155 [.sl o 1 (bytesOf acc), .int .i32 n] H o 1 (bytesOf (acc ++ encM n)) := by
  refine ACalls.goO ir155 ck155 (Nat.le_refl _) fun KP Q hQ hP => ?_
  have e1 := wr32 (n := n) (by omega)
  have hal := bytesOf_len acc
  by_cases h3 : n ≤ 127
  · have g1 : ((n : Int) ≤ 127) = True := eq_true (by omega)
    have g2 : IntKind.wrap .u8 (n : Int) = ((UInt8.ofNat n).toNat : Int) := by rw [wr8]; simp
    simp only [Lim] at hb
    simp (disch := first | omega | assumption) only [ir155, e1, g1, g2, steps, st2, pev, rev, oev, optr, ibin, sbin, ishf, bound, mmAll, mm2, mk, mkArgs, AV.cells, AV.boxable, AV.one, AV.strip1, fillA, fillS, Nat.reduceEqDiff, reduceCtorEq, ↓reduceIte, Nat.reduceAdd, Int.reduceNeg, Nat.reduceLeDiff, Int.reduceToNat, Int.reduceEq, Int.reduceLT, Int.reduceLE, Int.reduceAdd]
    refine goP_ownS (by rw [hal]; exact ho) (by simp [hal]; omega) (by simp [hal, maxLen]; omega) fun o' H' hs => ?_
    simp (disch := first | omega | assumption) only [steps, st2, pev, rev, oev, optr, ibin, sbin, ishf, bound, mmAll, mm2, mk, mkArgs, AV.cells, AV.boxable, AV.one, AV.strip1, fillA, fillS, Nat.reduceEqDiff, reduceCtorEq, ↓reduceIte, Nat.reduceAdd, Int.reduceNeg, Nat.reduceLeDiff, Int.reduceToNat, Int.reduceEq, Int.reduceLT, Int.reduceLE, Int.reduceAdd]
    refine hQ _ _ H' H' [_] nofun rfl (Low.refl _) ⟨o', ?_, ?_⟩
    · have : encM n = [UInt8.ofNat n] := by unfold encM; rw [if_pos h3]
      rw [this]; exact congrArg _ (bytesOf_one _ _)
    · have : encM n = [UInt8.ofNat n] := by unfold encM; rw [if_pos h3]
      rw [this, bytesOf_len]; simpa [hal] using hs
  · have g1 : ¬ ((n : Int) ≤ 127) := by omega
    simp (disch := first | omega | assumption) only [ir155, e1, g1, steps, st2, pev, rev, oev, optr, ibin, sbin, ishf, bound, mmAll, mm2, mk, mkArgs, AV.cells, AV.boxable, AV.one, AV.strip1, fillA, fillS, Nat.reduceEqDiff, reduceCtorEq, ↓reduceIte, Nat.reduceAdd, Int.reduceNeg, Nat.reduceLeDiff, Int.reduceToNat, Int.reduceEq, Int.reduceLT, Int.reduceLE, Int.reduceAdd]
    refine goK_gives (appNon n (by omega) h1 h2 acc H o ho hb) fun o' H' hs => ?_
    simp (disch := first | omega | assumption) only [steps, st2, pev, rev, oev, optr, ibin, sbin, ishf, bound, mmAll, mm2, mk, mkArgs, AV.cells, AV.boxable, AV.one, AV.strip1, fillA, fillS, Nat.reduceEqDiff, reduceCtorEq, ↓reduceIte, Nat.reduceAdd, Int.reduceNeg, Nat.reduceLeDiff, Int.reduceToNat, Int.reduceEq, Int.reduceLT, Int.reduceLE, Int.reduceAdd]
    exact hQ _ _ H' H' [_] nofun rfl (Low.refl _) ⟨o', rfl, hs⟩
end Go.Proofs.YtpjafglhdlfnbaaDoor
namespace Go.Proofs.YtpjafglhdlfnbaaDoor
open Go.Ab
theorem or32T : ∀ x : Fin 256, IntKind.wrap .u8 ((BitVec.ofInt IntKind.u8.bits ((x.val : Nat) : Int) ||| BitVec.ofInt IntKind.u8.bits 32).toNat : Int) = ((UInt8.ofNat x.val ||| 32).toNat : Int) := by decide +kernel
theorem or32 (c : UInt8) : IntKind.wrap .u8 ((BitVec.ofInt IntKind.u8.bits (c.toNat : Int) ||| BitVec.ofInt IntKind.u8.bits 32).toNat : Int) = ((c ||| 32).toNat : Int) := by
  have := or32T ⟨c.toNat, c.toNat_lt⟩
  simpa using this
theorem idx_le (l : List UInt8) (c : UInt8) : -1 ≤ Lib.indexByte l c ∧ Lib.indexByte l c < l.length := by
  induction l with
  | nil => simp [Lib.indexByte]
  | cons x r ih =>
    simp only [Lib.indexByte, List.length_cons]
    split
    · omega
    · split
      · omega
      · omega
theorem unitC (s : List UInt8) (hs : s.length ≤ Lim) : Pure Tryd.prog 146 [.str s] (.tup [.int .i64 ((unitM s).getD 0 : Nat), .bool (unitM s).isSome]) := by
  refine Pure.go ir146 ck146 (Nat.le_refl _) fun KP Q hQ => ?_
  simp only [Lim] at hs
  by_cases h4 : s.length < 4
  · have g1 : ((s.length : Int) < 4) = True := eq_true (by omega)
    have : unitM s = none := by
      cases h : unitM s with
      | none => rfl
      | some u => have := unitG_len _ _ _ _ h; omega
    simp (disch := first | omega | assumption) only [ir146, g1, steps, st2, pev, rev, oev, optr, ibin, sbin, ishf, bound, mmAll, mm2, mk, mkArgs, AV.cells, AV.boxable, AV.one, AV.strip1, fillA, fillS, Nat.reduceEqDiff, reduceCtorEq, ↓reduceIte, Nat.reduceAdd, Int.reduceNeg, Nat.reduceLeDiff, Int.reduceToNat, Int.reduceEq, Int.reduceLT, Int.reduceLE, Int.reduceAdd]
    exact hQ _ _ _ _ nofun rfl (by simp [tupOf, envOf, AV.strip, AV.strip1, this])
  · have g1 : ¬ ((s.length : Int) < 4) := by omega
    obtain ⟨l, r, hl, hsr⟩ : ∃ l r : List UInt8, l.length = 4 ∧ s = l ++ r := ⟨s.take 4, s.drop 4, by simp; omega, by simp⟩
    have hl' : (l.length : Int) = 4 := by omega
    have key : ∀ (a b : List UInt8) (u : Nat), l = a ++ b → unitG b.length (b ++ r) u = unitG (4 - a.length) (s.drop a.length) u := fun a b u h => by
      have : a.length + b.length = 4 := by rw [← hl, h]; simp
      rw [hsr, h, List.append_assoc, List.drop_left]; congr 1; omega
    simp (disch := first | omega | assumption) only [ir146, g1, steps, st2, pev, rev, oev, optr, ibin, sbin, ishf, bound, mmAll, mm2, mk, mkArgs, AV.cells, AV.boxable, AV.one, AV.strip1, fillA, fillS, Nat.reduceEqDiff, reduceCtorEq, ↓reduceIte, Nat.reduceAdd, Int.reduceNeg, Nat.reduceLeDiff, Int.reduceToNat, Int.reduceEq, Int.reduceLT, Int.reduceLE, Int.reduceAdd]
    refine goL_range l 10 (fun u : Nat => [(4, .int .i64 u)]) (fun done rest u H => unitG rest.length (rest ++ r) u = unitM s ∧ u < 16 ^ done.length ∧ H = Heap.emp) 0 (by simp (disch := first | omega | assumption) only [steps, st2, pev, rev, oev, optr, ibin, sbin, ishf, bound, mmAll, mm2, mk, mkArgs, AV.cells, AV.boxable, AV.one, AV.strip1, fillA, fillS, Nat.reduceEqDiff, reduceCtorEq, ↓reduceIte, Nat.reduceAdd, Int.reduceNeg, Nat.reduceLeDiff, Int.reduceToNat, Int.reduceEq, Int.reduceLT, Int.reduceLE, Int.reduceAdd]) ⟨by rw [hl, ← hsr]; rfl, by simp, rfl⟩ ?_ ?_
    · rintro u H J ⟨hu, _, rfl⟩ hlt
      simp only [List.length_nil, unitG] at hu
      simp (disch := first | omega | assumption) only [hl', steps, st2, pev, rev, oev, optr, ibin, sbin, ishf, bound, mmAll, mm2, mk, mkArgs, AV.cells, AV.boxable, AV.one, AV.strip1, fillA, fillS, Nat.reduceEqDiff, reduceCtorEq, ↓reduceIte, Nat.reduceAdd, Int.reduceNeg, Nat.reduceLeDiff, Int.reduceToNat, Int.reduceEq, Int.reduceLT, Int.reduceLE, Int.reduceAdd]
      exact hQ _ _ _ _ nofun rfl (by simp [tupOf, envOf, AV.strip, AV.strip1, ← hu])
    · rintro done c rest u H J hd hlt hlt2 ⟨hu, hb, rfl⟩ hJ
      have hd4 : done.length < 4 := by omega
      have hlt' : (done.length : Int) < 4 := by omega
      have hlt3 : (done.length : Int) < s.length := by omega
      have hg : s.getD done.length 0 = c := by rw [hsr, hd]; simp
      have hpow : 16 ^ done.length ≤ 4096 := by
        have : done.length ≤ 3 := by omega
        calc 16 ^ done.length ≤ 16 ^ 3 := Nat.pow_le_pow_right (by decide) this
          _ = 4096 := rfl
      simp only [List.length_cons, List.cons_append, unitG] at hu
      have hidx := idx_le hexL (c ||| 32)
      have hc := c.toNat_lt
      simp only [hexL, List.length_cons, List.length_nil] at hidx
      simp (disch := first | omega | assumption) only [hlt', hlt3, hg, or32, steps, st2, pev, rev, oev, optr, ibin, sbin, ishf, bound, mmAll, mm2, mk, mkArgs, AV.cells, AV.boxable, AV.one, AV.strip1, fillA, fillS, Nat.reduceEqDiff, reduceCtorEq, ↓reduceIte, Nat.reduceAdd, Int.reduceNeg, Nat.reduceLeDiff, Int.reduceToNat, Int.reduceEq, Int.reduceLT, Int.reduceLE, Int.reduceAdd]
      refine goK_pure (idxByteC hexL (c ||| 32)) ?_
      have no : hexD c = none → (unitM s) = none := fun e => by rw [e] at hu; exact hu.symm
      by_cases n1 : Lib.indexByte hexL (c ||| 32) < 0
      · have e : hexD c = none := by unfold hexD; rw [if_pos (.inl n1)]
        simp (disch := first | omega | assumption) only [n1, steps, st2, pev, rev, oev, optr, ibin, sbin, ishf, bound, mmAll, mm2, mk, mkArgs, AV.cells, AV.boxable, AV.one, AV.strip1, fillA, fillS, Nat.reduceEqDiff, reduceCtorEq, ↓reduceIte, Nat.reduceAdd, Int.reduceNeg, Nat.reduceLeDiff, Int.reduceToNat, Int.reduceEq, Int.reduceLT, Int.reduceLE, Int.reduceAdd]
        exact hQ _ _ _ _ nofun rfl (by simp [tupOf, envOf, AV.strip, AV.strip1, no e])
      obtain ⟨k, hk⟩ : ∃ k : Nat, Lib.indexByte hexL (c ||| 32) = (k : Int) := ⟨(Lib.indexByte hexL (c ||| 32)).toNat, by omega⟩
      have hk16 : k < 16 := by rw [show Lib.indexByte [48, 49, 50, 51, 52, 53, 54, 55, 56, 57, 97, 98, 99, 100, 101, 102] (c ||| 32) = (k : Int) from hk] at hidx; omega
      have hu4 : u < 4096 := by omega
      have hkn : ¬ ((k : Int) < 0) := by omega
      have hnext : hexD c = some k → unitG rest.length (rest ++ r) (16 * u + k) = unitM s ∧ 16 * u + k < 16 ^ (done ++ [c]).length ∧ Heap.emp = Heap.emp := fun e => by
        rw [e] at hu
        refine ⟨hu, ?_, rfl⟩
        rw [List.length_append, List.length_cons, List.length_nil, Nat.pow_succ]; omega
      have hpush : ((16 * u + k : Nat) : Int) = 16 * (u : Int) + k := by omega
      by_cases n2 : c.toNat < 48
      · have e : hexD c = none := by unfold hexD; rw [if_pos (.inr (.inl n2))]
        have n2' : ((c.toNat : Int) < 48) = True := eq_true (by omega)
        simp (disch := first | omega | assumption) only [hk, hkn, n2', hlt3, hg, steps, st2, pev, rev, oev, optr, ibin, sbin, ishf, bound, mmAll, mm2, mk, mkArgs, AV.cells, AV.boxable, AV.one, AV.strip1, fillA, fillS, Nat.reduceEqDiff, reduceCtorEq, ↓reduceIte, Nat.reduceAdd, Int.reduceNeg, Nat.reduceLeDiff, Int.reduceToNat, Int.reduceEq, Int.reduceLT, Int.reduceLE, Int.reduceAdd]
        exact hQ _ _ _ _ nofun rfl (by simp [tupOf, envOf, AV.strip, AV.strip1, no e])
      have n2' : ¬ ((c.toNat : Int) < 48) := by omega
      by_cases n3 : 57 < c.toNat
      · have n3' : ((57 : Int) < c.toNat) = True := eq_true (by omega)
        by_cases n4 : c.toNat < 65
        · have e : hexD c = none := by unfold hexD; rw [if_pos (.inr (.inr ⟨n3, n4⟩))]
          have n4' : ((c.toNat : Int) < 65) = True := eq_true (by omega)
          simp (disch := first | omega | assumption) only [hk, hkn, n2', n3', n4', hlt3, hg, steps, st2, pev, rev, oev, optr, ibin, sbin, ishf, bound, mmAll, mm2, mk, mkArgs, AV.cells, AV.boxable, AV.one, AV.strip1, fillA, fillS, Nat.reduceEqDiff, reduceCtorEq, ↓reduceIte, Nat.reduceAdd, Int.reduceNeg, Nat.reduceLeDiff, Int.reduceToNat, Int.reduceEq, Int.reduceLT, Int.reduceLE, Int.reduceAdd]
          exact hQ _ _ _ _ nofun rfl (by simp [tupOf, envOf, AV.strip, AV.strip1, no e])
        · have e : hexD c = some k := by unfold hexD; rw [if_neg (by omega), hk]; rfl
          have n4' : ¬ ((c.toNat : Int) < 65) := by omega
          simp (disch := first | omega | assumption) only [hk, hkn, n2', n3', n4', hlt3, hg, wrap64, steps, st2, pev, rev, oev, optr, ibin, sbin, ishf, bound, mmAll, mm2, mk, mkArgs, AV.cells, AV.boxable, AV.one, AV.strip1, fillA, fillS, Nat.reduceEqDiff, reduceCtorEq, ↓reduceIte, Nat.reduceAdd, Int.reduceNeg, Nat.reduceLeDiff, Int.reduceToNat, Int.reduceEq, Int.reduceLT, Int.reduceLE, Int.reduceAdd]
          refine goJ (hJ (16 * u + k) _ (hnext e)) (by simp (disch := first | omega | assumption) only [hpush, steps, st2, pev, rev, oev, optr, ibin, sbin, ishf, bound, mmAll, mm2, mk, mkArgs, AV.cells, AV.boxable, AV.one, AV.strip1, fillA, fillS, Nat.reduceEqDiff, reduceCtorEq, ↓reduceIte, Nat.reduceAdd, Int.reduceNeg, Nat.reduceLeDiff, Int.reduceToNat, Int.reduceEq, Int.reduceLT, Int.reduceLE, Int.reduceAdd])
      · have e : hexD c = some k := by unfold hexD; rw [if_neg (by omega), hk]; rfl
        have n3' : ¬ ((57 : Int) < c.toNat) := by omega
        simp (disch := first | omega | assumption) only [hk, hkn, n2', n3', hlt3, hg, wrap64, steps, st2, pev, rev, oev, optr, ibin, sbin, ishf, bound, mmAll, mm2, mk, mkArgs, AV.cells, AV.boxable, AV.one, AV.strip1, fillA, fillS, Nat.reduceEqDiff, reduceCtorEq, ↓reduceIte, Nat.reduceAdd, Int.reduceNeg, Nat.reduceLeDiff, Int.reduceToNat, Int.reduceEq, Int.reduceLT, Int.reduceLE, Int.reduceAdd]
        refine goJ (hJ (16 * u + k) _ (hnext e)) (by simp (disch := first | omega | assumption) only [hpush, steps, st2, pev, rev, oev, optr, ibin, sbin, ishf, bound, mmAll, mm2, mk, mkArgs, AV.cells, AV.boxable, AV.one, AV.strip1, fillA, fillS, Nat.reduceEqDiff, reduceCtorEq, ↓reduceIte, Nat.reduceAdd, Int.reduceNeg, Nat.reduceLeDiff, Int.reduceToNat, Int.reduceEq, Int.reduceLT, Int.reduceLE, Int.reduceAdd])
def cU (l : List Nat) : List (List AV) := l.map fun (n : Nat) => [AV.int .i64 (n : Int)]
theorem cU_len (l : List Nat) : (cU l).length = l.length := by simp [cU]
theorem cU_strip (l : List Nat) : (cU l).map (·.map AV.strip1) = cU l := by simp [cU, AV.strip1]
theorem joinC (us : List Nat) (hl : us.length ≤ 68719476736) : Pure Tryd.prog 147 [.sl .no 1 (cU us)] (.tup [.str ((joinM us).getD []), .bool (joinM us).isSome]) := by
  refine Pure.go ir147 ck147 (Nat.le_refl _) fun KP Q hQ => ?_
  have hll := cU_len us
  simp (disch := first | omega | assumption) only [ir147, steps, st2, pev, rev, oev, optr, ibin, sbin, ishf, bound, mmAll, mm2, mk, mkArgs, AV.cells, AV.boxable, AV.one, AV.strip1, fillA, fillS, Nat.reduceEqDiff, reduceCtorEq, ↓reduceIte, Nat.reduceAdd, Int.reduceNeg, Nat.reduceLeDiff, Int.reduceToNat, Int.reduceEq, Int.reduceLT, Int.reduceLE, Int.reduceAdd]
  refine goL_st (fun s : List Nat × List Nat × Own × List UInt8 => [(4, .sl s.2.2.1 1 (bytesOf s.2.2.2)), (5, .int .i64 s.1.length)]) (fun s H => us = s.1 ++ s.2.1 ∧ joinM us = (joinM s.2.1).map (s.2.2.2 ++ ·) ∧ s.2.2.2.length ≤ 2 * s.1.length * 2 ∧ Owned H s.2.2.1 s.2.2.2.length 1) (fun s => s.2.1.length) ([], us, .nil, []) (by simp (disch := first | omega | assumption) only [steps, st2, pev, rev, oev, optr, ibin, sbin, ishf, bound, mmAll, mm2, mk, mkArgs, AV.cells, AV.boxable, AV.one, AV.strip1, fillA, fillS, Nat.reduceEqDiff, reduceCtorEq, ↓reduceIte, Nat.reduceAdd, Int.reduceNeg, Nat.reduceLeDiff, Int.reduceToNat, Int.reduceEq, Int.reduceLT, Int.reduceLE, Int.reduceAdd]; rfl) ⟨rfl, by cases joinM us <;> rfl, by simp, rfl⟩ ?_
  rintro ⟨done, rest, o, out⟩ H J ⟨hd, hj, hle, ho⟩ hJ
  simp only at hd hj hle ho
  have hdl : done.length + rest.length = us.length := by rw [hd]; simp
  cases rest with
  | nil =>
    simp only [List.append_nil] at hd
    have hlt : ¬ ((done.length : Int) < us.length) := by rw [hd]; omega
    simp (disch := first | omega | assumption) only [hll, hlt, steps, st2, pev, rev, oev, optr, ibin, sbin, ishf, bound, mmAll, mm2, mk, mkArgs, AV.cells, AV.boxable, AV.one, AV.strip1, fillA, fillS, Nat.reduceEqDiff, reduceCtorEq, ↓reduceIte, Nat.reduceAdd, Int.reduceNeg, Nat.reduceLeDiff, Int.reduceToNat, Int.reduceEq, Int.reduceLT, Int.reduceLE, Int.reduceAdd]
    simp only [joinM, Option.map_some, List.append_nil] at hj
    simp (disch := first | omega | assumption) only [byts_of, steps, st2, pev, rev, oev, optr, ibin, sbin, ishf, bound, mmAll, mm2, mk, mkArgs, AV.cells, AV.boxable, AV.one, AV.strip1, fillA, fillS, Nat.reduceEqDiff, reduceCtorEq, ↓reduceIte, Nat.reduceAdd, Int.reduceNeg, Nat.reduceLeDiff, Int.reduceToNat, Int.reduceEq, Int.reduceLT, Int.reduceLE, Int.reduceAdd]
    exact hQ _ _ _ _ nofun rfl (by simp [tupOf, envOf, AV.strip, AV.strip1, hj])
  | cons u r =>
    have hlt : ((done.length : Int) < us.length) := by simp at hdl; omega
    have hg : (cU us).getD done.length [] = [.int .i64 u] := by rw [hd]; simp [cU]
    have hu0 : ¬ ((u : Int) < 0) := by omega
    have hrl : r.length + 1 + done.length = us.length := by simp at hdl; omega
    have none_of : joinM (u :: r) = none → joinM us = none := fun e => by rw [hj, e]; rfl
    have hmax : maxLen = 9223372036854775807 := rfl
    by_cases a1 : 65535 < u
    · have e := none_of (by rw [joinM.eq_def]; simp only; rw [if_pos (.inl a1)])
      have a1' : ((65535 : Int) < u) = True := eq_true (by omega)
      simp (disch := first | omega | assumption) only [hll, hlt, hg, hu0, a1', steps, st2, pev, rev, oev, optr, ibin, sbin, ishf, bound, mmAll, mm2, mk, mkArgs, AV.cells, AV.boxable, AV.one, AV.strip1, fillA, fillS, Nat.reduceEqDiff, reduceCtorEq, ↓reduceIte, Nat.reduceAdd, Int.reduceNeg, Nat.reduceLeDiff, Int.reduceToNat, Int.reduceEq, Int.reduceLT, Int.reduceLE, Int.reduceAdd]
      exact hQ _ _ _ _ nofun rfl (by simp [tupOf, envOf, AV.strip, AV.strip1, e])
    have a1' : ¬ ((65535 : Int) < u) := by omega
    by_cases a2 : 56320 ≤ u ∧ u ≤ 57343
    · have e := none_of (by rw [joinM.eq_def]; simp only; rw [if_pos (.inr a2)])
      have a2' : ((56320 : Int) ≤ u) = True := eq_true (by omega)
      have a3' : ((u : Int) ≤ 57343) = True := eq_true (by omega)
      simp (disch := first | omega | assumption) only [hll, hlt, hg, hu0, a1', a2', a3', steps, st2, pev, rev, oev, optr, ibin, sbin, ishf, bound, mmAll, mm2, mk, mkArgs, AV.cells, AV.boxable, AV.one, AV.strip1, fillA, fillS, Nat.reduceEqDiff, reduceCtorEq, ↓reduceIte, Nat.reduceAdd, Int.reduceNeg, Nat.reduceLeDiff, Int.reduceToNat, Int.reduceEq, Int.reduceLT, Int.reduceLE, Int.reduceAdd]
      exact hQ _ _ _ _ nofun rfl (by simp [tupOf, envOf, AV.strip, AV.strip1, e])
    by_cases a3 : 55296 ≤ u ∧ u < 56320
    · have b1 : ¬ ((56320 : Int) ≤ u) := by omega
      have b2 : ((55296 : Int) ≤ u) = True := eq_true (by omega)
      have b3 : ((u : Int) < 56320) = True := eq_true (by omega)
      cases r with
      | nil =>
        have e := none_of (by rw [joinM.eq_def]; simp only; rw [if_neg (by omega), if_pos a3])
        have b4 : ((done.length : Int) + 1 = us.length) = True := eq_true (by simp at hrl; omega)
        simp (disch := first | omega | assumption) only [hll, hlt, hg, hu0, a1', b1, b2, b3, wrap64, b4, steps, st2, pev, rev, oev, optr, ibin, sbin, ishf, bound, mmAll, mm2, mk, mkArgs, AV.cells, AV.boxable, AV.one, AV.strip1, fillA, fillS, Nat.reduceEqDiff, reduceCtorEq, ↓reduceIte, Nat.reduceAdd, Int.reduceNeg, Nat.reduceLeDiff, Int.reduceToNat, Int.reduceEq, Int.reduceLT, Int.reduceLE, Int.reduceAdd]
        exact hQ _ _ _ _ nofun rfl (by simp [tupOf, envOf, AV.strip, AV.strip1, e])
      | cons v r =>
        have b4 : ¬ ((done.length : Int) + 1 = us.length) := by simp at hrl; omega
        have b5 : ((done.length : Int) + 1 < us.length) := by simp at hrl; omega
        have b6 : ((done.length : Int) + 1).toNat = done.length + 1 := by omega
        have hg2 : (cU us).getD (done.length + 1) [] = [.int .i64 v] := by rw [hd]; simp [cU]
        by_cases c1 : v < 56320
        · have e := none_of (by rw [joinM.eq_def]; simp only; rw [if_neg (by omega), if_pos a3, if_pos (.inl c1)])
          have c1' : ((v : Int) < 56320) = True := eq_true (by omega)
          simp (disch := first | omega | assumption) only [hll, hlt, hg, hu0, a1', b1, b2, b3, wrap64, b4, b5, b6, hg2, c1', steps, st2, pev, rev, oev, optr, ibin, sbin, ishf, bound, mmAll, mm2, mk, mkArgs, AV.cells, AV.boxable, AV.one, AV.strip1, fillA, fillS, Nat.reduceEqDiff, reduceCtorEq, ↓reduceIte, Nat.reduceAdd, Int.reduceNeg, Nat.reduceLeDiff, Int.reduceToNat, Int.reduceEq, Int.reduceLT, Int.reduceLE, Int.reduceAdd]
          exact hQ _ _ _ _ nofun rfl (by simp [tupOf, envOf, AV.strip, AV.strip1, e])
        have c1' : ¬ ((v : Int) < 56320) := by omega
        by_cases c2 : 57343 < v
        · have e := none_of (by rw [joinM.eq_def]; simp only; rw [if_neg (by omega), if_pos a3, if_pos (.inr c2)])
          have c2' : ((57343 : Int) < v) = True := eq_true (by omega)
          simp (disch := first | omega | assumption) only [hll, hlt, hg, hu0, a1', b1, b2, b3, wrap64, b4, b5, b6, hg2, c1', c2', steps, st2, pev, rev, oev, optr, ibin, sbin, ishf, bound, mmAll, mm2, mk, mkArgs, AV.cells, AV.boxable, AV.one, AV.strip1, fillA, fillS, Nat.reduceEqDiff, reduceCtorEq, ↓reduceIte, Nat.reduceAdd, Int.reduceNeg, Nat.reduceLeDiff, Int.reduceToNat, Int.reduceEq, Int.reduceLT, Int.reduceLE, Int.reduceAdd]
          exact hQ _ _ _ _ nofun rfl (by simp [tupOf, envOf, AV.strip, AV.strip1, e])
        have c2' : ¬ ((57343 : Int) < v) := by omega
        have ej : joinM (u :: v :: r) = (joinM r).map (encM (65536 + 1024 * (u - 55296) + (v - 56320)) ++ ·) := by rw [joinM.eq_def]; simp only; rw [if_neg (by omega), if_pos a3, if_neg (by omega)]
        obtain ⟨m, hm⟩ : ∃ m, 65536 + 1024 * (u - 55296) + (v - 56320) = m := ⟨_, rfl⟩
        rw [hm] at ej
        have hm2 : (65536 + 1024 * ((u : Int) - 55296) + v - 56320) = (m : Int) := by omega
        have hm3 := (encM_len m).1
        simp (disch := first | omega | assumption) only [hll, hlt, hg, hu0, a1', b1, b2, b3, wrap64, b4, b5, b6, hg2, c1', c2', hm2, wri32 (show m < 2147483648 by omega), steps, st2, pev, rev, oev, optr, ibin, sbin, ishf, bound, mmAll, mm2, mk, mkArgs, AV.cells, AV.boxable, AV.one, AV.strip1, fillA, fillS, Nat.reduceEqDiff, reduceCtorEq, ↓reduceIte, Nat.reduceAdd, Int.reduceNeg, Nat.reduceLeDiff, Int.reduceToNat, Int.reduceEq, Int.reduceLT, Int.reduceLE, Int.reduceAdd]
        refine goK_gives (appRune m (by omega) (by omega) out _ o ho (by simp only [Lim]; omega)) fun o' H' hs => ?_
        simp (disch := first | omega | assumption) only [wrap64, steps, st2, pev, rev, oev, optr, ibin, sbin, ishf, bound, mmAll, mm2, mk, mkArgs, AV.cells, AV.boxable, AV.one, AV.strip1, fillA, fillS, Nat.reduceEqDiff, reduceCtorEq, ↓reduceIte, Nat.reduceAdd, Int.reduceNeg, Nat.reduceLeDiff, Int.reduceToNat, Int.reduceEq, Int.reduceLT, Int.reduceLE, Int.reduceAdd]
        have hown := hs.own
        rw [bytesOf_len] at hown
        have e5 : (((done ++ [u, v]).length : Nat) : Int) = (done.length : Int) + 1 + 1 := by simp; omega
        refine goJ (hJ (done ++ [u, v], r, o', out ++ encM m) _ (by simp; omega) ⟨by simp [hd], ?_, ?_, hown⟩) (by simp (disch := first | omega | assumption) only [e5, steps, st2, pev, rev, oev, optr, ibin, sbin, ishf, bound, mmAll, mm2, mk, mkArgs, AV.cells, AV.boxable, AV.one, AV.strip1, fillA, fillS, Nat.reduceEqDiff, reduceCtorEq, ↓reduceIte, Nat.reduceAdd, Int.reduceNeg, Nat.reduceLeDiff, Int.reduceToNat, Int.reduceEq, Int.reduceLT, Int.reduceLE, Int.reduceAdd])
        · simp only [hj, ej]; cases joinM r <;> simp
        · simp; omega
    have ej : joinM (u :: r) = (joinM r).map (encM u ++ ·) := by
      rw [joinM.eq_def]; simp only; rw [if_neg (by omega), if_neg a3]
    have hm3 := (encM_len u).1
    have e5 : (((done ++ [u]).length : Nat) : Int) = (done.length : Int) + 1 := by simp
    by_cases h : u < 55296
    · have b1 : ¬ ((56320 : Int) ≤ u) := by omega
      have b2 : ¬ ((55296 : Int) ≤ u) := by omega
      simp (disch := first | omega | assumption) only [hll, hlt, hg, hu0, a1', b1, b2, wri32 (show u < 2147483648 by omega), steps, st2, pev, rev, oev, optr, ibin, sbin, ishf, bound, mmAll, mm2, mk, mkArgs, AV.cells, AV.boxable, AV.one, AV.strip1, fillA, fillS, Nat.reduceEqDiff, reduceCtorEq, ↓reduceIte, Nat.reduceAdd, Int.reduceNeg, Nat.reduceLeDiff, Int.reduceToNat, Int.reduceEq, Int.reduceLT, Int.reduceLE, Int.reduceAdd]
      refine goK_gives (appRune u (by omega) (by omega) out _ o ho (by simp only [Lim]; omega)) fun o' H' hs => ?_
      simp (disch := first | omega | assumption) only [wrap64, steps, st2, pev, rev, oev, optr, ibin, sbin, ishf, bound, mmAll, mm2, mk, mkArgs, AV.cells, AV.boxable, AV.one, AV.strip1, fillA, fillS, Nat.reduceEqDiff, reduceCtorEq, ↓reduceIte, Nat.reduceAdd, Int.reduceNeg, Nat.reduceLeDiff, Int.reduceToNat, Int.reduceEq, Int.reduceLT, Int.reduceLE, Int.reduceAdd]
      have hown := hs.own
      rw [bytesOf_len] at hown
      refine goJ (hJ (done ++ [u], r, o', out ++ encM u) _ (by simp) ⟨by simp [hd], ?_, ?_, hown⟩) (by simp (disch := first | omega | assumption) only [e5, steps, st2, pev, rev, oev, optr, ibin, sbin, ishf, bound, mmAll, mm2, mk, mkArgs, AV.cells, AV.boxable, AV.one, AV.strip1, fillA, fillS, Nat.reduceEqDiff, reduceCtorEq, ↓reduceIte, Nat.reduceAdd, Int.reduceNeg, Nat.reduceLeDiff, Int.reduceToNat, Int.reduceEq, Int.reduceLT, Int.reduceLE, Int.reduceAdd])
      · simp only [hj, ej]; cases joinM r <;> simp
      · simp; omega
    · have b1 : ((56320 : Int) ≤ u) = True := eq_true (by omega)
      have b2 : ¬ ((u : Int) ≤ 57343) := by omega
      have b3 : ((55296 : Int) ≤ u) = True := eq_true (by omega)
      have b4 : ¬ ((u : Int) < 56320) := by omega
      simp (disch := first | omega | assumption) only [hll, hlt, hg, hu0, a1', b1, b2, b3, b4, wri32 (show u < 2147483648 by omega), steps, st2, pev, rev, oev, optr, ibin, sbin, ishf, bound, mmAll, mm2, mk, mkArgs, AV.cells, AV.boxable, AV.one, AV.strip1, fillA, fillS, Nat.reduceEqDiff, reduceCtorEq, ↓reduceIte, Nat.reduceAdd, Int.reduceNeg, Nat.reduceLeDiff, Int.reduceToNat, Int.reduceEq, Int.reduceLT, Int.reduceLE, Int.reduceAdd]
      refine goK_gives (appRune u (by omega) (by omega) out _ o ho (by simp only [Lim]; omega)) fun o' H' hs => ?_
      simp (disch := first | omega | assumption) only [wrap64, steps, st2, pev, rev, oev, optr, ibin, sbin, ishf, bound, mmAll, mm2, mk, mkArgs, AV.cells, AV.boxable, AV.one, AV.strip1, fillA, fillS, Nat.reduceEqDiff, reduceCtorEq, ↓reduceIte, Nat.reduceAdd, Int.reduceNeg, Nat.reduceLeDiff, Int.reduceToNat, Int.reduceEq, Int.reduceLT, Int.reduceLE, Int.reduceAdd]
      have hown := hs.own
      rw [bytesOf_len] at hown
      refine goJ (hJ (done ++ [u], r, o', out ++ encM u) _ (by simp) ⟨by simp [hd], ?_, ?_, hown⟩) (by simp (disch := first | omega | assumption) only [e5, steps, st2, pev, rev, oev, optr, ibin, sbin, ishf, bound, mmAll, mm2, mk, mkArgs, AV.cells, AV.boxable, AV.one, AV.strip1, fillA, fillS, Nat.reduceEqDiff, reduceCtorEq, ↓reduceIte, Nat.reduceAdd, Int.reduceNeg, Nat.reduceLeDiff, Int.reduceToNat, Int.reduceEq, Int.reduceLT, Int.reduceLE, Int.reduceAdd])
      · simp only [hj, ej]; cases joinM r <;> simp
      · simp; omega
end Go.Proofs.YtpjafglhdlfnbaaDoor
namespace Go.Proofs.YtpjafglhdlfnbaaDoor
open Go.Ab
abbrev LimQ : Nat := 68719476736
theorem own_ne {H : Heap} {c b d n sz : Nat} {cs : List AV} (h : Owned H (.tip b d) n sz) (hc : H c = some (.cells cs)) : b ≠ c := fun e => by
  subst e
  have : H b = some (.tip (d + n) sz) := h
  rw [hc] at this; cases this
theorem own_keep {H H' : Heap} {o : Own} {n sz c : Nat} {cs : List AV} (h : Owned H o n sz) (hc : H c = some (.cells cs)) (hk : Kept H o H') : H' c = some (.cells cs) :=
  hk c _ hc fun d e => by subst e; exact own_ne h hc rfl
theorem own_upd {H : Heap} {o : Own} {n sz c : Nat} {cs : List AV} {x : AObj} (h : Owned H o n sz) (hc : H c = some (.cells cs)) : Owned (H.upd c x) o n sz := by
  cases o with
  | tip b d => have := own_ne h hc; show (H.upd c x) b = _; rw [upd_ne this]; exact h
  | no => exact h
  | nil => exact h
  | full => exact h
structure SaidAt (H : Heap) (q : Nat) (x : Sd) (o o2 : Own) : Prop where
  hq : H q = some (.cells [.sl o 1 (bytesOf x.b), .sl o2 1 (cU x.u), .bool x.ok])
  ho : Owned H o x.b.length 1
  ho2 : Owned H o2 x.u.length 1
  ne : ∀ b d d2, o = .tip b d → o2 ≠ .tip b d2
theorem flushC {H : Heap} {q : Nat} {x : Sd} {o o2 : Own} (hs : SaidAt H q x o o2) (hw : x.w ≤ LimQ) :
    ACalls Tryd.prog 137 [.ptr q 0] H (fun e H' => ∃ v, e = .ret v ∧ (v = .tup [] ∧ ∃ o', SaidAt H' q (flushM x) o' .nil)) := by
  refine ACalls.go ir137 ck137 (Nat.le_refl _) fun KP Q hQ => ?_
  obtain ⟨hq, ho, ho2, hne⟩ := hs
  have hbl := bytesOf_len x.b
  simp only [LimQ, Sd.w] at hw
  simp (disch := first | omega | assumption) only [ir137, hq, go_sem, ↓reduceIte]
  refine goK_pure (Pure.low (joinC x.u (by omega))) ?_
  have hfw := flush_w x
  simp only [flushM, Sd.w, List.length_append] at hfw
  simp (disch := first | omega | assumption) only [hq, go_sem, ↓reduceIte]
  refine goP_ownS (by rw [hbl]; exact ho) (by simp [bytesOf_len]; omega) (by simp [maxLen, bytesOf_len]; omega) fun o' H1 hs => ?_
  have h1 : H1 q = some (.cells [.sl o 1 (bytesOf x.b), .sl o2 1 (cU x.u), .bool x.ok]) := own_keep ho hq hs.kept
  have hown := hs.own
  simp only [List.length_append, bytesOf_len] at hown
  cases hok : x.ok
  · rw [hok] at h1
    simp (disch := first | omega | assumption) only [h1, bytesOf_strip, bytesOf_app, go_sem, ↓reduceIte]
    refine hQ _ _ _ _ _ nofun rfl (Low.refl _) ⟨rfl, o', ?_, ?_, rfl, nofun⟩
    · simp [flushM, hok, upd_same, cU, bytesOf_app, bytesOf_strip]
    · simp only [flushM, List.length_append]
      exact own_upd hown h1
  · rw [hok] at h1
    simp (disch := first | omega | assumption) only [h1, bytesOf_strip, bytesOf_app, go_sem, ↓reduceIte]
    refine hQ _ _ _ _ _ nofun rfl (Low.refl _) ⟨rfl, o', ?_, ?_, rfl, nofun⟩
    · simp [flushM, hok, upd_same, cU, bytesOf_app, bytesOf_strip]
    · simp only [flushM, List.length_append]
      exact own_upd hown h1
def EscP (H' : Heap) (q : Nat) (x : Sd) (s : List UInt8) (v : AV) : Prop := match escM x s with
  | none => v = .int .i64 0
  | some (x', t') => v = .int .i64 ((s.length - t'.length : Nat) : Int) ∧ ∃ o o2, SaidAt H' q x' o o2
theorem escC {H : Heap} {q : Nat} {x : Sd} {o o2 : Own} (hs : SaidAt H q x o o2) (hw : x.w ≤ LimQ) (s : List UInt8) (hl : s.length ≤ Lim) :
    ACalls Tryd.prog 136 [.ptr q 0, .str s] H (fun e H' => ∃ v, e = .ret v ∧ EscP H' q x s v) := by
  refine ACalls.go ir136 ck136 (Nat.le_refl _) fun KP Q hQ => ?_
  have hs0 := hs
  obtain ⟨hq, ho, ho2, hne⟩ := hs
  have hul := cU_len x.u
  have hw0 := hw
  simp only [LimQ, Sd.w] at hw
  simp only [Lim] at hl
  simp (disch := first | omega | assumption) only [ir136, go_sem, ↓reduceIte]
  refine goK_pure (prefixC s [117]) ?_
  cases s with
  | nil =>
    simp (disch := first | omega | assumption) only [List.isPrefixOf, go_sem, ↓reduceIte]
    exact hQ _ _ _ _ [_] nofun rfl (Low.refl _) (by simp [EscP, escM, tupOf, envOf, AV.strip, AV.strip1])
  | cons c t =>
    simp only [List.length_cons] at hl
    by_cases hc : c = 117
    · subst hc
      have hp : [117].isPrefixOf ((117 : UInt8) :: t) = true := rfl
      have h1 : ((1 : Int) ≤ ((t.length + 1 : Nat) : Int)) = True := eq_true (by omega)
      simp (disch := first | omega | assumption) only [hp, h1, go_sem, ↓reduceIte]
      refine goK_pure (unitC t (by simp only [Lim]; omega)) ?_
      cases hu : unitM t with
      | none =>
        simp (disch := first | omega | assumption) only [Option.isSome_none, go_sem, ↓reduceIte]
        exact hQ _ _ _ _ [_] nofun rfl (Low.refl _) (by simp [EscP, escM, hu, tupOf, envOf, AV.strip, AV.strip1])
      | some u =>
        have h4 := unitG_len _ _ _ _ hu
        simp (disch := first | omega | assumption) only [Option.isSome_some, Option.getD_some, hq, go_sem, ↓reduceIte]
        refine goP_ownS (by rw [hul]; exact ho2) (by simp [hul]; omega) (by simp [maxLen, hul]; omega) fun o' H1 hs1 => ?_
        have h2 := own_keep ho2 hq hs1.kept
        simp (disch := first | omega | assumption) only [h2, cU_strip, go_sem, ↓reduceIte]
        refine hQ _ _ _ _ [_] nofun rfl (Low.refl _) ?_
        have hsp := Sep.step (a := [(o, x.b.length, 1)]) (b := []) (n := x.u.length) (n' := x.u.length + 1) (sz := 1) ⟨by intro y hy; simp at hy; rcases hy with rfl | rfl <;> assumption, ?_⟩ (by simpa [hul] using hs1)
        · simp only [EscP, escM, if_true, hu, Option.map_some]
          refine ⟨?_, o, o', ?_, ?_, ?_, ?_⟩
          · show AV.int .i64 5 = _
            simp only [List.length_cons, List.length_drop]
            congr 1; omega
          · simp [upd_same, cU]
          · exact own_upd (hsp.own (o, x.b.length, 1) (by simp)) h2
          · simp only [List.length_append, List.length_cons, List.length_nil]
            exact own_upd (hsp.own (o', x.u.length + 1, 1) (by simp)) h2
          · intro b d d2 e1 e2
            have := hsp.nd
            simp [e1, e2, tipOf] at this
        · cases h5 : tipOf o with
          | none => cases h6 : tipOf o2 <;> simp [h5, h6]
          | some b =>
            obtain ⟨d, h7⟩ := tipOf_some h5
            cases h6 : tipOf o2 with
            | none => simp [h5, h6]
            | some b2 =>
              obtain ⟨d2, h8⟩ := tipOf_some h6
              simp only [List.cons_append, List.nil_append, List.filterMap_cons, List.filterMap_nil, h5, h6, List.nodup_cons, List.mem_singleton, List.not_mem_nil, not_false_eq_true, List.nodup_nil, and_true]
              rintro rfl
              exact hne b d d2 h7 h8
    · have hp : [117].isPrefixOf (c :: t) = false := by
        simp only [List.isPrefixOf, Bool.and_true, beq_eq_false_iff_ne, ne_eq]; exact fun e => hc e.symm
      have hcl : ¬ (c :: t = []) := by simp
      have h1 : ((0 : Int) < ((t.length + 1 : Nat) : Int)) = True := eq_true (by omega)
      simp (disch := first | omega | assumption) only [hp, hcl, h1, go_sem, ↓reduceIte]
      refine goK_pure (idxByteC escL c) ?_
      have hidx := idx_le escL c
      by_cases hk : Lib.indexByte escL c < 0
      · simp (disch := first | omega | assumption) only [hk, go_sem, ↓reduceIte]
        exact hQ _ _ _ _ [_] nofun rfl (Low.refl _) (by simp [EscP, escM, hc, hk, tupOf, envOf, AV.strip, AV.strip1])
      · obtain ⟨k, hk2⟩ : ∃ k : Nat, Lib.indexByte escL c = (k : Int) := ⟨(Lib.indexByte escL c).toNat, by omega⟩
        have hk8 : k < 8 := by simp [escL] at hidx; rw [show Lib.indexByte [34, 92, 47, 98, 102, 110, 114, 116] c = (k : Int) from hk2] at hidx; omega
        have hk0 : ¬ ((k : Int) < 0) := by omega
        simp (disch := first | omega | assumption) only [hk2, hk0, go_sem, ↓reduceIte]
        refine goK_ret (flushC hs0 hw0) fun v H1 ⟨hv, o', hs1⟩ => ?_
        subst hv
        obtain ⟨hq1, ho1, _, _⟩ := hs1
        have hfw := flush_w x
        have hbl := bytesOf_len (flushM x).b
        simp only [Sd.w] at hfw
        have hk8' : ((k : Int) < 8) = True := eq_true (by omega)
        simp (disch := first | omega | assumption) only [hq1, hk8', go_sem, ↓reduceIte]
        refine goP_ownS (by rw [hbl]; exact ho1) (by simp [hbl]; omega) (by simp [maxLen, hbl]; omega) fun o3 H2 hs3 => ?_
        have hq2 := own_keep ho1 hq1 hs3.kept
        simp (disch := first | omega | assumption) only [hq2, go_sem, ↓reduceIte]
        refine hQ _ _ _ _ [_] nofun rfl (Low.refl _) ?_
        simp only [EscP, escM, hc, if_false, hk2, hk0]
        refine ⟨?_, o3, .nil, ?_, ?_, rfl, nofun⟩
        · show AV.int .i64 1 = _
          simp only [List.length_cons]
          congr 1; omega
        · simp only [upd_same, Sd.put, Int.toNat_natCast]
          rw [← bytesOf_app]; rfl
        · simp only [Sd.put, List.length_append, List.length_cons, List.length_nil]
          exact own_upd (by simpa [hbl] using hs3.own) hq2
end Go.Proofs.YtpjafglhdlfnbaaDoor
namespace Go.Proofs.YtpjafglhdlfnbaaDoor
open Go.Ab
def quoA (may : UInt8 → Bool) (t : List UInt8) : AV := match quoM may t with
  | some (b, t') => .tup [.str b, .int .i64 ((t.length + 1 - t'.length : Nat) : Int)]
  | none => .tup [.str [], .int .i64 0]
theorem quotedC (f : FuncId) (hf : Program.callable Tryd.prog f = true) (may : UInt8 → Bool) (hmay : ∀ c : UInt8, Pure Tryd.prog f [.int .u8 c.toNat] (.bool (may c))) (a : UInt8) (t : List UInt8) (hl : t.length + 1 ≤ LimQ) :
    Pure Tryd.prog 122 [.str (a :: t), .clo f [] []] (quoA may t) := by
  refine Pure.go ir122 ck122 (Nat.le_refl _) fun KP Q hQ => ?_
  simp only [LimQ] at hl
  simp (disch := first | omega | assumption) only [ir122, go_sem, ↓reduceIte]
  refine goA_intro fun q hq => ?_
  simp (disch := first | omega | assumption) only [go_sem, ↓reduceIte]
  obtain ⟨R, hR⟩ : ∃ R, quoG may (t.length + 1) t ⟨[], [], true⟩ = R := ⟨_, rfl⟩
  have fail : R = none → quoA may t = .tup [.str [], .int .i64 0] := fun e => by unfold quoA quoM; rw [hR, e]
  refine goL_st (fun s : List UInt8 × Sd × Own × Own => [(7, .int .i64 ((t.length + 1 - s.1.length : Nat) : Int))])
    (fun s H => s.1 <:+ t ∧ (∃ n, s.1.length < n ∧ quoG may n s.1 s.2.1 = R) ∧ s.2.1.w + s.1.length ≤ t.length ∧ SaidAt H q s.2.1 s.2.2.1 s.2.2.2) (fun s => s.1.length) (t, ⟨[], [], true⟩, .nil, .nil)
    (by have : (t.length + 1 - t.length : Nat) = 1 := by omega
        simp (disch := first | omega | assumption) only [this, go_sem, ↓reduceIte]) ⟨List.suffix_refl _, ⟨t.length + 1, by simp, hR⟩, by simp [Sd.w], upd_same .., rfl, rfl, nofun⟩ ?_
  rintro ⟨rest, x, o, o2⟩ H J ⟨hsuf, ⟨n, hn, hg⟩, hw, hs⟩ hJ
  simp only at hsuf hn hg hw hs
  have hrl := hsuf.length_le
  obtain ⟨n, rfl⟩ : ∃ k, n = k + 1 := ⟨n - 1, by omega⟩
  cases rest with
  | nil =>
    have e0 : R = none := by rw [← hg]; rfl
    have h0 : t.length + 1 - 0 = t.length + 1 := rfl
    have h1 : (((t.length + 1 : Nat) : Int) ≤ ((t.length + 1 : Nat) : Int)) = True := eq_true (Int.le_refl _)
    simp (disch := first | omega | assumption) only [h0, h1, go_sem, ↓reduceIte]
    exact hQ _ _ _ _ nofun rfl (by simp [tupOf, envOf, AV.strip, AV.strip1, fail e0])
  | cons c r =>
    obtain ⟨p, hp⟩ := hsuf
    have hpl : t.length = p.length + (r.length + 1) := by rw [← hp]; simp
    have h0 : t.length + 1 - (r.length + 1) = p.length + 1 := by omega
    have h1 : ¬ (((t.length + 1 : Nat) : Int) ≤ ((p.length + 1 : Nat) : Int)) := by omega
    have h2 : (((p.length + 1 : Nat) : Int) < ((t.length + 1 : Nat) : Int)) = True := eq_true (by omega)
    have hi : (a :: t).getD (p.length + 1) 0 = c := by rw [← hp]; simp
    have hi1 : (((p.length + 1 : Nat) : Int) + 1) = ((p.length + 1 + 1 : Nat) : Int) := by omega
    have hsr : r <:+ t := ⟨p ++ [c], by rw [← hp]; simp⟩
    simp only [quoG] at hg
    simp only [List.length_cons] at hw hn
    have hx : x.w ≤ LimQ := by simp only [LimQ]; omega
    by_cases c1 : c = 34
    · subst c1
      simp only [if_true] at hg
      have hc : (((34 : UInt8).toNat : Int) = 34) = True := eq_true rfl
      simp (disch := first | omega | assumption) only [h0, h1, h2, hi, hc, go_sem, ↓reduceIte]
      refine goK_ret (flushC hs hx) fun v H1 ⟨hv, o', hs1⟩ => ?_
      subst hv
      have hq := hs1.hq
      cases hok : (flushM x).ok
      · rw [hok] at hq
        have e0 : quoM may t = none := by unfold quoM; rw [hR, ← hg]; simp [hok]
        simp (disch := first | omega | assumption) only [hq, go_sem, ↓reduceIte]
        exact hQ _ _ _ _ nofun rfl (by simp [tupOf, envOf, AV.strip, AV.strip1, quoA, e0])
      · rw [hok] at hq
        have e0 : quoM may t = some ((flushM x).b, r) := by unfold quoM; rw [hR, ← hg]; simp [hok]
        simp (disch := first | omega | assumption) only [hq, byts_of, wrap64, go_sem, ↓reduceIte]
        have e1 : (p.length : Int) + 1 + 1 = ((t.length + 1 - r.length : Nat) : Int) := by omega
        exact hQ _ _ _ _ nofun rfl (by simp [tupOf, envOf, AV.strip, AV.strip1, quoA, e0, e1])
    have c1' : ¬ ((c.toNat : Int) = 34) := fun e => c1 (by apply UInt8.toNat_inj.1; show c.toNat = 34; omega)
    rw [if_neg c1] at hg
    by_cases c2 : c = 92
    · subst c2
      simp only [if_true] at hg
      have hc : ¬ (((92 : UInt8).toNat : Int) = 34) := by decide
      have hc2 : (((92 : UInt8).toNat : Int) = 92) = True := eq_true rfl
      have h3 : (((p.length + 1 : Nat) : Int) + 1 ≤ ((t.length + 1 : Nat) : Int)) = True := eq_true (by omega)
      have h4 : (((p.length + 1 : Nat) : Int) + 1).toNat = p.length + 2 := by omega
      have hdr : (a :: t).drop (p.length + 2) = r := by rw [← hp]; simp
      simp (disch := first | omega | assumption) only [h0, h1, h2, hi, hc, hc2, wrap64, h3, h4, hdr, go_sem, ↓reduceIte]
      refine goK_ret (escC hs hx r (by simp only [Lim]; omega)) fun v H1 he => ?_
      unfold EscP at he
      cases hm : escM x r with
      | none =>
        rw [hm] at he hg
        subst he
        simp (disch := first | omega | assumption) only [go_sem, ↓reduceIte]
        exact hQ _ _ _ _ nofun rfl (by simp [tupOf, envOf, AV.strip, AV.strip1, fail hg.symm])
      | some y =>
        obtain ⟨x', t'⟩ := y
        rw [hm] at he hg
        obtain ⟨hv, o3, o4, hs3⟩ := he
        subst hv
        have h5 := escM_suf hm
        have h6 := escM_w hm
        have h7 : ¬ (((r.length - t'.length : Nat) : Int) = 0) := by omega
        have h8 : ((p.length + 1 : Nat) : Int) + (1 + ((r.length - t'.length : Nat) : Int)) = ((t.length + 1 - t'.length : Nat) : Int) := by omega
        simp (disch := first | omega | assumption) only [h7, wrap64, h8, go_sem, ↓reduceIte]
        exact goJ (hJ (t', x', o3, o4) _ (by simp; omega) ⟨h5.1.trans hsr, ⟨n, by show t'.length < n; omega, hg⟩, by show x'.w + t'.length ≤ t.length; omega, hs3⟩) (by simp (disch := first | omega | assumption) only [go_sem, ↓reduceIte])
    have c2' : ¬ ((c.toNat : Int) = 92) := fun e => c2 (by apply UInt8.toNat_inj.1; show c.toNat = 92; omega)
    rw [if_neg c2] at hg
    simp (disch := first | omega | assumption) only [h0, h1, h2, hi, c1', c2', hf, go_sem, ↓reduceIte]
    refine goK_pure (hmay c) ?_
    cases hm : may c
    · rw [hm] at hg
      simp (disch := first | omega | assumption) only [go_sem, ↓reduceIte]
      exact hQ _ _ _ _ nofun rfl (by simp [tupOf, envOf, AV.strip, AV.strip1, fail hg.symm])
    · rw [hm] at hg
      simp only [if_true] at hg
      simp (disch := first | omega | assumption) only [go_sem, ↓reduceIte]
      refine goK_ret (flushC hs hx) fun v H1 ⟨hv, o', hs1⟩ => ?_
      subst hv
      obtain ⟨hq1, ho1, _, _⟩ := hs1
      have hfw := flush_w x
      have hpw := put_w x c
      have hbl := bytesOf_len (flushM x).b
      simp (disch := first | omega | assumption) only [hq1, h2, hi, go_sem, ↓reduceIte]
      refine goP_ownS (by rw [hbl]; exact ho1) (by simp [hbl]; omega) (by simp [maxLen, hbl]; omega) fun o3 H2 hs3 => ?_
      have hq2 := own_keep ho1 hq1 hs3.kept
      simp (disch := first | omega | assumption) only [hq2, wrap64, go_sem, ↓reduceIte]
      have h8 : ((p.length + 1 : Nat) : Int) + 1 = ((t.length + 1 - r.length : Nat) : Int) := by omega
      refine goJ (hJ (r, x.put c, o3, .nil) _ (by simp) ⟨hsr, ⟨n, by show r.length < n; omega, hg⟩, by show (x.put c).w + r.length ≤ t.length; omega, ?_, ?_, rfl, nofun⟩) (by simp (disch := first | omega | assumption) only [h8, go_sem, ↓reduceIte])
      · simp only [upd_same, Sd.put]
        rw [← bytesOf_app]; rfl
      · simp only [Sd.put, List.length_append, List.length_cons, List.length_nil]
        exact own_upd (by simpa [hbl] using hs3.own) hq2
end Go.Proofs.YtpjafglhdlfnbaaDoor
