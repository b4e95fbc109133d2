import Derived.Shelf.Strings.Builder1
import Derived.Shelf.Strings.Builder2
import Derived.Shelf.Strings.OnBuilder
import Derived.Shelf.Small.Utf8
import Derived.Shelf.Small.Strs
import Derived.Shelf.Small.Wraps
import Derived.Shelf.Strings.BuilderF
import Derived.Shelf.Strings.BuilderK
import Derived.Shelf.Utf8.AppendRune
import Derived.Shelf.Strconv.Itoa0
import Derived.Shelf.Strconv.Itoa1
import Derived.Shelf.LaysM
import Derived.Shelf.Strconv.Itoa2
import Derived.Shelf.Strconv.Itoa3
import Derived.Shelf.Strconv.Itoa4
import Derived.Shelf.Strconv.ParseIntEmpty
import Derived.Shelf.Strconv.Clone
import Derived.Shelf.Strconv.SyntaxError
import Derived.Shelf.LaysC
import Derived.Shelf.Strconv.ToError
import Derived.Shelf.Strconv.Lower
import Derived.Shelf.Strconv.ParseUint10
import Derived.Shelf.Strconv.ParseUint10Empty
import Derived.Shelf.Strconv.ParseUint10Any
import Derived.Shelf.Strconv.ParseInt10
import Derived.Shelf.Strconv.RangeError
import Derived.Shelf.Strconv.ToErrorRange
import Derived.Shelf.Strconv.ParseUintEmpty
import Derived.Shelf.Strconv.ParseUint10b64
import Derived.Shelf.Strconv.ParseUint10b32
import Derived.Shelf.Strconv.ParseUint10b16
import Derived.Shelf.Strconv.ParseUint10b8
import Derived.Shelf.Strconv.ParseUint10At
import Derived.Shelf.Strconv.ParseInt10At64
import Derived.Shelf.Strconv.ParseInt10At32
import Derived.Shelf.Strconv.ParseInt10At16
import Derived.Shelf.Strconv.ParseInt10At8
import Derived.Shelf.Strconv.ParseInt10All
import Derived.Shelf.Strconv.ParseIntPublic10
import Derived.Shelf.Strconv.ErrVarParseInt
import Derived.Shelf.Strings.Search1
import Derived.Shelf.Strings.Search2
import Derived.Shelf.Strings.Search3
import Derived.Shelf.Strings.Shaped
import Derived.Shelf.Strings.Prefix
import Derived.Shelf.Strings.Runes
import Derived.Shelf.Strings.IndexAny
import Derived.Shelf.Strings.AsciiSet
import Derived.Shelf.Strings.IndexAnyAll
import Derived.Shelf.Unicode.DecodeSlow
import Derived.Shelf.Unicode.DecodeAny
import Derived.Test.YtaielcdfcgpbiaaGreatDoorProg
import Derived.Shelf.Unicode.ValidAny
import Derived.Test.YtaielcdfcgpbiaaGreatDoorCards
import Derived.Test.YtaielcdfcgpbiaaGreatDoorTie
import Derived.Lib.LaidIn
import Derived.Lib.LaidU8T
import Derived.Lib.LaidTab
import Derived.Deep.DeepHandedRow
import Derived.Deep.DeepWitnessRowRef
import Derived.ProofKit
import Derived.SizedLaws
import Derived.OpenShut
import Derived.Test.YtaielcdfcgpbiaaGreatDoorRows
import Derived.JoinedOf
import Derived.Test.YtaielcdfcgpbiaaGreatDoorM1
import Derived.Test.YtaielcdfcgpbiaaGreatDoorM2
set_option maxRecDepth 100000
set_option linter.all false
namespace Go.Proofs
open Go.Shelf
def Tryz.lays156_ren:Go.Shelf.Ren:=⟨fun|156=>63|165=>133|166=>134|169=>135|240=>184|241=>185|276=>224|277=>225|n=>n,fun|31=>44|9=>9|3=>3|4=>4|0=>0|20=>20|72=>170|76=>174|70=>168|37=>163|75=>173|127=>209|164=>238|5=>5|80=>87|n=>n,fun|n=>n⟩
theorem Tryz.lays156:Go.Proofs.Lays.n156 Tryz.prog Tryz.lays156_ren:={
 mixed:=by kernel_rfl
 f156:=Tryz.func63.trans (congrArg some (by kernel_rfl))
 f165:=Tryz.func133.trans (congrArg some (by kernel_rfl))
 f166:=Tryz.func134.trans (congrArg some (by kernel_rfl))
 f169:=Tryz.func135.trans (congrArg some (by kernel_rfl))
 f240:=Tryz.func184.trans (congrArg some (by kernel_rfl))
 f241:=Tryz.func185.trans (congrArg some (by kernel_rfl))
 f276:=Tryz.func224.trans (congrArg some (by kernel_rfl))
 f277:=Tryz.func225.trans (congrArg some (by kernel_rfl))
 t0:=Tryz.underlying0
 a0:=Tryz.isAgg0
 z0:=Tryz.sizeOf0
 v0:=Tryz.zeroValue0
 t3:=Tryz.underlying3
 a3:=Tryz.isAgg3
 z3:=Tryz.sizeOf3
 v3:=Tryz.zeroValue3
 t4:=Tryz.underlying4
 a4:=Tryz.isAgg4
 z4:=Tryz.sizeOf4
 v4:=Tryz.zeroValue4
 t9:=Tryz.underlying9
 a9:=Tryz.isAgg9
 z9:=Tryz.sizeOf9
 v9:=Tryz.zeroValue9
 t20:=Tryz.underlying20
 a20:=Tryz.isAgg20
 z20:=Tryz.sizeOf20
 v20:=Tryz.zeroValue20
 t31:=Tryz.underlying44
 a31:=Tryz.isAgg44
 z31:=Tryz.sizeOf44
 v31:=Tryz.zeroValue44
 t37:=Tryz.underlying163
 a37:=Tryz.isAgg163
 z37:=Tryz.sizeOf163
 v37:=Tryz.zeroValue163
 t70:=Tryz.underlying168
 a70:=Tryz.isAgg168
 z70:=Tryz.sizeOf168
 v70:=Tryz.zeroValue168
 t72:=Tryz.underlying170
 a72:=Tryz.isAgg170
 z72:=Tryz.sizeOf170
 v72:=Tryz.zeroValue170
 t75:=Tryz.underlying173
 a75:=Tryz.isAgg173
 z75:=Tryz.sizeOf173
 v75:=Tryz.zeroValue173
 t76:=Tryz.underlying174
 a76:=Tryz.isAgg174
 z76:=Tryz.sizeOf174
 v76:=Tryz.zeroValue174
 t127:=Tryz.underlying209
 a127:=Tryz.isAgg209
 z127:=Tryz.sizeOf209
 v127:=Tryz.zeroValue209
 t164:=Tryz.underlying238
 a164:=Tryz.isAgg238
 z164:=Tryz.sizeOf238
 v164:=Tryz.zeroValue238 }
def Tryz.lays137_ren:Go.Shelf.Ren:=⟨fun|137=>122|217=>178|266=>221|n=>n,fun|9=>9|5=>5|3=>3|n=>n,fun|n=>n⟩
theorem Tryz.lays137:Go.Proofs.Lays.n137 Tryz.prog Tryz.lays137_ren:={
 mixed:=by kernel_rfl
 f137:=Tryz.func122.trans (congrArg some (by kernel_rfl))
 f217:=Tryz.func178.trans (congrArg some (by kernel_rfl))
 f266:=Tryz.func221.trans (congrArg some (by kernel_rfl))
 t3:=Tryz.underlying3
 a3:=Tryz.isAgg3
 z3:=Tryz.sizeOf3
 v3:=Tryz.zeroValue3
 t5:=Tryz.underlying5
 a5:=Tryz.isAgg5
 z5:=Tryz.sizeOf5
 v5:=Tryz.zeroValue5
 t9:=Tryz.underlying9
 a9:=Tryz.isAgg9
 z9:=Tryz.sizeOf9
 v9:=Tryz.zeroValue9 }
def Tryz.laysC174_ren:Go.Shelf.Ren:=⟨fun|174=>151|247=>198|245=>199|287=>234|279=>235|280=>236|281=>237|282=>238|321=>255|322=>256|316=>257|171=>259|205=>258|243=>273|246=>277|283=>284|284=>285|285=>286|286=>287|129=>293|317=>292|318=>294|319=>295|320=>296|337=>299|338=>300|n=>n,fun|9=>9|3=>3|2=>2|75=>173|85=>190|4=>4|167=>244|5=>5|53=>245|175=>246|46=>134|168=>248|37=>163|0=>0|210=>260|21=>21|127=>209|145=>273|143=>271|171=>279|173=>282|212=>286|51=>267|20=>20|213=>287|232=>290|233=>291|80=>87|n=>n,fun|15=>3|16=>4|17=>5|18=>6|19=>7|n=>n⟩
theorem Tryz.laysC174:Go.Proofs.LaysC.n174 Tryz.prog Tryz.laysC174_ren:={
 mixed:=by kernel_rfl
 f129:=Tryz.func293.trans (congrArg some (by kernel_rfl))
 f171:=Tryz.func259.trans (congrArg some (by kernel_rfl))
 f174:=Tryz.func151.trans (congrArg some (by kernel_rfl))
 f205:=Tryz.func258.trans (congrArg some (by kernel_rfl))
 f243:=Tryz.func273.trans (congrArg some (by kernel_rfl))
 f245:=Tryz.func199.trans (congrArg some (by kernel_rfl))
 f246:=Tryz.func277.trans (congrArg some (by kernel_rfl))
 f247:=Tryz.func198.trans (congrArg some (by kernel_rfl))
 f279:=Tryz.func235.trans (congrArg some (by kernel_rfl))
 f280:=Tryz.func236.trans (congrArg some (by kernel_rfl))
 f281:=Tryz.func237.trans (congrArg some (by kernel_rfl))
 f282:=Tryz.func238.trans (congrArg some (by kernel_rfl))
 f283:=Tryz.func284.trans (congrArg some (by kernel_rfl))
 f284:=Tryz.func285.trans (congrArg some (by kernel_rfl))
 f285:=Tryz.func286.trans (congrArg some (by kernel_rfl))
 f286:=Tryz.func287.trans (congrArg some (by kernel_rfl))
 f287:=Tryz.func234.trans (congrArg some (by kernel_rfl))
 f316:=Tryz.func257.trans (congrArg some (by kernel_rfl))
 f317:=Tryz.func292.trans (congrArg some (by kernel_rfl))
 f318:=Tryz.func294.trans (congrArg some (by kernel_rfl))
 f319:=Tryz.func295.trans (congrArg some (by kernel_rfl))
 f320:=Tryz.func296.trans (congrArg some (by kernel_rfl))
 f321:=Tryz.func255.trans (congrArg some (by kernel_rfl))
 f322:=Tryz.func256.trans (congrArg some (by kernel_rfl))
 f337:=Tryz.func299.trans (congrArg some (by kernel_rfl))
 f338:=Tryz.func300.trans (congrArg some (by kernel_rfl))
 t0:=Tryz.underlying0
 a0:=Tryz.isAgg0
 z0:=Tryz.sizeOf0
 v0:=Tryz.zeroValue0
 t2:=Tryz.underlying2
 a2:=Tryz.isAgg2
 z2:=Tryz.sizeOf2
 v2:=Tryz.zeroValue2
 t3:=Tryz.underlying3
 a3:=Tryz.isAgg3
 z3:=Tryz.sizeOf3
 v3:=Tryz.zeroValue3
 t4:=Tryz.underlying4
 a4:=Tryz.isAgg4
 z4:=Tryz.sizeOf4
 v4:=Tryz.zeroValue4
 t5:=Tryz.underlying5
 a5:=Tryz.isAgg5
 z5:=Tryz.sizeOf5
 v5:=Tryz.zeroValue5
 t9:=Tryz.underlying9
 a9:=Tryz.isAgg9
 z9:=Tryz.sizeOf9
 v9:=Tryz.zeroValue9
 t20:=Tryz.underlying20
 a20:=Tryz.isAgg20
 z20:=Tryz.sizeOf20
 v20:=Tryz.zeroValue20
 t21:=Tryz.underlying21
 a21:=Tryz.isAgg21
 z21:=Tryz.sizeOf21
 v21:=Tryz.zeroValue21
 t37:=Tryz.underlying163
 a37:=Tryz.isAgg163
 z37:=Tryz.sizeOf163
 v37:=Tryz.zeroValue163
 t46:=Tryz.underlying134
 a46:=Tryz.isAgg134
 z46:=Tryz.sizeOf134
 v46:=Tryz.zeroValue134
 t51:=Tryz.underlying267
 a51:=Tryz.isAgg267
 z51:=Tryz.sizeOf267
 v51:=Tryz.zeroValue267
 t53:=Tryz.underlying245
 a53:=Tryz.isAgg245
 z53:=Tryz.sizeOf245
 v53:=Tryz.zeroValue245
 t75:=Tryz.underlying173
 a75:=Tryz.isAgg173
 z75:=Tryz.sizeOf173
 v75:=Tryz.zeroValue173
 t85:=Tryz.underlying190
 a85:=Tryz.isAgg190
 z85:=Tryz.sizeOf190
 v85:=Tryz.zeroValue190
 t127:=Tryz.underlying209
 a127:=Tryz.isAgg209
 z127:=Tryz.sizeOf209
 v127:=Tryz.zeroValue209
 t143:=Tryz.underlying271
 a143:=Tryz.isAgg271
 z143:=Tryz.sizeOf271
 v143:=Tryz.zeroValue271
 t145:=Tryz.underlying273
 a145:=Tryz.isAgg273
 z145:=Tryz.sizeOf273
 v145:=Tryz.zeroValue273
 t167:=Tryz.underlying244
 a167:=Tryz.isAgg244
 z167:=Tryz.sizeOf244
 v167:=Tryz.zeroValue244
 t168:=Tryz.underlying248
 a168:=Tryz.isAgg248
 z168:=Tryz.sizeOf248
 v168:=Tryz.zeroValue248
 t171:=Tryz.underlying279
 a171:=Tryz.isAgg279
 z171:=Tryz.sizeOf279
 v171:=Tryz.zeroValue279
 t173:=Tryz.underlying282
 a173:=Tryz.isAgg282
 z173:=Tryz.sizeOf282
 v173:=Tryz.zeroValue282
 t175:=Tryz.underlying246
 a175:=Tryz.isAgg246
 z175:=Tryz.sizeOf246
 v175:=Tryz.zeroValue246
 t210:=Tryz.underlying260
 a210:=Tryz.isAgg260
 z210:=Tryz.sizeOf260
 v210:=Tryz.zeroValue260
 t212:=Tryz.underlying286
 a212:=Tryz.isAgg286
 z212:=Tryz.sizeOf286
 v212:=Tryz.zeroValue286
 t213:=Tryz.underlying287
 a213:=Tryz.isAgg287
 z213:=Tryz.sizeOf287
 t232:=Tryz.underlying290
 a232:=Tryz.isAgg290
 z232:=Tryz.sizeOf290
 v232:=Tryz.zeroValue290
 t233:=Tryz.underlying291
 a233:=Tryz.isAgg291
 z233:=Tryz.sizeOf291
 v233:=Tryz.zeroValue291
 g15:=by kernel_rfl
 g16:=by kernel_rfl
 g17:=by kernel_rfl
 g18:=by kernel_rfl
 g19:=by kernel_rfl
 t80:=Tryz.underlying87
 a80:=Tryz.isAgg87
 z80:=Tryz.sizeOf87
 v80:=Tryz.zeroValue87
 i0:=by kernel_rfl
 i2:=by kernel_rfl
 i3:=by kernel_rfl
 i4:=by kernel_rfl
 i5:=by kernel_rfl
 i9:=by kernel_rfl
 i20:=by kernel_rfl
 i21:=by kernel_rfl
 i37:=by kernel_rfl
 i46:=by kernel_rfl
 i51:=by kernel_rfl
 i53:=by kernel_rfl
 i75:=by kernel_rfl
 i80:=by kernel_rfl
 i85:=by kernel_rfl
 i127:=by kernel_rfl
 i143:=by kernel_rfl
 i145:=by kernel_rfl
 i167:=by kernel_rfl
 i168:=by kernel_rfl
 i171:=by kernel_rfl
 i173:=by kernel_rfl
 i175:=by kernel_rfl
 i210:=by kernel_rfl
 i212:=by kernel_rfl
 i232:=by kernel_rfl
 i233:=by kernel_rfl
 m15:=by kernel_rfl
 m16:=by kernel_rfl
 m17:=by kernel_rfl
 m18:=by kernel_rfl
 m19:=by kernel_rfl
 c0:=by kernel_rfl
 c2:=by kernel_rfl
 c3:=by kernel_rfl
 c4:=by kernel_rfl
 c5:=by kernel_rfl
 c9:=by kernel_rfl
 c20:=by kernel_rfl
 c21:=by kernel_rfl
 c37:=by kernel_rfl
 c46:=by kernel_rfl
 c51:=by kernel_rfl
 c53:=by kernel_rfl
 c75:=by kernel_rfl
 c80:=by kernel_rfl
 c85:=by kernel_rfl
 c127:=by kernel_rfl
 c143:=by kernel_rfl
 c145:=by kernel_rfl
 c167:=by kernel_rfl
 c168:=by kernel_rfl
 c171:=by kernel_rfl
 c173:=by kernel_rfl
 c175:=by kernel_rfl
 c210:=by kernel_rfl
 c212:=by kernel_rfl
 c213:=by kernel_rfl
 c232:=by kernel_rfl
 c233:=by kernel_rfl }
def Tryz.lays99_ren:Go.Shelf.Ren:=⟨fun|99=>117|206=>170|n=>n,fun|9=>9|4=>4|3=>3|n=>n,fun|n=>n⟩
theorem Tryz.lays99:Go.Proofs.Lays.n99 Tryz.prog Tryz.lays99_ren:={
 mixed:=by kernel_rfl
 f99:=Tryz.func117.trans (congrArg some (by kernel_rfl))
 f206:=Tryz.func170.trans (congrArg some (by kernel_rfl))
 t3:=Tryz.underlying3
 a3:=Tryz.isAgg3
 z3:=Tryz.sizeOf3
 v3:=Tryz.zeroValue3
 t4:=Tryz.underlying4
 a4:=Tryz.isAgg4
 z4:=Tryz.sizeOf4
 v4:=Tryz.zeroValue4
 t9:=Tryz.underlying9
 a9:=Tryz.isAgg9
 z9:=Tryz.sizeOf9
 v9:=Tryz.zeroValue9 }
def Tryz.lays153_ren:Go.Shelf.Ren:=⟨fun|153=>118|152=>171|226=>172|227=>173|228=>174|137=>122|119=>213|224=>214|225=>215|217=>178|266=>221|n=>n,fun|9=>9|3=>3|4=>4|5=>5|21=>21|117=>204|116=>203|0=>0|46=>134|124=>228|n=>n,fun|n=>n⟩
theorem Tryz.lays153:Go.Proofs.Lays.n153 Tryz.prog Tryz.lays153_ren:={
 mixed:=by kernel_rfl
 f119:=Tryz.func213.trans (congrArg some (by kernel_rfl))
 f137:=Tryz.func122.trans (congrArg some (by kernel_rfl))
 f152:=Tryz.func171.trans (congrArg some (by kernel_rfl))
 f153:=Tryz.func118.trans (congrArg some (by kernel_rfl))
 f217:=Tryz.func178.trans (congrArg some (by kernel_rfl))
 f224:=Tryz.func214.trans (congrArg some (by kernel_rfl))
 f225:=Tryz.func215.trans (congrArg some (by kernel_rfl))
 f226:=Tryz.func172.trans (congrArg some (by kernel_rfl))
 f227:=Tryz.func173.trans (congrArg some (by kernel_rfl))
 f228:=Tryz.func174.trans (congrArg some (by kernel_rfl))
 f266:=Tryz.func221.trans (congrArg some (by kernel_rfl))
 t0:=Tryz.underlying0
 a0:=Tryz.isAgg0
 z0:=Tryz.sizeOf0
 v0:=Tryz.zeroValue0
 t3:=Tryz.underlying3
 a3:=Tryz.isAgg3
 z3:=Tryz.sizeOf3
 v3:=Tryz.zeroValue3
 t4:=Tryz.underlying4
 a4:=Tryz.isAgg4
 z4:=Tryz.sizeOf4
 v4:=Tryz.zeroValue4
 t5:=Tryz.underlying5
 a5:=Tryz.isAgg5
 z5:=Tryz.sizeOf5
 v5:=Tryz.zeroValue5
 t9:=Tryz.underlying9
 a9:=Tryz.isAgg9
 z9:=Tryz.sizeOf9
 v9:=Tryz.zeroValue9
 t21:=Tryz.underlying21
 a21:=Tryz.isAgg21
 z21:=Tryz.sizeOf21
 v21:=Tryz.zeroValue21
 t46:=Tryz.underlying134
 a46:=Tryz.isAgg134
 z46:=Tryz.sizeOf134
 v46:=Tryz.zeroValue134
 t116:=Tryz.underlying203
 a116:=Tryz.isAgg203
 z116:=Tryz.sizeOf203
 t117:=Tryz.underlying204
 a117:=Tryz.isAgg204
 z117:=Tryz.sizeOf204
 v117:=Tryz.zeroValue204
 t124:=Tryz.underlying228
 a124:=Tryz.isAgg228
 z124:=Tryz.sizeOf228
 v124:=Tryz.zeroValue228 }
def Tryz.lays197_ren:Go.Shelf.Ren:=⟨fun|197=>169|260=>212|n=>n,fun|9=>9|21=>21|3=>3|4=>4|5=>5|105=>199|119=>234|0=>0|46=>134|139=>237|138=>236|n=>n,fun|3=>0|4=>1|n=>n⟩
theorem Tryz.lays197:Go.Proofs.Lays.n197 Tryz.prog Tryz.lays197_ren:={
 mixed:=by kernel_rfl
 f197:=Tryz.func169.trans (congrArg some (by kernel_rfl))
 f260:=Tryz.func212.trans (congrArg some (by kernel_rfl))
 t0:=Tryz.underlying0
 a0:=Tryz.isAgg0
 z0:=Tryz.sizeOf0
 v0:=Tryz.zeroValue0
 t3:=Tryz.underlying3
 a3:=Tryz.isAgg3
 z3:=Tryz.sizeOf3
 v3:=Tryz.zeroValue3
 t4:=Tryz.underlying4
 a4:=Tryz.isAgg4
 z4:=Tryz.sizeOf4
 v4:=Tryz.zeroValue4
 t5:=Tryz.underlying5
 a5:=Tryz.isAgg5
 z5:=Tryz.sizeOf5
 v5:=Tryz.zeroValue5
 t9:=Tryz.underlying9
 a9:=Tryz.isAgg9
 z9:=Tryz.sizeOf9
 v9:=Tryz.zeroValue9
 t21:=Tryz.underlying21
 a21:=Tryz.isAgg21
 z21:=Tryz.sizeOf21
 v21:=Tryz.zeroValue21
 t46:=Tryz.underlying134
 a46:=Tryz.isAgg134
 z46:=Tryz.sizeOf134
 v46:=Tryz.zeroValue134
 t105:=Tryz.underlying199
 a105:=Tryz.isAgg199
 z105:=Tryz.sizeOf199
 v105:=Tryz.zeroValue199
 t119:=Tryz.underlying234
 a119:=Tryz.isAgg234
 z119:=Tryz.sizeOf234
 t138:=Tryz.underlying236
 a138:=Tryz.isAgg236
 z138:=Tryz.sizeOf236
 v138:=Tryz.zeroValue236
 t139:=Tryz.underlying237
 a139:=Tryz.isAgg237
 z139:=Tryz.sizeOf237
 v139:=Tryz.zeroValue237
 g3:=by kernel_rfl
 g4:=by kernel_rfl }
open Go.RowKit in
theorem Tryz.strings_IndexByte (s:ByteArray) (c:Int) (w:World) :
  Calls Tryz.prog 122 #[.string s,.int .u8 c] w fun e w'=>e=.returned (.int .i64 (Lib.indexByte s.data.toList c.toNat.toUInt8))∧w'=w:=Any.strings_IndexByte Tryz.lays137 s c w
open Go.RowKit in
theorem Tryz.strconv_ParseInt_10_at64_ok (s:ByteArray) (hmax:s.size≤9223372036854775806) (v:Int) (h:Lib.parseIntB 64 s.data.toList=.ok v) (w:World) :
  Calls Tryz.prog 151 #[.string s,.int .i64 10,.int .i64 64] w fun e w'=>e=.returned (.tuple #[.int .i64 v,.nilIface])∧(w'=w∨∃ t,w'=Lib.bytesWorld w 5 t):=Any.strconv_ParseInt_10_at64_ok Tryz.laysC174 s hmax v h w
open Go.RowKit in
theorem Tryz.strconv_ParseInt_10_at64_syntax (s:ByteArray) (hlim:s.size≤281474976710656) (h:Lib.parseIntB 64 s.data.toList=Lib.NumEnd.syntax) (ev:Value) (w:World) (hv:w.cell? ⟨3,0,none⟩=some ev) (hev:ev=.nilIface∨∃ te pe,ev=.iface te pe) :
  Calls Tryz.prog 151 #[.string s,.int .i64 10,.int .i64 64] w fun e w'=>∃ N,e=.returned (.tuple #[.int .i64 (0),.iface 248 (.pointer (some ⟨N,0,none⟩))])∧w.heap.size≤N∧w'.heap[N]?=some (.cells #[.string ⟨#[80,97,114,115,101,73,110,116]⟩,.string s,ev] 260 (0,0))∧Below w.heap.size w w':=Any.strconv_ParseInt_10_at64_syntax Tryz.laysC174 s hlim h ev w hv hev
open Go.RowKit in
theorem Tryz.strconv_ParseInt_10_at64_range (s:ByteArray) (hlim:s.size≤281474976710656) (h:Lib.parseIntB 64 s.data.toList=.range) (ev:Value) (w:World) (hv:w.cell? ⟨4,0,none⟩=some ev) (hev:ev=.nilIface∨∃ te pe,ev=.iface te pe) :
  Calls Tryz.prog 151 #[.string s,.int .i64 10,.int .i64 64] w fun e w'=>∃ N,e=.returned (.tuple #[.int .i64 (Lib.intSat 64 s.data.toList),.iface 248 (.pointer (some ⟨N,0,none⟩))])∧w.heap.size≤N∧w'.heap[N]?=some (.cells #[.string ⟨#[80,97,114,115,101,73,110,116]⟩,.string s,ev] 260 (0,0))∧Below w.heap.size w w':=Any.strconv_ParseInt_10_at64_range Tryz.laysC174 s hlim h ev w hv hev
open Go.RowKit Go.Lib in
theorem Tryz.strings_HasPrefix (s p:ByteArray) (w:World) :
  Calls Tryz.prog 117 #[.string s,.string p] w fun e w'=>e=.returned (.bool (Lib.hasPrefix s.data.toList p.data.toList))∧w'=w:=Any.strings_HasPrefix Tryz.lays99 s p w
open Go.RowKit Go.Lib in
theorem Tryz.strings_IndexAny_long (hv116:∀ w,(zeroValue 203).run Tryz.prog w=.ok (.agg (Array.replicate 256 (.bool false))) w) (s chars:ByteArray) (w:World) (h2:2≤chars.size) (h8:8<s.size) (hs:s.size<4294967281) (hcs:chars.size<4294967281) (hascii:∀(j:Nat) b,chars.data.toList[j]?=some b→b.toNat<128) :
  Calls Tryz.prog 118 #[.string s,.string chars] w fun e w'=>e=.returned (.int .i64 (Lib.indexAny s.data.toList chars.data.toList))∧w'=((w.alloc (.cells (Lib.setCells chars.data.toList) 203)).alloc (.cells (Lib.setCells chars.data.toList) 203)):=Any.strings_IndexAny_long Tryz.lays153 hv116 (by kernel_rfl) s chars w h2 h8 hs hcs hascii
open Go.RowKit Go.Lib in
theorem Tryz.utf8_DecodeRuneInString (s:ByteArray) (w:World) (hT:Lib.Utf8Tabs 0 1 w) :
  Calls Tryz.prog 169 #[.string s] w fun e w'=>e=.returned (.tuple #[.int .i32 (Lib.decodeGo s).1,.int .i64 (Lib.decodeGo s).2])∧Below w.heap.size w w':=Any.utf8_DecodeRuneInString Tryz.lays197 s w hT
def Tryz.lays196_ren:Go.Shelf.Ren:=⟨fun|196=>183|259=>223|n=>n,fun|9=>9|4=>4|3=>3|5=>5|12=>12|119=>234|0=>0|46=>134|139=>237|138=>236|53=>245|n=>n,fun|3=>0|4=>1|n=>n⟩
theorem Tryz.lays196:Go.Proofs.Lays.n196 Tryz.prog Tryz.lays196_ren:={
 mixed:=by kernel_rfl
 f196:=Tryz.func183.trans (congrArg some (by kernel_rfl))
 f259:=Tryz.func223.trans (congrArg some (by kernel_rfl))
 t0:=Tryz.underlying0
 a0:=Tryz.isAgg0
 z0:=Tryz.sizeOf0
 v0:=Tryz.zeroValue0
 t3:=Tryz.underlying3
 a3:=Tryz.isAgg3
 z3:=Tryz.sizeOf3
 v3:=Tryz.zeroValue3
 t4:=Tryz.underlying4
 a4:=Tryz.isAgg4
 z4:=Tryz.sizeOf4
 v4:=Tryz.zeroValue4
 t5:=Tryz.underlying5
 a5:=Tryz.isAgg5
 z5:=Tryz.sizeOf5
 v5:=Tryz.zeroValue5
 t9:=Tryz.underlying9
 a9:=Tryz.isAgg9
 z9:=Tryz.sizeOf9
 v9:=Tryz.zeroValue9
 t12:=Tryz.underlying12
 a12:=Tryz.isAgg12
 z12:=Tryz.sizeOf12
 v12:=Tryz.zeroValue12
 t46:=Tryz.underlying134
 a46:=Tryz.isAgg134
 z46:=Tryz.sizeOf134
 v46:=Tryz.zeroValue134
 t53:=Tryz.underlying245
 a53:=Tryz.isAgg245
 z53:=Tryz.sizeOf245
 v53:=Tryz.zeroValue245
 t119:=Tryz.underlying234
 a119:=Tryz.isAgg234
 z119:=Tryz.sizeOf234
 t138:=Tryz.underlying236
 a138:=Tryz.isAgg236
 z138:=Tryz.sizeOf236
 v138:=Tryz.zeroValue236
 t139:=Tryz.underlying237
 a139:=Tryz.isAgg237
 z139:=Tryz.sizeOf237
 v139:=Tryz.zeroValue237
 g3:=by kernel_rfl
 g4:=by kernel_rfl }
end Go.Proofs
namespace Go.Proofs.YtaielcdfcgpbiaaGreatDoor
open Go.Ab Go.RowKit Go.Sort Go.Lib
theorem zeM {γ:Gh} {w w':World} (h:Below w.heap.size w w'):Ext (fun _=>False) γ w γ w':=by
 refine⟨⟨h.size,fun b o v hc hp=>⟨hp,?_⟩,fun b arr E fr hb=>⟨arr,?_,rfl⟩⟩,h.os,h.output,fun a ha=>?_,fun b hb _=>⟨rfl,h.block b hb⟩⟩
 ·have hlt:=World.block_lt_of_cell? w _ hc
  unfold World.cell? at hc ⊢
  rw[h.block _ hlt];exact hc
 ·have hlt:=(yV.1 hb).1
  rw[h.block b hlt];exact hb
 ·exact World.frozen?_of_block (h.block _ ha)
theorem Pure.of_below {P:Program} {f:FuncId} {args:List AV} {r:AV} (h:∀(γ:Gh) (w:World) (vs:List Value),TabOk γ w→RepAll γ w args vs→Calls P f vs.toArray w fun e w'=>Below w.heap.size w w'∧∃ v,e=.returned v∧Rep γ w' r v):Pure P f args r:=by
 intro γ w vs ht _ hv
 refine(h γ w vs ht hv).mono fun e w' ⟨hw,v,he,hr⟩=>?_
 subst he
 exact⟨γ,Heap.emp,.ret r,(zeM hw).weaken fun _ f=>f.elim,fun b o hb=>by simp[Heap.emp] at hb,fun b hb=>by simp[Heap.emp] at hb,hr,rfl,rfl⟩
theorem zcz (w:World) (e:TypeId) (t:ByteArray):Below w.heap.size w (Lib.bytesWorld w e t):=by
 have h1:Below w.heap.size w (w.drew.alloc (.cells (bytesCells w e t) e)):=(Below.refl _ w).drew.alloc (Al4 _) _
 unfold Lib.bytesWorld World.freeze
 simp only[Nat.one_ne_zero,if_false]
 refine⟨h1.os,h1.tape,h1.output,?_,fun i hi=>?_⟩
 ·rw[Array.size_modify];exact h1.size
 ·rw[Array.getElem?_modify]
  have:¬ (w.heap.size=i):=by omega
  simp only[this,if_false]
  exact h1.block i hi
theorem zaI {γ:Gh} {w:World} (h:TabOk γ w) {i b:Nat} {ps:List (Value→Prop)} (hi:tabL[i]?=some (b,ps)) {j:Nat} {p:Value→Prop} (hj:ps[j]?=some p):∃ v,w.cell? ⟨b,j,none⟩=some v∧p v:=by
 obtain⟨v,h1,h2⟩:=(h _ (List.mem_of_getElem? hi)).2 j p hj
 exact⟨v,h1.1,h2⟩
theorem zfL:∀ c:Fin 256,Go.Pinned.utf8FirstZ[c.val]?=some (Lib.firstT c.val):=by decide +kernel
def zdM:List Nat:=[128,191,160,191,128,159,144,191,128,143,0,0,0,0,0,0,0,0,0,0,0,0,0,0,0,0,0,0,0,0,0,0]
theorem zhv:∀ c:Fin 16,zdM[2*c.val]?=some (Lib.accLo c.val)∧zdM[2*c.val+1]?=some (Lib.accHi c.val):=by decide +kernel
theorem zfj {γ:Gh} {w:World} (h:TabOk γ w):Lib.Utf8Tabs 0 1 w:=by
 refine⟨fun c hc=>?_,fun c hc=>?_⟩
 ·have hf:=zfL ⟨c,hc⟩
  obtain⟨v,h1,h2⟩:=zaI h (i:=0) rfl (j:=c) (p:=fun v=>v=.int .u8 (Lib.firstT c)) (by rw[yg,hf];rfl)
  rw[h1,h2]
 ·obtain⟨g1,g2⟩:=zhv ⟨c,hc⟩
  have hi:tabL[1]?=some (1,zdM.map fun(n:Nat) (v:Value)=>v=.int .u8 n):=rfl
  obtain⟨v,h1,h2⟩:=zaI h hi (j:=2*c) (p:=fun v=>v=.int .u8 (Lib.accLo c)) (by rw[yg,g1];rfl)
  obtain⟨u,h3,h4⟩:=zaI h hi (j:=2*c+1) (p:=fun v=>v=.int .u8 (Lib.accHi c)) (by rw[yg,g2];rfl)
  exact⟨by rw[h1,h2],by rw[h3,h4]⟩
theorem zgr {γ:Gh} {w:World} {s:List UInt8} {vs:List Value} (h:RepAll γ w [.str s] vs):vs=[.string ⟨s.toArray⟩]:=by
 obtain⟨hl,hr⟩:=h
 match vs,hl with
 | [v],_=>cases hr 0 _ _ rfl rfl;rfl
theorem Zm (s p:List UInt8):Pure Tryz.prog 117 [.str s,.str p] (.bool (p.isPrefixOf s)):=by
 refine Pure.of_below fun γ w vs ht hv=>?_
 obtain⟨hl,hr⟩:=hv
 match vs,hl with
 | [v,u],_ =>
  cases hr 0 _ _ rfl rfl
  cases hr 1 _ _ rfl rfl
  exact(Tryz.strings_HasPrefix ⟨s.toArray⟩ ⟨p.toArray⟩ w).mono fun e w' ⟨he,hw⟩=>⟨by rw[hw];exact Below.refl _ _,_,he,.bool _⟩
theorem zcH {γ:Gh} {w:World} (h:TabOk γ w):∃ v,w.cell? ⟨4,0,none⟩=some v∧∃ te pe,v=.iface te pe:=zaI h (i:=4) rfl (j:=0) rfl
theorem zcm {γ:Gh} {w:World} (h:TabOk γ w):∃ v,w.cell? ⟨3,0,none⟩=some v∧∃ te pe,v=.iface te pe:=zaI h (i:=3) rfl (j:=0) rfl
def zaN (s:List UInt8):AV :=
 match Lib.parseIntB 64 s with
 | .ok v=>.tup [.int .i64 v,.oth .nilIface]
 | Lib.NumEnd.syntax=>.tup [.int .i64 0,.ifc 248 .any]
 | .range=>.tup [.int .i64 (Lib.intSat 64 s),.ifc 248 .any]
theorem zar {γ:Gh} {w:World} {a b:AV} {v u:Value} (h1:Rep γ w a v) (h2:Rep γ w b u):Rep γ w (.tup [a,b]) (.tuple #[v,u]):=.tup _ [v,u] rfl (RepAll.cons h1 (RepAll.cons h2 RepAll.nil)).2
theorem zeS (s:List UInt8) (hs:s.length≤281474976710656):Pure Tryz.prog 151 [.str s,.int .i64 10,.int .i64 64] (zaN s):=by
 refine Pure.of_below fun γ w vs ht hv=>?_
 obtain⟨hl,hr⟩:=hv
 match vs,hl with
 | [v,u,x],_ =>
  cases hr 0 _ _ rfl rfl
  cases hr 1 _ _ rfl rfl
  cases hr 2 _ _ rfl rfl
  have hsz:(⟨s.toArray⟩:ByteArray).size=s.length:=rfl
  unfold zaN
  rcases hp:Lib.parseIntB 64 s with v|_|_
  ·refine(Tryz.strconv_ParseInt_10_at64_ok ⟨s.toArray⟩ (by rw[hsz];omega) v hp w).mono fun e w' ⟨he,hw⟩=>⟨?_,_,he,zar (.int _ _) (.oth _)⟩
   rcases hw with rfl|⟨t,rfl⟩
   ·exact Below.refl _ _
   ·exact zcz _ _ _
  ·obtain⟨ev,h1,h2⟩:=zcm ht
   exact(Tryz.strconv_ParseInt_10_at64_syntax ⟨s.toArray⟩ (by rw[hsz];omega) hp ev w h1 (.inr h2)).mono fun e w' ⟨N,he,_,_,hb⟩=>⟨hb,_,he,zar (.int _ _) (.ifc _ _ _ (.any _))⟩
  ·obtain⟨ev,h1,h2⟩:=zcH ht
   exact(Tryz.strconv_ParseInt_10_at64_range ⟨s.toArray⟩ (by rw[hsz];omega) hp ev w h1 (.inr h2)).mono fun e w' ⟨N,he,_,_,hb⟩=>⟨hb,_,he,zar (.int _ _) (.ifc _ _ _ (.any _))⟩
end Go.Proofs.YtaielcdfcgpbiaaGreatDoor
namespace Go.Proofs.YtaielcdfcgpbiaaGreatDoor
open Go.Ab Go.Lib
open Go.ChangeShapes Go.WideShapes Go.ChangeAt Go.RowKit Go.WideElems
mutual
theorem Zj {H:Type}:∀ d:DataW H,Rows.uptoBulk d=blk d
 | .lit (.string _)=>rfl
 | .lit (.bool _)=>rfl
 | .lit (.int _ _)=>rfl
 | .lit (.float _ _)=>rfl
 | .lit .nil=>rfl
 | .nil=>rfl
 | .ptr d=>by simp only[Rows.uptoBulk,blk,Zj d]
 | .slice e s=>by simp only[Rows.uptoBulk,blk,Ze e,Ze s]
 | .agg e=>by simp only[Rows.uptoBulk,blk,Ze e]
 | .iface _ d=>by simp only[Rows.uptoBulk,blk,Zj d]
 | .map e=>by simp only[Rows.uptoBulk,blk,zbY e]
 | .held _=>rfl
theorem Ze {H:Type}:∀ d:List (DataW H),Rows.uptoBulkAll d=blkAll d
 | []=>rfl
 | d::r=>by simp only[Rows.uptoBulkAll,blkAll,Zj d,Ze r]
theorem zbY {H:Type}:∀ d:List (Lit×DataW H),Rows.uptoBulkEntries d=blkEs d
 | []=>rfl
 | x::r=>by simp only[Rows.uptoBulkEntries,blkEs,zfw x,zbY r]
theorem zfw {H:Type}:∀ d:Lit×DataW H,Rows.uptoBulkEntry d=blkE d
 | (.string _,d)=>by simp only[Rows.uptoBulkEntry,blkE,Zj d]
 | (.bool _,d)=>by simp only[Rows.uptoBulkEntry,blkE,Zj d]
 | (.int _ _,d)=>by simp only[Rows.uptoBulkEntry,blkE,Zj d]
 | (.float _ _,d)=>by simp only[Rows.uptoBulkEntry,blkE,Zj d]
 | (.nil,d)=>by simp only[Rows.uptoBulkEntry,blkE,Zj d]
end
def yi (W:World) (g:Nat) (ps:List (Value→Prop)):Prop :=
 (∃(arr:Array Value) (E:TypeId) (fr:Nat×Nat),W.heap[g]?=some (.cells arr E fr)∧arr.size=ps.length)∧∀(j:Nat) (p:Value→Prop),ps[j]?=some p→∃ v,CellIs immG W g j v∧p v
theorem ZI {W:World} {n:String} {g:Nat} {cs:Array Value} {ps:List (Value→Prop)} (hg:Tryz.prog.globalNamed n=some g) (hv:W.var? Tryz.prog n=some cs) (hl:cs.size=ps.length)
  (h:∀(j:Nat) (p:Value→Prop) v,ps[j]?=some p→cs[j]?=some v→v.oneCell'=true∧p v):yi W g ps:=by
 refine⟨?_,fun j p hp=>?_⟩
 ·have h1:=hv
  simp only[World.var?,hg,Option.bind_some] at h1
  split at h1
  ·rename_i c t fr he
   cases h1
   exact⟨_,_,_,he,hl⟩
  ·cases h1
 ·have hj:j<cs.size:=by
   have:=(yy.1 hp).1
   omega
  have h1:=h j p cs[j] hp (Array.getElem?_eq_getElem hj)
  refine⟨cs[j],⟨?_,trivial,h1.1⟩,h1.2⟩
  rw[World.var?_cell hg hv j,Array.getElem?_eq_getElem hj]
theorem ZL {W:World} {n:String} {g cnt:Nat} {t e:TypeId} {k:IntKind} {zs:List Nat} (hg:Tryz.prog.globalNamed n=some g) (hty:(Tryz.prog.globals[g]?).map (·.type)=some t) (ht:Tryz.prog.underlying t=some (.array cnt e)) (he:Tryz.prog.underlying e=some (.int k)) (hce:Tryz.prog.cellsOf e=1) (hct:Tryz.prog.cellsOf t=cnt)
  (h:VarReads Tryz.prog W n (tabData k (zs.map fun(z:Nat)=>(z:Int)))):yi W g (zs.map fun(z:Nat) (v:Value)=>v=.int k z):=by
 obtain⟨g',t',cs,fuel,p,hg',ht',hvar,hd⟩:=h
 obtain rfl:=Option.some.inj (hg.symm.trans hg')
 obtain rfl:=Option.some.inj (hty.symm.trans ht')
 have hcs:=cells_of_tab ht he hce hct hd
 refine ZI hg hvar (by rw[← Array.length_toList,hcs];simp) fun j p v hp hj=>?_
 rw[← Array.getElem?_toList,hcs] at hj
 simp only[yg,Zg] at hp hj
 obtain⟨z,hz,rfl⟩:=hp
 obtain⟨y,⟨z',hz',rfl⟩,rfl⟩:=hj
 rw[hz] at hz'
 cases hz'
 exact⟨rfl,rfl⟩
theorem u8x:U8Extra Tryz.prog Tryz.lays196_ren:=⟨by kernel_rfl,by kernel_rfl,by kernel_rfl,by kernel_rfl,by kernel_rfl,by kernel_rfl,by kernel_rfl⟩
theorem zgN:∀ c:Fin 32,zdM[c.val]?=some (if c.val % 2=0 then Lib.accLo (c.val / 2) else Lib.accHi (c.val / 2)):=by decide +kernel
theorem zca {W : World} (h1 : VarReads Tryz.prog W "unicode/utf8.first" firstData) (h2 : VarReads Tryz.prog W "unicode/utf8.acceptRanges" acceptData) : yi W 1 (zdM.map fun (n : Nat) (v : Value) => v = .int .u8 n) := by
 have ht:=utf8Tabs_of_readsT (U8Types.of196 Tryz.lays196) u8x h1 h2
 obtain⟨g',t',cs,fuel,p,hg',ht',hvar,hd⟩:=h2
 obtain rfl := Option.some.inj ((show Tryz.prog.globalNamed "unicode/utf8.acceptRanges" = some 1 by kernel_rfl).symm.trans hg')
 obtain rfl:=Option.some.inj (u8x.y4.symm.trans ht')
 have hcs:cs.size=32:=by
  have h3:fuel≠0:=fun e=>by subst e;simp[DataW.trod] at hd
  obtain⟨fuel,rfl⟩:=Nat.exists_eq_succ_of_ne_zero h3
  have h4:cs.toList.length=Tryz.prog.cellsOf (Tryz.lays196_ren.t 139):=by
   have hu:=(U8Types.of196 Tryz.lays196).t139
   simp only[DataW.trod,hu,u8x.c138] at hd
   split at hd
   ·rename_i hl;simpa using hl
   ·cases hd
  rw[← Array.length_toList,h4];exact(show Tryz.prog.cellsOf (Tryz.lays196_ren.t 139)=32 by kernel_rfl)
 refine ZI hg' hvar (by rw[hcs];rfl) fun j p v hp hj=>?_
 have hj32:j<32:=by rw[← hcs];exact(yV.1 hj).1
 simp only[yg,Zg] at hp
 obtain⟨z,hz,rfl⟩:=hp
 rw[zgN ⟨j,hj32⟩] at hz
 cases hz
 have ⟨a1,a2⟩:=ht.2 (j / 2) (by omega)
 rcases Nat.mod_two_eq_zero_or_one j with e|e
 ·have e2:2*(j / 2)=j:=by omega
  rw[e2] at a1
  have h5:=(World.var?_cell hg' hvar j).symm.trans a1
  rw[hj] at h5
  cases h5
  simp[e,Value.oneCell']
 ·have e2:2*(j / 2)+1=j:=by omega
  rw[e2] at a2
  have h5:=(World.var?_cell hg' hvar j).symm.trans a2
  rw[hj] at h5
  cases h5
  simp[e,Value.oneCell']
theorem zbJ {W:World} {n:String} {g:Nat} {t:TypeId} {s:String} {d:DataW Unit} (hg:Tryz.prog.globalNamed n=some g) (hty:(Tryz.prog.globals[g]?).map (·.type)=some t) {ms:Array (String×TypeId)} (hu:Tryz.prog.underlying t=some (.interface ms)) (h:VarReads Tryz.prog W n (.iface s d)):yi W g [fun v=>∃ te pe,v=.iface te pe]:=by
 obtain⟨g',t',cs,fuel,p,hg',ht',hvar,hd⟩:=h
 obtain rfl:=Option.some.inj (hg.symm.trans hg')
 obtain rfl:=Option.some.inj (hty.symm.trans ht')
 have h1:∃ te pe,cs.toList=[.iface te pe]:=by
  cases fuel with
  | zero=>simp[DataW.trod] at hd
  | succ fuel =>
   simp only[DataW.trod,hu] at hd
   split at hd
   all_goals first
    | (cases hd;done)
    | skip
   all_goals simp_all
   done
 obtain⟨te,pe,he⟩:=h1
 refine ZI hg hvar (by rw[← Array.length_toList,he];rfl) fun j p v hp hj=>?_
 rw[← Array.getElem?_toList,he] at hj
 match j,hp,hj with
 | 0,hp,hj=>cases hp;cases hj;exact⟨rfl,_,_,rfl⟩
 | j+1,hp,hj=>simp at hp
theorem ze2 {W:World} (hS:W.ShapedOpen Tryz.prog) {g:Nat} {z:Array Value} {t:TypeId} {k:IntKind} (hg:g<Tryz.prog.globals.size) (h0:(((begin Tryz.prog (fun _ _=>0) default).world.heap[g]?).bind Obj.row?)=some (z,t)) (hz:z.size=1) (hb:Tryz.prog.buildable t=true)
  (hts:Tryz.prog.cellTypes Tryz.prog.depth t=some [t]) (ht:Tryz.prog.underlying t=some (.int k)):yi W g [fun v=>∃ m,v=.int k m]:=by
 obtain⟨cs,h1,h2,h3⟩:=hS.1 g z t hg h0
 have hsz:cs.size=1:=by rw[h2,hz]
 obtain⟨ts,hts',_,hall⟩:=h3 hb
 rw[hts] at hts'
 cases hts'
 have h4:cs[0]?=some cs[0]:=Array.getElem?_eq_getElem (by omega)
 obtain⟨u,hu,hc⟩:=hall 0 cs[0] h4
 cases hu
 have h5:∃ m,cs[0]=.int k m:=by
  unfold Cell.ok at hc
  rw[ht] at hc
  generalize cs[0]=v at hc
  cases v<;>first|exact hc.elim|(obtain⟨rfl,_⟩:=hc;exact⟨_,rfl⟩)
 obtain⟨m,hm⟩:=h5
 refine⟨⟨cs,t,_,h1,hsz⟩,fun j p hp=>?_⟩
 match j,hp with
 | 0,hp =>
  cases hp
  refine⟨.int k m,⟨?_,trivial,rfl⟩,m,rfl⟩
  unfold World.cell?
  simp only[h1,h4,hm]
  simp
 | j+1,hp=>simp at hp
abbrev T64:List Nat:=[1,10,100,1000,10000,100000,1000000,10000000,100000000,1000000000,10000000000,100000000000,1000000000000,10000000000000,100000000000000,1000000000000000,10000000000000000,100000000000000000,1000000000000000000,10000000000000000000]
abbrev B32:List Nat:=[0,1,28,2,29,14,24,3,30,22,20,15,25,17,4,8,31,27,13,23,21,19,16,7,26,12,18,6,11,5,10,9]
abbrev B64:List Nat:=[0,1,56,2,57,49,28,3,61,58,42,50,38,29,17,4,62,47,59,36,45,43,51,22,53,39,33,30,24,18,12,5,63,55,48,27,60,41,37,16,46,35,44,21,52,32,23,11,54,26,40,15,34,20,31,10,25,14,19,9,13,8,7,6]
abbrev zcR : List (String × DataW Unit) := [("math/bits.deBruijn32tab", Rows.laid_math_bits_deBruijn32tab), ("math/bits.deBruijn64tab", Rows.laid_math_bits_deBruijn64tab), ("internal/strconv.uint64pow10", Rows.laid_internal_strconv_uint64pow10), ("unicode/utf8.acceptRanges", Rows.laid_unicode_utf8_acceptRanges), ("strconv.ErrRange", Rows.laid_strconv_ErrRange), ("strconv.ErrSyntax", Rows.laid_strconv_ErrSyntax), ("unicode/utf8.first", Rows.laid_unicode_utf8_first)]
theorem zgH {W:World} (hL:laidMetH Tryz.prog zcR W) (hS:W.ShapedOpen Tryz.prog):TabOk immG W:=by
 have hL':laidMet Tryz.prog zcR W:=hL
 have m1 : VarReads Tryz.prog W "unicode/utf8.first" (tabData .u8 (Go.Pinned.utf8FirstZ.map fun (z : Nat) => (z : Int))) := laidMet.reads hL' (d := Rows.laid_unicode_utf8_first) (.tail _ (.tail _ (.tail _ (.tail _ (.tail _ (.tail _ (.head _)))))))
 have m2 : VarReads Tryz.prog W "unicode/utf8.acceptRanges" acceptData := laidMet.reads hL' (d := Rows.laid_unicode_utf8_acceptRanges) (.tail _ (.tail _ (.tail _ (.head _))))
 have m3 : VarReads Tryz.prog W "internal/strconv.uint64pow10" (tabData .u64 (T64.map fun (z : Nat) => (z : Int))) := laidMet.reads hL' (d := Rows.laid_internal_strconv_uint64pow10) (.tail _ (.tail _ (.head _)))
 have m4 : VarReads Tryz.prog W "math/bits.deBruijn32tab" (tabData .u8 (B32.map fun (z : Nat) => (z : Int))) := laidMet.reads hL' (d := Rows.laid_math_bits_deBruijn32tab) (.head _)
 have m5 : VarReads Tryz.prog W "math/bits.deBruijn64tab" (tabData .u8 (B64.map fun (z : Nat) => (z : Int))) := laidMet.reads hL' (d := Rows.laid_math_bits_deBruijn64tab) (.tail _ (.head _))
 have m6 : VarReads Tryz.prog W "strconv.ErrSyntax" Rows.laid_strconv_ErrSyntax := laidMet.reads hL' (.tail _ (.tail _ (.tail _ (.tail _ (.tail _ (.head _))))))
 have m7 : VarReads Tryz.prog W "strconv.ErrRange" Rows.laid_strconv_ErrRange := laidMet.reads hL' (.tail _ (.tail _ (.tail _ (.tail _ (.head _)))))
 have m8:firstData=tabData .u8 (Go.Pinned.utf8FirstZ.map fun(z:Nat)=>(z:Int)):=by kernel_rfl
 have e1:yi W 0 (Go.Pinned.utf8FirstZ.map fun(n:Nat) (v:Value)=>v=.int .u8 n) :=
  ZL (t:=Tryz.lays196_ren.t 119) u8x.n3 u8x.y3 (U8Types.of196 Tryz.lays196).t119 (U8Types.of196 Tryz.lays196).t5 u8x.c5 u8x.c119 m1
 have e2:yi W 1 (zdM.map fun(n:Nat) (v:Value)=>v=.int .u8 n):=zca (m8▸m1) m2
 have e3:yi W 5 (T64.map fun(n:Nat) (v:Value)=>v=.int .u64 n) :=
  ZL (t:=286) (e:=245) (cnt:=20) (by kernel_rfl) (by kernel_rfl) (by kernel_rfl) (by kernel_rfl) (by kernel_rfl) (by kernel_rfl) m3
 have e4:yi W 6 (B32.map fun(n:Nat) (v:Value)=>v=.int .u8 n) :=
  ZL (t:=290) (e:=5) (cnt:=32) (by kernel_rfl) (by kernel_rfl) (by kernel_rfl) (by kernel_rfl) (by kernel_rfl) (by kernel_rfl) m4
 have e5:yi W 7 (B64.map fun(n:Nat) (v:Value)=>v=.int .u8 n) :=
  ZL (t:=291) (e:=5) (cnt:=64) (by kernel_rfl) (by kernel_rfl) (by kernel_rfl) (by kernel_rfl) (by kernel_rfl) (by kernel_rfl) m5
 have e6:yi W 3 [fun v=>∃ te pe,v=.iface te pe]:=zbJ (t:=173) (by kernel_rfl) (by kernel_rfl) Tryz.underlying173 m6
 have e7:yi W 4 [fun v=>∃ te pe,v=.iface te pe]:=zbJ (t:=173) (by kernel_rfl) (by kernel_rfl) Tryz.underlying173 m7
 have e8:yi W 2 [fun v=>∃ m,v=.int .i64 m]:=ze2 hS (z:=#[.int .i64 0]) (t:=3) (of_decide_eq_true (by kernel_rfl)) (by kernel_rfl) rfl (by kernel_rfl) (by kernel_rfl) (by kernel_rfl)
 intro x hx
 unfold tabL at hx
 simp only[List.mem_cons,List.not_mem_nil,or_false] at hx
 rcases hx with rfl|rfl|rfl|rfl|rfl|rfl|rfl|rfl<;>first|exact e1|exact e2|exact e3|exact e4|exact e5|exact e6|exact e7|exact e8
noncomputable abbrev N0:Nat:=(World.settled Tryz.prog default).heap.size
noncomputable def laidWorld (os:Os):World :=
 let w0:=World.holding Tryz.prog os ⟨#[.cells #[.string ⟨#[105,110,118,97,108,105,100,32,115,121,110,116,97,120]⟩] 273,.cells #[.string ⟨#[118,97,108,117,101,32,111,117,116,32,111,102,32,114,97,110,103,101]⟩] 273],#[],[]⟩
 let put (h:Array Obj) (g:Nat) (cs:Array Value):Array Obj:=h.modify g fun
  | .cells _ t frozen=>.cells cs t frozen
  | o=>o
 let h1:=put w0.heap 0 (Go.Pinned.utf8FirstZ.map fun(z:Nat)=>Value.int .u8 z).toArray
 let h2:=put h1 1 (zdM.map fun(z:Nat)=>Value.int .u8 z).toArray
 let h3:=put h2 5 (T64.map fun(z:Nat)=>Value.int .u64 z).toArray
 let h4:=put h3 6 (B32.map fun(z:Nat)=>Value.int .u8 z).toArray
 let h5:=put h4 7 (B64.map fun(z:Nat)=>Value.int .u8 z).toArray
 let h6:=put h5 3 #[.iface 271 (.pointer (some ⟨(World.settled Tryz.prog os).heap.size,0,none⟩))]
 let h7:=put h6 4 #[.iface 271 (.pointer (some ⟨(World.settled Tryz.prog os).heap.size+1,0,none⟩))]
 { w0 with heap:=h7 }
theorem laid_met (os:Os) (args:Array Value):laidMet Tryz.prog zcR ((laidWorld os).forCall (fun _ _=>0) ⟨#[],args,[]⟩).memory :=
 (LaidIn.of_run (l:=zcR) [0,1,2,3,4,5,6,7,N0,N0+1] 8 (by kernel_rfl) (by kernel_rfl) (by kernel_rfl) (by kernel_rfl)).met
end Go.Proofs.YtaielcdfcgpbiaaGreatDoor
namespace Go.Proofs.YtaielcdfcgpbiaaGreatDoor
open Go.Ab
def ir5 : AFn := ⟨139, 2, [.t 4], .seq (.rg [Imb 4 false])
 (.seq (.seq (.rg [Im 11 0, Ils 12 11, Igi 13 12 4000, Im 14 13, Fm 15 14 1, Jf 16 14 (.lens (.t 15)), Jf 17 14 (.bi .gtr .i64 (.t 16) (.k (.int .i64 4000))), Ipt 18 14 17])
 (.cond (.t 18) (.seq (.rg [Io 19 (.call 16 []), Im 4 19])
 .ret) .skip))
 (.seq (.rg [Im 21 0, Io 22 (.call 17 [(.t 21)]), Im 20 22, Iex 23 20 0, Iex 24 20 1, Io 5 (.alloc [.sl .nil 6 [], .str [], .str []]), ⟨none, none, .st 3 (.t 5) (.t 23), []⟩, Im 6 24])
 (.seq (.rg [Im 26 1, Io 27 (.call 17 [(.t 26)]), Im 25 27, Iex 28 25 0, Iex 29 25 1, Io 7 (.alloc [.sl .nil 6 [], .str [], .str []]), ⟨none, none, .st 3 (.t 7) (.t 28), []⟩, Im 8 29])
 (.seq (.seq (.rg [Im 30 6, Io 31 (.bi .neq .i64 (.t 30) (.k (.int .i64 0))), Im 32 31, Fm 33 32 8, Jf 34 32 (.bi .neq .i64 (.t 33) (.k (.int .i64 0))), Ipt 35 32 34, Im 36 35, Fm 37 36 0, Jf 38 36 (.call 20 [(.t 37)]), Ipt 39 36 38, Im 40 39, Fm 41 40 1, Jf 42 40 (.call 20 [(.t 41)]), Ipt 43 40 42])
 (.cond (.t 43) (.seq (.rg [Io 44 (.call 16 []), Im 4 44])
 .ret) .skip))
 (.seq (.rg [Im 46 0, Io 47 (.bs .add (.t 46) (.k (.str [10]))), Im 48 1, Io 49 (.bs .add (.t 47) (.t 48)), Io 50 (.call 17 [(.t 49)]), Im 45 50, Iex 51 45 0, Iex 52 45 1, Io 9 (.alloc [.sl .nil 6 [], .str [], .str []]), ⟨none, none, .st 3 (.t 9) (.t 51), []⟩, Im 6 52])
 (.seq (.seq (.rg [Im 53 6, Io 54 (.bi .neq .i64 (.t 53) (.k (.int .i64 0))), Im 55 54, Fa 56 55 0 9, Fl 57 55 1 56, Jf 58 55 (.len (.t 57)), Fa 59 55 0 5, Fl 60 55 1 59, Jf 61 55 (.len (.t 60)), Fa 62 55 0 7, Fl 63 55 1 62, Jf 64 55 (.len (.t 63)), Jf 65 55 (.bi .add .i64 (.t 61) (.t 64)), Jf 66 55 (.bi .neq .i64 (.t 58) (.t 65)), Ipt 67 55 66])
 (.cond (.t 67) (.seq (.rg [Imb 4 false])
 .ret) .skip))
 (.seq (.seq (.rg [Imv 10 0])
 (.block 0 (.loop [5, 7, 9, 10] (.seq (.seq (.rg [Im 68 10, If 69 0 9, Il 70 1 69, Iln 71 70, Ilt 72 68 71])
 (.cond (.t 72) .skip (.exit 0)))
 (.seq (.block 1 (.seq (.reg [0, 1, 2, 3, 4, 5, 6, 7, 8, 9, 10, 11, 12, 13, 14, 15, 16, 17, 18, 19, 20, 21, 22, 23, 24, 25, 26, 27, 28, 29, 30, 31, 32, 33, 34, 35, 36, 37, 38, 39, 40, 41, 42, 43] [Im 75 10, If 76 0 5, Il 77 1 76, Iln 78 77, Ilt 79 75 78, Im 80 79, Ja 81 80 0 9, Jl 82 80 1 81, Jm 83 80 10, Jt 84 80 (.ia 6 (.t 82) (.t 83)), Jt 85 80 (.ld 6 true (.t 84)), Ja 86 80 0 5, Jl 87 80 1 86, Jm 88 80 10, Jt 89 80 (.ia 6 (.t 87) (.t 88)), Jt 90 80 (.ld 6 true (.t 89)), Jt 91 80 (.call 21 [(.t 85), (.t 90)]), Jt 92 80 (.not (.t 91)), Ipf 93 80 92, Im 94 93, Fm 95 94 10, Fa 96 94 0 5, Fl 97 94 1 96, Jf 98 94 (.len (.t 97)), Jf 99 94 (.bi .geq .i64 (.t 95) (.t 98)), Fm 100 94 99, Ja 101 100 0 9, Jl 102 100 1 101, Jm 103 100 10, Jt 104 100 (.ia 6 (.t 102) (.t 103)), Jt 105 100 (.ld 6 true (.t 104)), Ja 106 100 0 7, Jl 107 100 1 106, Jm 108 100 10, Ja 109 100 0 5, Jl 110 100 1 109, Jt 111 100 (.len (.t 110)), Jt 112 100 (.bi .sub .i64 (.t 108) (.t 111)), Jt 113 100 (.ia 6 (.t 107) (.t 112)), Jt 114 100 (.ld 6 true (.t 113)), Jt 115 100 (.call 21 [(.t 105), (.t 114)]), Jt 116 100 (.not (.t 115)), Jf 117 94 (.pick (.t 100) (.t 116) (.k (.bool false))), Ipt 118 94 117])
 (.cond (.t 118) (.seq (.rg [Imb 4 false])
 .ret) .skip)))
 (.rg [Im 73 10, Iai 74 73 1, Im 10 74]))))))
 (.seq (.rg [If 119 1 9, Il 120 1 119, Io 121 (.bs .eql (.t 120) (.k (.str [81, 117, 101, 114, 121]))), Im 122 121, Ja 123 122 2 9, Jl 124 122 1 123, Jt 125 122 (.bs .eql (.t 124) (.k (.str [77, 117, 116, 97, 116, 105, 111, 110]))), Ja 126 122 2 5, Jl 127 122 1 126, Jt 128 122 (.bs .eql (.t 127) (.k (.str [77, 117, 116, 97, 116, 105, 111, 110]))), Jm 129 122 128, Fa 130 129 2 7, Fl 131 129 1 130, Jf 132 129 (.bs .eql (.t 131) (.k (.str [77, 117, 116, 97, 116, 105, 111, 110]))), Jt 133 122 (.pick (.t 129) (.k (.bool true)) (.t 132)), Jt 134 122 (.bb false (.t 125) (.t 133)), Ipf 135 122 134, Im 136 135, Jt 137 136 (.call 16 []), Ipf 138 136 137, Im 4 138])
 .ret))))))))⟩
theorem ck5:chkFn Tryz.prog 5 ir5=true:=by kernel_rfl
def ir15 : AFn := ⟨58, 2, [.t 4], .seq (.rg [Ibx 2 0, Ibx 3 1, Imb 4 false])
 (.seq (.seq (.rg [If 6 0 2, Il 7 1 6, If 8 0 3, Il 9 1 8, Io 10 (.bi .neq .i64 (.t 7) (.t 9)), Im 11 10, Fa 12 11 1 2, Fl 13 11 1 12, Fa 14 11 1 3, Fl 15 11 1 14, Jf 16 11 (.bi .neq .i64 (.t 13) (.t 15)), Ipt 17 11 16, Im 18 17, Fa 19 18 2 2, Fl 20 18 1 19, Fa 21 18 2 3, Fl 22 18 1 21, Jf 23 18 (.bs .neq (.t 20) (.t 22)), Ipt 24 18 23, Im 25 24, Fa 26 25 3 2, Fl 27 25 1 26, Jf 28 25 (.len (.t 27)), Fa 29 25 3 3, Fl 30 25 1 29, Jf 31 25 (.len (.t 30)), Jf 32 25 (.bi .neq .i64 (.t 28) (.t 31)), Ipt 33 25 32])
 (.cond (.t 33) (.seq (.rg [Imb 4 false])
 .ret) .skip))
 (.seq (.seq (.rg [Imv 5 0])
 (.block 0 (.loop [2, 3, 5] (.seq (.seq (.rg [Im 34 5, If 35 3 2, Il 36 1 35, Iln 37 36, Ilt 38 34 37])
 (.cond (.t 38) .skip (.exit 0)))
 (.seq (.block 1 (.seq (.reg [0, 1, 2, 3, 4, 5, 6, 7, 8, 9, 10, 11] [If 41 3 2, Il 42 1 41, Im 43 5, Iia 44 5 42 43, Ilb 45 5 44, If 46 3 3, Il 47 1 46, Im 48 5, Iia 49 5 47 48, Ilb 50 5 49, Io 51 (.call 15 [(.t 45), (.t 50)]), Ing 52 51])
 (.cond (.t 52) (.seq (.rg [Imb 4 false])
 .ret) .skip)))
 (.rg [Im 39 5, Iai 40 39 1, Im 5 40]))))))
 (.seq (.rg [If 53 4 2, Il 54 1 53, If 55 4 3, Il 56 1 55, Io 57 (.call 40 [(.t 54), (.t 56)]), Im 4 57])
 .ret)))⟩
theorem ck15:chkFn Tryz.prog 15 ir15=true:=by kernel_rfl
def ir16 : AFn := ⟨47, 0, [.t 0], .seq (.rg [Imb 0 false])
 (.seq (.rg [Io 6 (.call 17 [(.k (.str [117, 110, 105, 111, 110, 32, 85, 32, 61, 32, 65, 32, 124, 32, 66]))]), Im 5 6, Iex 7 5 0, Iex 8 5 1, Io 1 (.alloc [.sl .nil 6 [], .str [], .str []]), ⟨none, none, .st 3 (.t 1) (.t 7), []⟩, Im 2 8])
 (.seq (.rg [Io 10 (.call 17 [(.k (.str [115, 99, 97, 108, 97, 114, 32, 88]))]), Im 9 10, Iex 11 9 0, Iex 12 9 1, Io 3 (.alloc [.sl .nil 6 [], .str [], .str []]), ⟨none, none, .st 3 (.t 3) (.t 11), []⟩, Im 4 12])
 (.seq (.rg [Im 13 2, Iei 14 13 0, Im 15 14, Ja 16 15 1 1, Jl 17 15 1 16, Jt 18 15 (.bs .eql (.t 17) (.k (.str [81, 117, 101, 114, 121]))), Ipf 19 15 18, Im 20 19, Ja 21 20 0 1, Jl 22 20 1 21, Jt 23 20 (.len (.t 22)), Jt 24 20 (.bi .eql .i64 (.t 23) (.k (.int .i64 1))), Ipf 25 20 24, Im 26 25, Ja 27 26 0 1, Jl 28 26 1 27, Jt 29 26 (.ia 6 (.t 28) (.k (.int .i64 0))), Ja 30 26 0 29, Jl 31 26 1 30, Jt 32 26 (.bi .eql .i64 (.t 31) (.k (.int .i64 3))), Ipf 33 26 32, Im 34 33, Ja 35 34 0 1, Jl 36 34 1 35, Jt 37 34 (.ia 6 (.t 36) (.k (.int .i64 0))), Ja 38 34 4 37, Jl 39 34 1 38, Jt 40 34 (.len (.t 39)), Jt 41 34 (.bi .eql .i64 (.t 40) (.k (.int .i64 2))), Ipf 42 34 41, Im 43 42, Jm 44 43 4, Jt 45 43 (.bi .eql .i64 (.t 44) (.k (.int .i64 2))), Ipf 46 43 45, Im 0 46])
 .ret)))⟩
theorem ck16:chkFn Tryz.prog 16 ir16=true:=by kernel_rfl
def ir17 : AFn := ⟨14, 1, [.c 2 3 true, .t 3], .seq (.rg [Io 2 (.alloc [.sl .nil 6 [], .str [], .str []]), Imv 3 0])
 (.seq (.rg [Io 4 (.alloc [.sl .nil 6 [], .str [], .str []])])
 (.seq (.rg [Im 6 0, Io 7 (.mkfn 41 [] [(.t 4)]), Io 8 (.call 31 [(.t 6), (.t 7)]), Im 5 8])
 (.seq (.seq (.rg [Im 9 5, Io 10 (.bi .neq .i64 (.t 9) (.k (.int .i64 0)))])
 (.cond (.t 10) (.seq (.rg [Io 11 (.bld [.sl .nil 6 [], .str [], .str []] []), Im 12 5, ⟨none, none, .st 3 (.t 2) (.t 11), []⟩, Im 3 12])
 .ret) .skip))
 (.seq (.rg [Ilb 13 3 4, ⟨none, none, .st 3 (.t 2) (.t 13), []⟩, Imv 3 0])
 .ret))))⟩
theorem ck17:chkFn Tryz.prog 17 ir17=true:=by kernel_rfl
def ir20 : AFn := ⟨31, 1, [.t 2], .seq (.rg [Imb 2 false])
 (.seq (.rg [Im 7 0, Io 8 (.call 24 [(.t 7)]), Im 6 8, Iex 9 6 0, Iex 10 6 1, Im 3 9, Im 4 10])
 (.seq (.seq (.rg [Imv 5 0])
 (.block 0 (.loop [3, 5] (.seq (.seq (.rg [Im 11 5, Im 12 3, Iln 13 12, Ilt 14 11 13])
 (.cond (.t 14) .skip (.exit 0)))
 (.seq (.block 1 (.seq (.rg [Im 17 3, Im 18 5, Iia 19 2 17 18, If 20 0 19, Il 21 1 20, Iei 22 21 2, Im 23 22, Jm 24 23 3, Jm 25 23 5, Jt 26 23 (.ia 2 (.t 24) (.t 25)), Ja 27 23 1 26, Jl 28 23 1 27, Jt 29 23 (.bs .eql (.t 28) (.k (.str [115, 99, 104, 101, 109, 97]))), Ipf 30 23 29])
 (.cond (.t 30) (.seq (.rg [Imb 2 true])
 .ret) .skip)))
 (.rg [Im 15 5, Iai 16 15 1, Im 5 16]))))))
 (.seq (.rg [Imb 2 false])
 .ret)))⟩
theorem ck20:chkFn Tryz.prog 20 ir20=true:=by kernel_rfl
def ir21 : AFn := ⟨70, 2, [.t 4], .seq (.rg [Ibx 2 0, Ibx 3 1, Imb 4 false])
 (.seq (.seq (.rg [If 6 0 2, Il 7 1 6, If 8 0 3, Il 9 1 8, Io 10 (.bi .neq .i64 (.t 7) (.t 9)), Im 11 10, Fa 12 11 1 2, Fl 13 11 1 12, Fa 14 11 1 3, Fl 15 11 1 14, Jf 16 11 (.bs .neq (.t 13) (.t 15)), Ipt 17 11 16, Im 18 17, Fa 19 18 2 2, Fl 20 18 1 19, Fa 21 18 2 3, Fl 22 18 1 21, Jf 23 18 (.call 51 [(.t 20), (.t 22)]), Jf 24 18 (.not (.t 23)), Ipt 25 18 24, Im 26 25, Fa 27 26 4 2, Fl 28 26 1 27, Fa 29 26 4 3, Fl 30 26 1 29, Jf 31 26 (.call 51 [(.t 28), (.t 30)]), Jf 32 26 (.not (.t 31)), Ipt 33 26 32, Im 34 33, Fa 35 34 5 2, Fl 36 34 1 35, Fa 37 34 5 3, Fl 38 34 1 37, Jf 39 34 (.call 52 [(.t 36), (.t 38)]), Jf 40 34 (.not (.t 39)), Ipt 41 34 40, Im 42 41, Fa 43 42 3 2, Fl 44 42 1 43, Jf 45 42 (.len (.t 44)), Fa 46 42 3 3, Fl 47 42 1 46, Jf 48 42 (.len (.t 47)), Jf 49 42 (.bi .neq .i64 (.t 45) (.t 48)), Ipt 50 42 49])
 (.cond (.t 50) (.seq (.rg [Imb 4 false])
 .ret) .skip))
 (.seq (.seq (.rg [Imv 5 0])
 (.block 0 (.loop [2, 3, 5] (.seq (.seq (.rg [Im 51 5, If 52 3 2, Il 53 1 52, Iln 54 53, Ilt 55 51 54])
 (.cond (.t 55) .skip (.exit 0)))
 (.seq (.block 1 (.seq (.reg [0, 1, 2, 3, 4, 5, 6, 7, 8, 9, 10, 11] [If 58 3 2, Il 59 1 58, Im 60 5, Iia 61 6 59 60, Ilb 62 6 61, If 63 3 3, Il 64 1 63, Im 65 5, Iia 66 6 64 65, Ilb 67 6 66, Io 68 (.call 53 [(.t 62), (.t 67)]), Ing 69 68])
 (.cond (.t 69) (.seq (.rg [Imb 4 false])
 .ret) .skip)))
 (.rg [Im 56 5, Iai 57 56 1, Im 5 57]))))))
 (.seq (.rg [Imb 4 true])
 .ret)))⟩
theorem ck21:chkFn Tryz.prog 21 ir21=true:=by kernel_rfl
def ir24 : AFn := ⟨47, 1, [.t 2, .t 3], .seq (.rg [Io 2 (.mv (.k (.sl .nil 2 []))), Imv 3 0])
 (.scope (.seq (.block 0 (.seq (.rg [Im 10 0, Ils 11 10, Igi 12 11 8192, Im 9 12])
 (.cond (.t 9) (.seq (.rg [Io 2 (.mv (.k (.sl .nil 2 []))), Imv 3 3])
 .ret) (.seq (.rg [Im 14 0, Io 15 (.call 58 [(.t 14)]), Ing 16 15, Im 13 16])
 (.cond (.t 13) (.seq (.rg [Io 2 (.mv (.k (.sl .nil 2 []))), Imv 3 2])
 .ret) .skip)))))
 (.seq (.rg [Io 4 (.mv (.k (.sl .nil 2 [])))])
 (.seq .skip
 (.seq (.seq (.rg [Imv 5 0])
 (.block 1 (.loop [0, 4, 5] (.seq (.seq (.rg [Im 17 5, Im 18 0, Ils 19 18, Ilt 20 17 19])
 (.cond (.t 20) .skip (.exit 1)))
 (.block 2 (.seq (.seq (.rg [Im 21 0, Im 22 5, Io 23 (.sls (.t 21) (some (.t 22)) none), Io 24 (.call 59 [(.t 23)]), Im 6 24])
 (.seq (.rg [Im 25 6, Igi 26 25 0])
 (.cond (.t 26) (.seq (.rg [Im 27 5, Im 28 6, Iad 29 27 28, Im 5 29])
 (.exit 2)) .skip)))
 (.seq (.rg [Im 31 0, Im 32 5, Io 33 (.sls (.t 31) (some (.t 32)) none), Io 34 (.call 60 [(.t 33)]), Im 30 34, Iex 35 30 0, Iex 36 30 1, Io 7 (.alloc [.int .i64 0, .str []]), ⟨none, none, .st 2 (.t 7) (.t 35), []⟩, Im 8 36])
 (.seq (.seq (.rg [Im 37 8, Iei 38 37 0])
 (.cond (.t 38) (.seq (.rg [Io 2 (.mv (.k (.sl .nil 2 []))), Imv 3 2])
 .ret) .skip))
 (.seq (.rg [Im 39 4, Ilb 40 2 7, Io 41 (.bls 2 1 [.int .i64 0, .str []] [(0, (.t 40))]), Iap 42 2 24 39 41, Im 4 42])
 (.rg [Im 43 5, Im 44 8, Iad 45 43 44, Im 5 45]))))))))))
 (.seq (.rg [Im 46 4, Im 2 46, Imv 3 0])
 .ret))))))⟩
theorem ck24:chkFn Tryz.prog 24 ir24=true:=by kernel_rfl
def ir33 : AFn := ⟨109, 2, [.c 4 5 true], .seq (.rg [Io 4 (.alloc [.int .i64 0, .int .i64 0, .str [], .sl .nil 5 [], .sl .nil 6 []])])
 (.seq (.seq (.rg [Im 10 0, Io 11 (.call 76 [(.t 10)]), Io 5 (.alloc [.int .i64 0, .str []]), ⟨none, none, .st 2 (.t 5) (.t 11), []⟩])
 (.block 0 (.seq (.rg [If 13 0 5, Il 14 1 13, Iei 15 14 2, Im 12 15])
 (.cond (.t 12) (.seq (.rg [Im 16 0, Ink 17 16, If 18 1 17, Il 19 1 18, Iai 20 19 1, Ink 21 16, If 22 1 21, ⟨none, none, .st 1 (.t 22) (.t 20), []⟩])
 (.seq (.rg [If 23 1 5, Il 24 1 23, Io 25 (.call 77 [(.t 24)]), ⟨none, none, .st 5 (.t 4) (.t 25), []⟩])
 .ret)) (.seq (.rg [If 27 0 5, Il 28 1 27, Iei 29 28 3, Im 30 29, Fa 31 30 0 5, Fl 32 30 1 31, Jf 33 30 (.bi .eql .i64 (.t 32) (.k (.int .i64 4))), Ipt 34 30 33, Im 26 34])
 (.cond (.t 26) (.seq (.rg [Im 35 0, Ink 36 35, If 37 1 36, Il 38 1 37, Iai 39 38 1, Ink 40 35, If 41 1 40, ⟨none, none, .st 1 (.t 41) (.t 39), []⟩])
 (.seq (.seq (.rg [If 43 1 5, Il 44 1 43, Io 45 (.call 78 [(.t 44)]), Im 42 45, Iex 46 42 0, Iex 47 42 1, Im 6 46, Im 7 47])
 (.seq (.rg [Im 48 7])
 (.cond (.t 48) (.seq (.rg [Im 49 6, Io 50 (.call 79 [(.t 49)]), ⟨none, none, .st 5 (.t 4) (.t 50), []⟩])
 .ret) .skip)))
 (.seq (.rg [If 51 1 5, Il 52 1 51, Io 53 (.bld [.int .i64 0, .int .i64 0, .str [], .sl .nil 5 [], .sl .nil 6 []] [(0, 1, (.k (.int .i64 3))), (2, 1, (.t 52))]), ⟨none, none, .st 5 (.t 4) (.t 53), []⟩])
 .ret))) (.seq (.rg [If 55 0 5, Il 56 1 55, Iei 57 56 5, Im 54 57])
 (.cond (.t 54) (.seq (.rg [Im 58 0, Ink 59 58, If 60 1 59, Il 61 1 60, Iai 62 61 1, Ink 63 58, If 64 1 63, ⟨none, none, .st 1 (.t 64) (.t 62), []⟩])
 (.seq (.rg [If 65 1 5, Il 66 1 65, Io 67 (.call 80 [(.t 66)]), ⟨none, none, .st 5 (.t 4) (.t 67), []⟩])
 .ret)) (.seq (.rg [Im 69 0, Io 70 (.call 81 [(.t 69), (.k (.str [91]))]), Im 68 70])
 (.cond (.t 68) (.seq (.rg [Io 71 (.bld [.int .i64 0, .int .i64 0, .str [], .sl .nil 5 [], .sl .nil 6 []] [(0, 1, (.k (.int .i64 6)))]), Io 8 (.alloc [.int .i64 0, .int .i64 0, .str [], .sl .nil 5 [], .sl .nil 6 []]), ⟨none, none, .st 5 (.t 8) (.t 71), []⟩])
 (.seq (.block 1 (.loop [0, 1, 4, 8] (.seq (.seq (.rg [Im 72 0, Io 73 (.call 82 [(.t 72), (.k (.str [93]))]), Ing 74 73])
 (.cond (.t 74) .skip (.exit 1)))
 (.block 2 (.reg [0, 1, 2, 3, 4, 5, 6, 7, 8] [If 75 3 8, Il 76 1 75, Im 77 0, Im 78 1, ⟨some 79, none, .call 33 [(.t 77), (.t 78)], [1]⟩, Io 80 (.bls 5 1 [.int .i64 0, .int .i64 0, .str [], .sl .nil 5 [], .sl .nil 6 []] [(0, (.t 79))]), Iap 81 5 80 76 80, If 82 3 8, ⟨none, none, .st 1 (.t 82) (.t 81), []⟩])))))
 (.seq (.rg [Ilb 83 5 8, ⟨none, none, .st 5 (.t 4) (.t 83), []⟩])
 .ret))) (.seq (.rg [Im 85 0, Io 86 (.call 81 [(.t 85), (.k (.str [123]))]), Im 84 86])
 (.cond (.t 84) (.seq (.rg [Io 87 (.bld [.int .i64 0, .int .i64 0, .str [], .sl .nil 5 [], .sl .nil 6 []] [(0, 1, (.k (.int .i64 7)))]), Io 9 (.alloc [.int .i64 0, .int .i64 0, .str [], .sl .nil 5 [], .sl .nil 6 []]), ⟨none, none, .st 5 (.t 9) (.t 87), []⟩])
 (.seq (.block 3 (.loop [0, 1, 4, 9] (.seq (.seq (.rg [Im 88 0, Io 89 (.call 82 [(.t 88), (.k (.str [125]))]), Ing 90 89])
 (.cond (.t 90) .skip (.exit 3)))
 (.block 4 (.reg [0, 1, 2, 3, 4, 5, 6, 7, 8] [If 91 4 9, Il 92 1 91, Im 93 0, Im 94 1, ⟨some 95, none, .call 83 [(.t 93), (.t 94)], [1]⟩, Io 96 (.bls 6 1 [.str [], .int .i64 0, .int .i64 0, .str [], .sl .nil 5 [], .sl .nil 6 []] [(0, (.t 95))]), Iap 97 6 96 92 96, If 98 4 9, ⟨none, none, .st 1 (.t 98) (.t 97), []⟩])))))
 (.seq (.rg [Ilb 99 5 9, ⟨none, none, .st 5 (.t 4) (.t 99), []⟩])
 .ret))) (.seq (.rg [Im 101 1, Im 100 101])
 (.cond (.t 100) (.rg [Im 102 0, Io 103 (.call 75 [(.t 102), (.k (.int .i64 2))])]) .skip))))))))))))))
 (.seq (.rg [Im 104 0, Io 105 (.call 84 [(.t 104), (.k (.str [36]))])])
 (.seq (.rg [Im 106 0, Io 107 (.call 85 [(.t 106)]), Io 108 (.bld [.int .i64 0, .int .i64 0, .str [], .sl .nil 5 [], .sl .nil 6 []] [(0, 1, (.k (.int .i64 8))), (2, 1, (.t 107))]), ⟨none, none, .st 5 (.t 4) (.t 108), []⟩])
 .ret)))⟩
theorem ck33:chkFn Tryz.prog 33 ir33=true:=by kernel_rfl
def ir38 : AFn := ⟨44, 1, [.c 2 3 true], .seq (.rg [Io 2 (.alloc [.str [], .int .i64 0, .int .i64 0])])
 (.seq (.rg [Imv 3 0])
 (.seq (.block 0 (.loop [0, 2, 3] (.seq (.seq (.rg [Im 6 0, Io 7 (.call 97 [(.t 6), (.k (.str [91]))])])
 (.cond (.t 7) .skip (.exit 0)))
 (.block 1 (.seq (.seq (.rg [Im 8 3, Iei 9 8 4])
 (.cond (.t 9) (.rg [Im 10 0, Io 11 (.call 75 [(.t 10), (.k (.int .i64 4))])]) .skip))
 (.seq (.rg [Im 12 0, Ink 13 12, If 14 1 13, Il 15 1 14, Iai 16 15 1, Ink 17 12, If 18 1 17, ⟨none, none, .st 1 (.t 18) (.t 16), []⟩])
 (.rg [Im 19 3, Iai 20 19 1, Im 3 20])))))))
 (.seq (.rg [Im 21 0, Io 22 (.call 85 [(.t 21)]), Im 23 3, Io 24 (.bld [.str [], .int .i64 0, .int .i64 0] [(0, 1, (.t 22)), (1, 1, (.t 23))]), Io 4 (.alloc [.str [], .int .i64 0, .int .i64 0]), ⟨none, none, .st 3 (.t 4) (.t 24), []⟩])
 (.seq (.seq (.rg [Im 25 3, Im 5 25])
 (.block 2 (.loop [0, 2, 3, 4, 5] (.seq (.seq (.rg [Im 26 5, Io 27 (.bi .geq .i64 (.t 26) (.k (.int .i64 0)))])
 (.cond (.t 27) .skip (.exit 2)))
 (.seq (.block 3 (.seq (.seq (.rg [Im 30 5, Im 31 3, Ilt 32 30 31])
 (.cond (.t 32) (.rg [Im 33 0, Io 34 (.call 84 [(.t 33), (.k (.str [93]))])]) .skip))
 (.seq (.rg [Im 35 0, Io 36 (.call 98 [(.t 35), (.k (.str [33]))])])
 (.cond (.t 36) (.reg [0, 1, 2, 3, 4, 5, 6] [If 37 2 4, Il 38 1 37, Im 39 5, Io 40 (.shf .shl (.k (.int .i64 1)) (.t 39)), Io 41 (.bi .or .i64 (.t 38) (.t 40)), If 42 2 4, ⟨none, none, .st 1 (.t 42) (.t 41), []⟩]) .skip))))
 (.rg [Im 28 5, Isi 29 28 1, Im 5 29]))))))
 (.seq (.rg [Ilb 43 3 4, ⟨none, none, .st 3 (.t 2) (.t 43), []⟩])
 .ret)))))⟩
theorem ck38:chkFn Tryz.prog 38 ir38=true:=by kernel_rfl
def ir40 : AFn := ⟨42, 2, [.t 4], .seq (.rg [Imb 4 false])
 (.seq (.seq (.rg [Im 6 0, Iln 7 6, Im 8 1, Iln 9 8, Io 10 (.bi .neq .i64 (.t 7) (.t 9))])
 (.cond (.t 10) (.seq (.rg [Imb 4 false])
 .ret) .skip))
 (.seq (.seq (.rg [Imv 5 0])
 (.block 0 (.loop [0, 1, 5] (.seq (.seq (.rg [Im 11 5, Im 12 0, Iln 13 12, Ilt 14 11 13])
 (.cond (.t 14) .skip (.exit 0)))
 (.seq (.block 1 (.seq (.reg [0, 1, 2, 3, 4, 5, 6, 7, 8, 9, 10, 11, 12, 13, 14, 15, 16, 17, 18, 19, 20, 21, 22, 23, 24] [Im 17 0, Im 18 5, Iia 19 6 17 18, If 20 0 19, Il 21 1 20, Im 22 1, Im 23 5, Iia 24 6 22 23, If 25 0 24, Il 26 1 25, Io 27 (.bs .neq (.t 21) (.t 26)), Im 28 27, Fm 29 28 0, Fm 30 28 5, Jf 31 28 (.ia 6 (.t 29) (.t 30)), Fa 32 28 1 31, Jf 33 28 (.ld 5 true (.t 32)), Fm 34 28 1, Fm 35 28 5, Jf 36 28 (.ia 6 (.t 34) (.t 35)), Fa 37 28 1 36, Jf 38 28 (.ld 5 true (.t 37)), Jf 39 28 (.call 15 [(.t 33), (.t 38)]), Jf 40 28 (.not (.t 39)), Ipt 41 28 40])
 (.cond (.t 41) (.seq (.rg [Imb 4 false])
 .ret) .skip)))
 (.rg [Im 15 5, Iai 16 15 1, Im 5 16]))))))
 (.seq (.rg [Imb 4 true])
 .ret)))⟩
theorem ck40:chkFn Tryz.prog 40 ir40=true:=by kernel_rfl
def ir41 : AFn := ⟨39, 2, [], .seq (.rg [Im 6 0, Io 7 (.bld [.nilp, .sl .nil 6 [], .str [], .str [], .bool false] [(0, 1, (.t 6))]), Io 8 (.box (.t 7)), Im 3 8])
 (.seq (.rg [Im 9 3, Io 10 (.call 42 [(.t 9)])])
 (.seq (.block 0 (.loop [1, 3] (.seq (.seq (.rg [Im 11 3, Ink 12 11, If 13 0 12, Il 14 1 13, Io 15 (.call 43 [(.t 14)])])
 (.cond (.t 15) .skip (.exit 0)))
 (.block 1 (.rg [Im 16 3, Io 17 (.call 42 [(.t 16)])])))))
 (.seq (.rg [Im 18 3, Ink 19 18, If 20 1 19, Ilb 21 3 20, ⟨none, none, .st 3 (.t 1) (.t 21), []⟩])
 (.seq (.seq (.rg [Im 22 3, Ink 23 22, If 24 4 23, Il 25 1 24])
 (.cond (.t 25) .ret .skip))
 (.seq (.rg [If 26 1 1, ⟨none, none, .st 1 (.t 26) (.k (.str [81, 117, 101, 114, 121])), []⟩])
 (.seq (.rg [If 27 0 1, Il 28 1 27, Iln 29 28, Imv 30 0])
 (.block 2 (.loop [1, 28, 29, 30] (.seq (.rg [Ilt 31 30 29])
 (.seq (.cond (.t 31) .skip (.exit 2))
 (.seq (.block 3 (.seq (.rg [Iia 32 6 28 30, Ilb 33 6 32, Io 5 (.alloc [.int .i64 0, .str [], .sl .nil 1 [], .sl .nil 6 [], .sl .nil 1 [], .sl .nil 10 []]), ⟨none, none, .st 6 (.t 5) (.t 33), []⟩])
 (.seq (.rg [If 34 1 5, Il 35 1 34, Io 36 (.bs .eql (.t 35) (.k (.str [77, 117, 116, 97, 116, 105, 111, 110])))])
 (.cond (.t 36) (.rg [If 37 2 1, ⟨none, none, .st 1 (.t 37) (.k (.str [77, 117, 116, 97, 116, 105, 111, 110])), []⟩]) .skip))))
 (.rg [Iai 38 30 1, Im 30 38]))))))))))))⟩
theorem ck41:chkFn Tryz.prog 41 ir41=true:=by kernel_rfl
def ir42 : AFn := ⟨80, 1, [], .seq (.rg [Im 3 0, Ink 4 3, If 5 0 4, Il 6 1 5, Io 7 (.call 99 [(.t 6)])])
 (.seq (.rg [Io 2 (.alloc [.int .i64 0, .str [], .sl .nil 1 [], .sl .nil 6 [], .sl .nil 1 [], .sl .nil 10 []])])
 (.seq (.block 0 (.seq (.rg [Im 14 0, Ink 15 14, If 16 4 15, Il 17 1 16, Ing 18 17, Im 19 18, Jm 20 19 0, Jt 21 19 (.nilchk (.t 20)), Ja 22 19 0 21, Jl 23 19 1 22, Jt 24 19 (.call 100 [(.t 23), (.k (.str [115, 99, 104, 101, 109, 97]))]), Ipf 25 19 24, Im 13 25])
 (.cond (.t 13) (.seq (.rg [Im 26 0, Io 27 (.call 101 [(.t 26)])])
 .ret) (.seq (.rg [Im 29 0, Ink 30 29, If 31 0 30, Il 32 1 31, Io 33 (.call 100 [(.t 32), (.k (.str [116, 121, 112, 101]))]), Im 28 33])
 (.cond (.t 28) (.rg [Im 34 0, Io 35 (.call 102 [(.t 34), (.k (.int .i64 1))]), ⟨none, none, .st 6 (.t 2) (.t 35), []⟩]) (.seq (.rg [Im 37 0, Ink 38 37, If 39 0 38, Il 40 1 39, Io 41 (.call 100 [(.t 40), (.k (.str [105, 110, 116, 101, 114, 102, 97, 99, 101]))]), Im 36 41])
 (.cond (.t 36) (.rg [Im 42 0, Io 43 (.call 102 [(.t 42), (.k (.int .i64 2))]), ⟨none, none, .st 6 (.t 2) (.t 43), []⟩]) (.seq (.rg [Im 45 0, Ink 46 45, If 47 0 46, Il 48 1 47, Io 49 (.call 100 [(.t 48), (.k (.str [117, 110, 105, 111, 110]))]), Im 44 49])
 (.cond (.t 44) (.rg [Im 50 0, Io 51 (.call 103 [(.t 50)]), ⟨none, none, .st 6 (.t 2) (.t 51), []⟩]) (.seq (.rg [Im 53 0, Ink 54 53, If 55 0 54, Il 56 1 55, Io 57 (.call 100 [(.t 56), (.k (.str [101, 110, 117, 109]))]), Im 52 57])
 (.cond (.t 52) (.rg [Im 58 0, Io 59 (.call 104 [(.t 58)]), ⟨none, none, .st 6 (.t 2) (.t 59), []⟩]) (.seq (.rg [Im 61 0, Ink 62 61, If 63 0 62, Il 64 1 63, Io 65 (.call 100 [(.t 64), (.k (.str [105, 110, 112, 117, 116]))]), Im 60 65])
 (.cond (.t 60) (.rg [Im 66 0, Io 67 (.call 105 [(.t 66)]), ⟨none, none, .st 6 (.t 2) (.t 67), []⟩]) (.rg [Im 8 0, Ink 9 8, If 10 0 9, Il 11 1 10, Io 12 (.call 75 [(.t 11), (.k (.int .i64 2))])]))))))))))))))
 (.reg [0, 1, 2, 3, 4, 5, 6, 7, 8, 9, 10, 11, 12] [Im 68 0, Im 69 0, Ink 70 69, If 71 1 70, If 72 0 71, Il 73 1 72, Ilb 74 6 2, Io 75 (.bls 6 1 [.int .i64 0, .str [], .sl .nil 1 [], .sl .nil 6 [], .sl .nil 1 [], .sl .nil 10 []] [(0, (.t 74))]), Iap 76 6 120 73 75, Ink 77 68, If 78 1 77, If 79 0 78, ⟨none, none, .st 1 (.t 79) (.t 76), []⟩])))⟩
theorem ck42:chkFn Tryz.prog 42 ir42=true:=by kernel_rfl
def ir43 : AFn := ⟨13, 1, [.t 2], .seq (.rg [Imb 2 false])
 (.seq (.reg [0, 1, 2, 3, 4, 5, 6, 7, 8, 9, 10] [Im 3 0, Ink 4 3, If 5 1 4, Il 6 1 5, Im 7 0, Ink 8 7, If 9 0 8, Il 10 1 9, Iln 11 10, Ilt 12 6 11, Im 2 12])
 .ret)⟩
theorem ck43:chkFn Tryz.prog 43 ir43=true:=by kernel_rfl
def ir51 : AFn := ⟨26, 2, [.t 4], .seq (.rg [Imb 4 false])
 (.seq (.seq (.rg [Im 6 0, Iln 7 6, Im 8 1, Iln 9 8, Io 10 (.bi .neq .i64 (.t 7) (.t 9))])
 (.cond (.t 10) (.seq (.rg [Imb 4 false])
 .ret) .skip))
 (.seq (.seq (.rg [Imv 5 0])
 (.block 0 (.loop [0, 1, 5] (.seq (.seq (.rg [Im 11 5, Im 12 0, Iln 13 12, Ilt 14 11 13])
 (.cond (.t 14) .skip (.exit 0)))
 (.seq (.block 1 (.seq (.reg [0, 1, 2, 3, 4, 5, 6, 7, 8] [Im 17 0, Im 18 5, Iia 19 1 17 18, Il 20 1 19, Im 21 1, Im 22 5, Iia 23 1 21 22, Il 24 1 23, Io 25 (.bs .neq (.t 20) (.t 24))])
 (.cond (.t 25) (.seq (.rg [Imb 4 false])
 .ret) .skip)))
 (.rg [Im 15 5, Iai 16 15 1, Im 5 16]))))))
 (.seq (.rg [Imb 4 true])
 .ret)))⟩
theorem ck51:chkFn Tryz.prog 51 ir51=true:=by kernel_rfl
def ir52 : AFn := ⟨68, 2, [.t 4], .seq (.rg [Imb 4 false])
 (.seq (.seq (.rg [Im 6 0, Iln 7 6, Im 8 1, Iln 9 8, Io 10 (.bi .neq .i64 (.t 7) (.t 9))])
 (.cond (.t 10) (.seq (.rg [Imb 4 false])
 .ret) .skip))
 (.seq (.seq (.rg [Imv 5 0])
 (.block 0 (.loop [0, 1, 5] (.seq (.seq (.rg [Im 11 5, Im 12 0, Iln 13 12, Ilt 14 11 13])
 (.cond (.t 14) .skip (.exit 0)))
 (.seq (.block 1 (.seq (.reg [0, 1, 2, 3, 4, 5, 6, 7, 8, 9, 10, 11, 12, 13, 14, 15, 16, 17, 18, 19, 20, 21, 22, 23, 24, 25, 26, 27, 28, 29, 30, 31, 32, 33, 34, 35, 36, 37, 38, 39, 40, 41, 42, 43, 44, 45, 46, 47, 48, 49, 50] [Im 17 0, Im 18 5, Iia 19 10 17 18, If 20 0 19, Il 21 1 20, Im 22 1, Im 23 5, Iia 24 10 22 23, If 25 0 24, Il 26 1 25, Io 27 (.bs .neq (.t 21) (.t 26)), Im 28 27, Fm 29 28 0, Fm 30 28 5, Jf 31 28 (.ia 10 (.t 29) (.t 30)), Fa 32 28 1 31, Jf 33 28 (.ld 3 true (.t 32)), Fm 34 28 1, Fm 35 28 5, Jf 36 28 (.ia 10 (.t 34) (.t 35)), Fa 37 28 1 36, Jf 38 28 (.ld 3 true (.t 37)), Jf 39 28 (.eqa true [.s, (.i .i64), (.i .i64)] (.t 33) (.t 38)), Ipt 40 28 39, Im 41 40, Fm 42 41 0, Fm 43 41 5, Jf 44 41 (.ia 10 (.t 42) (.t 43)), Fa 45 41 4 44, Fl 46 41 1 45, Fm 47 41 1, Fm 48 41 5, Jf 49 41 (.ia 10 (.t 47) (.t 48)), Fa 50 41 4 49, Fl 51 41 1 50, Jf 52 41 (.bb true (.t 46) (.t 51)), Ipt 53 41 52, Im 54 53, Fm 55 54 0, Fm 56 54 5, Jf 57 54 (.ia 10 (.t 55) (.t 56)), Fa 58 54 5 57, Jf 59 54 (.ld 5 true (.t 58)), Fm 60 54 1, Fm 61 54 5, Jf 62 54 (.ia 10 (.t 60) (.t 61)), Fa 63 54 5 62, Jf 64 54 (.ld 5 true (.t 63)), Jf 65 54 (.call 15 [(.t 59), (.t 64)]), Jf 66 54 (.not (.t 65)), Ipt 67 54 66])
 (.cond (.t 67) (.seq (.rg [Imb 4 false])
 .ret) .skip)))
 (.rg [Im 15 5, Iai 16 15 1, Im 5 16]))))))
 (.seq (.rg [Imb 4 true])
 .ret)))⟩
theorem ck52:chkFn Tryz.prog 52 ir52=true:=by kernel_rfl
def ir53 : AFn := ⟨31, 2, [.t 4], .seq (.rg [Ibx 2 0, Ibx 3 1, Imb 4 false])
 (.seq (.rg [If 5 0 2, Il 6 1 5, If 7 0 3, Il 8 1 7, Io 9 (.bs .eql (.t 6) (.t 8)), Im 10 9, Ja 11 10 2 2, Jt 12 10 (.ld 3 true (.t 11)), Ja 13 10 2 3, Jt 14 10 (.ld 3 true (.t 13)), Jt 15 10 (.eqa false [.s, (.i .i64), (.i .i64)] (.t 12) (.t 14)), Ipf 16 10 15, Im 17 16, Ja 18 17 1 2, Jl 19 17 1 18, Ja 20 17 1 3, Jl 21 17 1 20, Jt 22 17 (.call 52 [(.t 19), (.t 21)]), Ipf 23 17 22, Im 24 23, Ja 25 24 5 2, Jl 26 24 1 25, Ja 27 24 5 3, Jl 28 24 1 27, Jt 29 24 (.call 109 [(.t 26), (.t 28)]), Ipf 30 24 29, Im 4 30])
 .ret)⟩
theorem ck53:chkFn Tryz.prog 53 ir53=true:=by kernel_rfl
def ir58 : AFn := ⟨25, 1, [.t 2], .seq (.rg [Imb 2 false])
 (.scope (.seq .skip
 (.seq (.seq (.rg [Imv 3 0])
 (.block 0 (.loop [0, 3] (.seq (.seq (.rg [Im 6 3, Im 7 0, Ils 8 7, Ilt 9 6 8])
 (.cond (.t 9) .skip (.exit 0)))
 (.block 1 (.seq (.seq (.rg [Im 11 0, Im 12 3, Io 13 (.call 115 [(.t 11), (.t 12)]), Im 10 13, Iex 14 10 0, Iex 15 10 1, Im 4 14, Im 5 15])
 (.seq (.rg [Im 16 5, Igi 17 16 0, Im 18 17, Jm 19 18 4, Jt 20 18 (.call 116 [(.t 19)]), Ipf 21 18 20])
 (.cond (.t 21) (.seq (.rg [Im 22 3, Im 23 5, Iad 24 22 23, Im 3 24])
 (.exit 1)) .skip)))
 (.seq (.rg [Imb 2 false])
 .ret)))))))
 (.seq (.rg [Imb 2 true])
 .ret))))⟩
theorem ck58:chkFn Tryz.prog 58 ir58=true:=by kernel_rfl
def ir59 : AFn := ⟨39, 1, [.t 2], .seq (.rg [Imv 2 0])
 (.seq (.seq (.rg [Im 5 0, Io 6 (.ixs (.t 5) (.k (.int .i64 0))), Im 3 6])
 (.block 0 (.seq (.rg [Im 8 3, Io 9 (.bi .eql .u8 (.t 8) (.k (.int .u8 9))), Im 10 9, Fm 11 10 3, Jf 12 10 (.bi .eql .u8 (.t 11) (.k (.int .u8 10))), Ipt 13 10 12, Im 14 13, Fm 15 14 3, Jf 16 14 (.bi .eql .u8 (.t 15) (.k (.int .u8 13))), Ipt 17 14 16, Im 18 17, Fm 19 18 3, Jf 20 18 (.bi .eql .u8 (.t 19) (.k (.int .u8 32))), Ipt 21 18 20, Im 22 21, Fm 23 22 3, Jf 24 22 (.bi .eql .u8 (.t 23) (.k (.int .u8 44))), Ipt 25 22 24, Im 7 25])
 (.cond (.t 7) (.seq (.rg [Imv 2 1])
 .ret) (.seq (.rg [Im 27 0, Io 28 (.call 117 [(.t 27), (.k (.str [239, 187, 191]))]), Im 26 28])
 (.cond (.t 26) (.seq (.rg [Imv 2 3])
 .ret) (.seq (.rg [Im 30 3, Io 31 (.bi .eql .u8 (.t 30) (.k (.int .u8 35))), Im 29 31])
 (.cond (.t 29) (.seq (.seq (.rg [Im 32 0, Io 33 (.call 118 [(.t 32), (.k (.str [13, 10]))]), Im 4 33])
 (.seq (.rg [Im 34 4, Io 35 (.bi .geq .i64 (.t 34) (.k (.int .i64 0)))])
 (.cond (.t 35) (.seq (.rg [Im 36 4, Im 2 36])
 .ret) .skip)))
 (.seq (.rg [Im 37 0, Ils 38 37, Im 2 38])
 .ret)) .skip))))))))
 (.seq (.rg [Imv 2 0])
 .ret))⟩
theorem ck59:chkFn Tryz.prog 59 ir59=true:=by kernel_rfl
def ir60 : AFn := ⟨91, 1, [.c 2 2 true, .t 3], .seq (.rg [Io 2 (.alloc [.int .i64 0, .str []]), Imv 3 0])
 (.seq (.rg [Im 12 0, Io 13 (.ixs (.t 12) (.k (.int .i64 0))), Im 4 13])
 (.seq (.block 0 (.seq (.rg [Im 15 0, Io 16 (.call 117 [(.t 15), (.k (.str [34, 34, 34]))]), Im 14 16])
 (.cond (.t 14) (.seq (.rg [Im 18 0, Io 19 (.call 119 [(.t 18)]), Im 17 19, Iex 20 17 0, Iex 21 17 1, Im 5 20, Im 6 21])
 (.seq (.rg [Im 22 5, Io 23 (.bld [.int .i64 0, .str []] [(0, 1, (.k (.int .i64 5))), (1, 1, (.t 22))]), Im 24 6, ⟨none, none, .st 2 (.t 2) (.t 23), []⟩, Im 3 24])
 .ret)) (.seq (.rg [Im 26 4, Io 27 (.bi .eql .u8 (.t 26) (.k (.int .u8 34))), Im 25 27])
 (.cond (.t 25) (.seq (.rg [Im 29 0, Io 30 (.call 120 [(.t 29), (.k (.clo 121 [] []))]), Im 28 30, Iex 31 28 0, Iex 32 28 1, Im 7 31, Im 8 32])
 (.seq (.rg [Im 33 7, Io 34 (.bld [.int .i64 0, .str []] [(0, 1, (.k (.int .i64 5))), (1, 1, (.t 33))]), Im 35 8, ⟨none, none, .st 2 (.t 2) (.t 34), []⟩, Im 3 35])
 .ret)) (.seq (.rg [Im 37 0, Io 38 (.call 117 [(.t 37), (.k (.str [46, 46, 46]))]), Im 36 38])
 (.cond (.t 36) (.seq (.rg [Io 39 (.bld [.int .i64 0, .str []] [(0, 1, (.k (.int .i64 1))), (1, 1, (.k (.str [46, 46, 46])))]), ⟨none, none, .st 2 (.t 2) (.t 39), []⟩, Imv 3 3])
 .ret) (.seq (.rg [Im 41 4, Io 42 (.call 122 [(.k (.str [33, 36, 38, 40, 41, 58, 61, 64, 91, 93, 123, 124, 125])), (.t 41)]), Io 43 (.bi .geq .i64 (.t 42) (.k (.int .i64 0))), Im 40 43])
 (.cond (.t 40) (.seq (.rg [Im 44 0, Io 45 (.sls (.t 44) none (some (.k (.int .i64 1)))), Io 46 (.bld [.int .i64 0, .str []] [(0, 1, (.k (.int .i64 1))), (1, 1, (.t 45))]), ⟨none, none, .st 2 (.t 2) (.t 46), []⟩, Imv 3 1])
 .ret) (.seq (.rg [Im 48 4, Io 49 (.call 123 [(.t 48)]), Im 47 49])
 (.cond (.t 47) (.seq (.rg [Im 50 0, Io 51 (.call 124 [(.t 50)]), Im 9 51])
 (.seq (.rg [Im 52 0, Im 53 9, Io 54 (.sls (.t 52) none (some (.t 53))), Io 55 (.bld [.int .i64 0, .str []] [(0, 1, (.k (.int .i64 2))), (1, 1, (.t 54))]), Im 56 9, ⟨none, none, .st 2 (.t 2) (.t 55), []⟩, Im 3 56])
 .ret)) .skip)))))))))))
 (.seq (.rg [Im 58 0, Io 59 (.call 125 [(.t 58)]), Im 57 59, Iex 60 57 0, Iex 61 57 1, Im 10 60, Im 11 61])
 (.seq (.seq (.rg [Im 62 10, Im 63 0, Ils 64 63, Ilt 65 62 64, Im 66 65, Jm 67 66 0, Jm 68 66 10, Jt 69 66 (.ixs (.t 67) (.t 68)), Jt 70 66 (.call 123 [(.t 69)]), Jm 71 66 70, Fm 72 71 0, Fm 73 71 10, Jf 74 71 (.ixs (.t 72) (.t 73)), Jf 75 71 (.call 126 [(.t 74)]), Jt 76 66 (.pick (.t 71) (.k (.bool true)) (.t 75)), Jm 77 66 76, Fm 78 77 0, Fm 79 77 10, Jf 80 77 (.ixs (.t 78) (.t 79)), Jf 81 77 (.bi .eql .u8 (.t 80) (.k (.int .u8 46))), Jt 82 66 (.pick (.t 77) (.k (.bool true)) (.t 81)), Ipf 83 66 82])
 (.cond (.t 83) (.seq (.rg [Io 84 (.bld [.int .i64 0, .str []] []), ⟨none, none, .st 2 (.t 2) (.t 84), []⟩, Imv 3 0])
 .ret) .skip))
 (.seq (.rg [Im 85 11, Im 86 0, Im 87 10, Io 88 (.sls (.t 86) none (some (.t 87))), Io 89 (.bld [.int .i64 0, .str []] [(0, 1, (.t 85)), (1, 1, (.t 88))]), Im 90 10, ⟨none, none, .st 2 (.t 2) (.t 89), []⟩, Im 3 90])
 .ret)))))⟩
theorem ck60:chkFn Tryz.prog 60 ir60=true:=by kernel_rfl
def ir75:AFn:=⟨7,2,[],.rg [Im 4 1,Io 5 (.bld [.int .i64 0] [(0,1,(.t 4))]),Io 6 (.mki 120 (.t 5)),⟨none,none,.pan (.t 6),[]⟩]⟩
theorem ck75:chkFn Tryz.prog 75 ir75=true:=by kernel_rfl
def ir76 : AFn := ⟨17, 1, [.c 2 2 true], .seq (.rg [Io 2 (.alloc [.int .i64 0, .str []])])
 (.seq (.seq (.rg [Im 3 0, Io 4 (.call 43 [(.t 3)]), Ing 5 4])
 (.cond (.t 5) (.seq (.rg [Io 6 (.bld [.int .i64 0, .str []] []), ⟨none, none, .st 2 (.t 2) (.t 6), []⟩])
 .ret) .skip))
 (.seq (.reg [0, 1, 2, 3, 4, 5, 6, 7, 8, 9, 10] [Im 7 0, Ink 8 7, If 9 0 8, Il 10 1 9, Im 11 0, Ink 12 11, If 13 1 12, Il 14 1 13, Iia 15 2 10 14, Ilb 16 2 15, ⟨none, none, .st 2 (.t 2) (.t 16), []⟩])
 .ret))⟩
theorem ck76:chkFn Tryz.prog 76 ir76=true:=by kernel_rfl
def ir77 : AFn := ⟨15, 1, [.c 2 5 true], .seq (.rg [Io 2 (.alloc [.int .i64 0, .int .i64 0, .str [], .sl .nil 5 [], .sl .nil 6 []])])
 (.seq (.seq (.rg [Im 3 0])
 (.block 0 (.seq (.rg [Io 5 (.bs .eql (.t 3) (.k (.str [110, 117, 108, 108]))), Im 4 5])
 (.cond (.t 4) (.seq (.rg [Io 6 (.bld [.int .i64 0, .int .i64 0, .str [], .sl .nil 5 [], .sl .nil 6 []] []), ⟨none, none, .st 5 (.t 2) (.t 6), []⟩])
 .ret) (.seq (.rg [Io 8 (.bs .eql (.t 3) (.k (.str [116, 114, 117, 101]))), Im 7 8])
 (.cond (.t 7) (.seq (.rg [Io 9 (.bld [.int .i64 0, .int .i64 0, .str [], .sl .nil 5 [], .sl .nil 6 []] [(0, 1, (.k (.int .i64 1))), (1, 1, (.k (.int .i64 1)))]), ⟨none, none, .st 5 (.t 2) (.t 9), []⟩])
 .ret) (.seq (.rg [Io 11 (.bs .eql (.t 3) (.k (.str [102, 97, 108, 115, 101]))), Im 10 11])
 (.cond (.t 10) (.seq (.rg [Io 12 (.bld [.int .i64 0, .int .i64 0, .str [], .sl .nil 5 [], .sl .nil 6 []] [(0, 1, (.k (.int .i64 1)))]), ⟨none, none, .st 5 (.t 2) (.t 12), []⟩])
 .ret) .skip))))))))
 (.seq (.rg [Im 13 0, Io 14 (.bld [.int .i64 0, .int .i64 0, .str [], .sl .nil 5 [], .sl .nil 6 []] [(0, 1, (.k (.int .i64 5))), (2, 1, (.t 13))]), ⟨none, none, .st 5 (.t 2) (.t 14), []⟩])
 .ret))⟩
theorem ck77:chkFn Tryz.prog 77 ir77=true:=by kernel_rfl
def ir78 : AFn := ⟨19, 1, [.t 2, .t 3], .seq (.rg [Imv 2 0, Imb 3 false])
 (.seq (.rg [Im 7 0, Io 8 (.call 151 [(.t 7), (.k (.int .i64 10)), (.k (.int .i64 64))]), Im 6 8, Iex 9 6 0, Iex 10 6 1, Im 4 9, Im 5 10])
 (.seq (.rg [Im 11 4, Im 12 5, Io 13 (.ifnil false (.t 12)), Im 14 13, Jm 15 14 0, Jt 16 14 (.call 129 [(.t 15)]), Jt 17 14 (.bi .eql .i64 (.t 16) (.k (.int .i64 3))), Ipf 18 14 17, Im 2 11, Im 3 18])
 .ret))⟩
theorem ck78:chkFn Tryz.prog 78 ir78=true:=by kernel_rfl
def ir79 : AFn := ⟨5, 1, [.c 2 5 true], .seq (.rg [Io 2 (.alloc [.int .i64 0, .int .i64 0, .str [], .sl .nil 5 [], .sl .nil 6 []])])
 (.seq (.rg [Im 3 0, Io 4 (.bld [.int .i64 0, .int .i64 0, .str [], .sl .nil 5 [], .sl .nil 6 []] [(0, 1, (.k (.int .i64 2))), (1, 1, (.t 3))]), ⟨none, none, .st 5 (.t 2) (.t 4), []⟩])
 .ret)⟩
theorem ck79:chkFn Tryz.prog 79 ir79=true:=by kernel_rfl
def ir80 : AFn := ⟨5, 1, [.c 2 5 true], .seq (.rg [Io 2 (.alloc [.int .i64 0, .int .i64 0, .str [], .sl .nil 5 [], .sl .nil 6 []])])
 (.seq (.rg [Im 3 0, Io 4 (.bld [.int .i64 0, .int .i64 0, .str [], .sl .nil 5 [], .sl .nil 6 []] [(0, 1, (.k (.int .i64 4))), (2, 1, (.t 3))]), ⟨none, none, .st 5 (.t 2) (.t 4), []⟩])
 .ret)⟩
theorem ck80:chkFn Tryz.prog 80 ir80=true:=by kernel_rfl
def ir81 : AFn := ⟨28, 2, [.t 4], .seq (.rg [Imb 4 false])
 (.seq (.seq (.rg [Im 5 0, Im 6 1, Io 7 (.call 97 [(.t 5), (.t 6)]), Im 8 7, Jm 9 8 0, Jt 10 8 (.nilchk (.t 9)), Ja 11 8 2 10, Jl 12 8 1 11, Jt 13 8 (.bi .geq .i64 (.t 12) (.k (.int .i64 16))), Ipf 14 8 13])
 (.cond (.t 14) (.rg [Im 15 0, Io 16 (.call 75 [(.t 15), (.k (.int .i64 4))])]) .skip))
 (.seq (.seq (.rg [Im 17 0, Im 18 1, Io 19 (.call 98 [(.t 17), (.t 18)]), Ing 20 19])
 (.cond (.t 20) (.seq (.rg [Imb 4 false])
 .ret) .skip))
 (.seq (.rg [Im 21 0, Ink 22 21, If 23 2 22, Il 24 1 23, Iai 25 24 1, Ink 26 21, If 27 2 26, ⟨none, none, .st 1 (.t 27) (.t 25), []⟩])
 (.seq (.rg [Imb 4 true])
 .ret))))⟩
theorem ck81:chkFn Tryz.prog 81 ir81=true:=by kernel_rfl
def ir82 : AFn := ⟨16, 2, [.t 4], .seq (.rg [Imb 4 false])
 (.seq (.seq (.rg [Im 5 0, Im 6 1, Io 7 (.call 98 [(.t 5), (.t 6)]), Ing 8 7])
 (.cond (.t 8) (.seq (.rg [Imb 4 false])
 .ret) .skip))
 (.seq (.rg [Im 9 0, Ink 10 9, If 11 2 10, Il 12 1 11, Isi 13 12 1, Ink 14 9, If 15 2 14, ⟨none, none, .st 1 (.t 15) (.t 13), []⟩])
 (.seq (.rg [Imb 4 true])
 .ret)))⟩
theorem ck82:chkFn Tryz.prog 82 ir82=true:=by kernel_rfl
def ir83 : AFn := ⟨15, 2, [.c 4 6 true], .seq (.rg [Io 4 (.alloc [.str [], .int .i64 0, .int .i64 0, .str [], .sl .nil 5 [], .sl .nil 6 []])])
 (.seq (.rg [Im 6 0, Io 7 (.call 85 [(.t 6)]), Im 5 7])
 (.seq (.rg [Im 8 0, Io 9 (.call 84 [(.t 8), (.k (.str [58]))])])
 (.seq (.rg [Im 10 5, Im 11 0, Im 12 1, Io 13 (.call 33 [(.t 11), (.t 12)]), Io 14 (.bld [.str [], .int .i64 0, .int .i64 0, .str [], .sl .nil 5 [], .sl .nil 6 []] [(0, 1, (.t 10)), (1, 5, (.t 13))]), ⟨none, none, .st 6 (.t 4) (.t 14), []⟩])
 .ret)))⟩
theorem ck83:chkFn Tryz.prog 83 ir83=true:=by kernel_rfl
def ir84 : AFn := ⟨10, 2, [], .seq (.rg [Im 4 0, Im 5 1, Io 6 (.call 98 [(.t 4), (.t 5)]), Ing 7 6])
 (.cond (.t 7) (.rg [Im 8 0, Io 9 (.call 75 [(.t 8), (.k (.int .i64 2))])]) .skip)⟩
theorem ck84:chkFn Tryz.prog 84 ir84=true:=by kernel_rfl
def ir85 : AFn := ⟨20, 1, [.t 2], .seq (.rg [Io 2 (.mv (.k (.str [])))])
 (.seq (.rg [Im 4 0, Io 5 (.call 76 [(.t 4)]), Io 3 (.alloc [.int .i64 0, .str []]), ⟨none, none, .st 2 (.t 3) (.t 5), []⟩])
 (.seq (.seq (.rg [If 6 0 3, Il 7 1 6, Io 8 (.bi .neq .i64 (.t 7) (.k (.int .i64 2)))])
 (.cond (.t 8) (.rg [Im 9 0, Io 10 (.call 75 [(.t 9), (.k (.int .i64 2))])]) .skip))
 (.seq (.rg [Im 11 0, Ink 12 11, If 13 1 12, Il 14 1 13, Iai 15 14 1, Ink 16 11, If 17 1 16, ⟨none, none, .st 1 (.t 17) (.t 15), []⟩])
 (.seq (.rg [If 18 1 3, Il 19 1 18, Im 2 19])
 .ret))))⟩
theorem ck85:chkFn Tryz.prog 85 ir85=true:=by kernel_rfl
def ir97 : AFn := ⟨10, 2, [.t 4], .seq (.rg [Imb 4 false])
 (.seq (.rg [Im 5 0, Io 6 (.call 76 [(.t 5)]), Im 7 1, Io 8 (.bld [.int .i64 0, .str []] [(0, 1, (.k (.int .i64 1))), (1, 1, (.t 7))]), Io 9 (.eqa false [(.i .i64), .s] (.t 6) (.t 8)), Im 4 9])
 .ret)⟩
theorem ck97:chkFn Tryz.prog 97 ir97=true:=by kernel_rfl
def ir98 : AFn := ⟨18, 2, [.t 4], .seq (.rg [Imb 4 false])
 (.seq (.rg [Im 6 0, Im 7 1, Io 8 (.call 97 [(.t 6), (.t 7)]), Im 5 8])
 (.seq (.seq (.rg [Im 9 5])
 (.cond (.t 9) (.rg [Im 10 0, Ink 11 10, If 12 1 11, Il 13 1 12, Iai 14 13 1, Ink 15 10, If 16 1 15, ⟨none, none, .st 1 (.t 16) (.t 14), []⟩]) .skip))
 (.seq (.rg [Im 17 5, Im 4 17])
 .ret)))⟩
theorem ck98:chkFn Tryz.prog 98 ir98=true:=by kernel_rfl
def ir99 : AFn := ⟨13, 1, [], .seq (.rg [Im 2 0, Io 3 (.call 76 [(.t 2)]), Io 4 (.fld 0 1 false (.t 3)), Iei 5 4 5])
 (.cond (.t 5) (.rg [Im 6 0, Ink 7 6, If 8 1 7, Il 9 1 8, Iai 10 9 1, Ink 11 6, If 12 1 11, ⟨none, none, .st 1 (.t 12) (.t 10), []⟩]) .skip)⟩
theorem ck99:chkFn Tryz.prog 99 ir99=true:=by kernel_rfl
def ir100 : AFn := ⟨18, 2, [.t 4], .seq (.rg [Imb 4 false])
 (.seq (.rg [Im 6 0, Im 7 1, Io 8 (.call 158 [(.t 6), (.t 7)]), Im 5 8])
 (.seq (.seq (.rg [Im 9 5])
 (.cond (.t 9) (.rg [Im 10 0, Ink 11 10, If 12 1 11, Il 13 1 12, Iai 14 13 1, Ink 15 10, If 16 1 15, ⟨none, none, .st 1 (.t 16) (.t 14), []⟩]) .skip))
 (.seq (.rg [Im 17 5, Im 4 17])
 .ret)))⟩
theorem ck100:chkFn Tryz.prog 100 ir100=true:=by kernel_rfl
def ir101 : AFn := ⟨59, 1, [], .seq (.rg [Im 2 0, Ink 3 2, If 4 4 3, ⟨none, none, .st 1 (.t 4) (.k (.bool true)), []⟩])
 (.seq (.rg [Im 5 0, Ink 6 5, If 7 0 6, Il 8 1 7, Io 9 (.call 84 [(.t 8), (.k (.str [123]))])])
 (.seq (.seq (.rg [Im 10 0, Ink 11 10, If 12 0 11, Il 13 1 12, Io 14 (.call 100 [(.t 13), (.k (.str [113, 117, 101, 114, 121]))]), Ing 15 14])
 (.cond (.t 15) (.rg [Im 16 0, Ink 17 16, If 18 0 17, Il 19 1 18, Io 20 (.call 75 [(.t 19), (.k (.int .i64 2))])]) .skip))
 (.seq (.rg [Im 21 0, Ink 22 21, If 23 0 22, Il 24 1 23, Io 25 (.call 84 [(.t 24), (.k (.str [58]))])])
 (.seq (.rg [Im 26 0, Im 27 0, Ink 28 27, If 29 0 28, Il 30 1 29, Io 31 (.call 85 [(.t 30)]), Ink 32 26, If 33 1 32, If 34 1 33, ⟨none, none, .st 1 (.t 34) (.t 31), []⟩])
 (.seq (.seq (.rg [Im 35 0, Ink 36 35, If 37 0 36, Il 38 1 37, Io 39 (.call 100 [(.t 38), (.k (.str [109, 117, 116, 97, 116, 105, 111, 110]))])])
 (.cond (.t 39) (.seq (.rg [Im 40 0, Ink 41 40, If 42 0 41, Il 43 1 42, Io 44 (.call 84 [(.t 43), (.k (.str [58]))])])
 (.rg [Im 45 0, Im 46 0, Ink 47 46, If 48 0 47, Il 49 1 48, Io 50 (.call 85 [(.t 49)]), Ink 51 45, If 52 1 51, If 53 2 52, ⟨none, none, .st 1 (.t 53) (.t 50), []⟩])) .skip))
 (.rg [Im 54 0, Ink 55 54, If 56 0 55, Il 57 1 56, Io 58 (.call 84 [(.t 57), (.k (.str [125]))])]))))))⟩
theorem ck101:chkFn Tryz.prog 101 ir101=true:=by kernel_rfl
def ir102 : AFn := ⟨47, 2, [.c 4 6 true], .seq (.rg [Io 4 (.alloc [.int .i64 0, .str [], .sl .nil 1 [], .sl .nil 6 [], .sl .nil 1 [], .sl .nil 10 []])])
 (.seq (.rg [Im 6 1, Im 7 0, Ink 8 7, If 9 0 8, Il 10 1 9, Io 11 (.call 85 [(.t 10)]), Io 12 (.bld [.int .i64 0, .str [], .sl .nil 1 [], .sl .nil 6 [], .sl .nil 1 [], .sl .nil 10 []] [(0, 1, (.t 6)), (1, 1, (.t 11))]), Io 5 (.alloc [.int .i64 0, .str [], .sl .nil 1 [], .sl .nil 6 [], .sl .nil 1 [], .sl .nil 10 []]), ⟨none, none, .st 6 (.t 5) (.t 12), []⟩])
 (.seq (.seq (.rg [Im 13 0, Ink 14 13, If 15 0 14, Il 16 1 15, Io 17 (.call 100 [(.t 16), (.k (.str [105, 109, 112, 108, 101, 109, 101, 110, 116, 115]))])])
 (.cond (.t 17) (.rg [Im 18 0, Io 19 (.call 159 [(.t 18), (.k (.str [38]))]), If 20 2 5, ⟨none, none, .st 1 (.t 20) (.t 19), []⟩]) .skip))
 (.seq (.rg [Im 21 0, Ink 22 21, If 23 0 22, Il 24 1 23, Io 25 (.call 84 [(.t 24), (.k (.str [123]))])])
 (.seq (.reg [0, 1, 2, 3, 4, 5, 6, 7] [If 26 3 5, Il 27 1 26, Im 28 0, ⟨some 29, none, .call 160 [(.t 28)], [1]⟩, Io 30 (.bls 6 1 [.str [], .sl .nil 10 [], .str [], .int .i64 0, .int .i64 0, .sl .nil 2 []] [(0, (.t 29))]), Iap 31 6 96 27 30, If 32 3 5, ⟨none, none, .st 1 (.t 32) (.t 31), []⟩])
 (.seq (.block 0 (.loop [0, 4, 5] (.seq (.seq (.rg [Im 33 0, Ink 34 33, If 35 0 34, Il 36 1 35, Io 37 (.call 98 [(.t 36), (.k (.str [125]))]), Ing 38 37])
 (.cond (.t 38) .skip (.exit 0)))
 (.block 1 (.reg [0, 1, 2, 3, 4, 5, 6, 7] [If 39 3 5, Il 40 1 39, Im 41 0, ⟨some 42, none, .call 160 [(.t 41)], [1]⟩, Io 43 (.bls 6 1 [.str [], .sl .nil 10 [], .str [], .int .i64 0, .int .i64 0, .sl .nil 2 []] [(0, (.t 42))]), Iap 44 6 96 40 43, If 45 3 5, ⟨none, none, .st 1 (.t 45) (.t 44), []⟩])))))
 (.seq (.rg [Ilb 46 6 5, ⟨none, none, .st 6 (.t 4) (.t 46), []⟩])
 .ret))))))⟩
theorem ck102:chkFn Tryz.prog 102 ir102=true:=by kernel_rfl
def ir103 : AFn := ⟨19, 1, [.c 2 6 true], .seq (.rg [Io 2 (.alloc [.int .i64 0, .str [], .sl .nil 1 [], .sl .nil 6 [], .sl .nil 1 [], .sl .nil 10 []])])
 (.seq (.rg [Im 4 0, Ink 5 4, If 6 0 5, Il 7 1 6, Io 8 (.call 85 [(.t 7)]), Io 9 (.bld [.int .i64 0, .str [], .sl .nil 1 [], .sl .nil 6 [], .sl .nil 1 [], .sl .nil 10 []] [(0, 1, (.k (.int .i64 3))), (1, 1, (.t 8))]), Io 3 (.alloc [.int .i64 0, .str [], .sl .nil 1 [], .sl .nil 6 [], .sl .nil 1 [], .sl .nil 10 []]), ⟨none, none, .st 6 (.t 3) (.t 9), []⟩])
 (.seq (.rg [Im 10 0, Ink 11 10, If 12 0 11, Il 13 1 12, Io 14 (.call 84 [(.t 13), (.k (.str [61]))])])
 (.seq (.rg [Im 15 0, Io 16 (.call 159 [(.t 15), (.k (.str [124]))]), If 17 4 3, ⟨none, none, .st 1 (.t 17) (.t 16), []⟩])
 (.seq (.rg [Ilb 18 6 3, ⟨none, none, .st 6 (.t 2) (.t 18), []⟩])
 .ret))))⟩
theorem ck103:chkFn Tryz.prog 103 ir103=true:=by kernel_rfl
def ir104 : AFn := ⟨36, 1, [.c 2 6 true], .seq (.rg [Io 2 (.alloc [.int .i64 0, .str [], .sl .nil 1 [], .sl .nil 6 [], .sl .nil 1 [], .sl .nil 10 []])])
 (.seq (.rg [Im 4 0, Ink 5 4, If 6 0 5, Il 7 1 6, Io 8 (.call 85 [(.t 7)]), Io 9 (.bld [.int .i64 0, .str [], .sl .nil 1 [], .sl .nil 6 [], .sl .nil 1 [], .sl .nil 10 []] [(0, 1, (.k (.int .i64 4))), (1, 1, (.t 8))]), Io 3 (.alloc [.int .i64 0, .str [], .sl .nil 1 [], .sl .nil 6 [], .sl .nil 1 [], .sl .nil 10 []]), ⟨none, none, .st 6 (.t 3) (.t 9), []⟩])
 (.seq (.rg [Im 10 0, Ink 11 10, If 12 0 11, Il 13 1 12, Io 14 (.call 84 [(.t 13), (.k (.str [123]))])])
 (.seq (.reg [0, 1, 2, 3, 4, 5, 6, 7] [If 15 4 3, Il 16 1 15, Im 17 0, ⟨some 18, none, .call 161 [(.t 17)], [1]⟩, Io 19 (.bls 1 1 [.str []] [(0, (.t 18))]), Iap 20 1 16 16 19, If 21 4 3, ⟨none, none, .st 1 (.t 21) (.t 20), []⟩])
 (.seq (.block 0 (.loop [0, 2, 3] (.seq (.seq (.rg [Im 22 0, Ink 23 22, If 24 0 23, Il 25 1 24, Io 26 (.call 98 [(.t 25), (.k (.str [125]))]), Ing 27 26])
 (.cond (.t 27) .skip (.exit 0)))
 (.block 1 (.reg [0, 1, 2, 3, 4, 5, 6, 7] [If 28 4 3, Il 29 1 28, Im 30 0, ⟨some 31, none, .call 161 [(.t 30)], [1]⟩, Io 32 (.bls 1 1 [.str []] [(0, (.t 31))]), Iap 33 1 16 29 32, If 34 4 3, ⟨none, none, .st 1 (.t 34) (.t 33), []⟩])))))
 (.seq (.rg [Ilb 35 6 3, ⟨none, none, .st 6 (.t 2) (.t 35), []⟩])
 .ret)))))⟩
theorem ck104:chkFn Tryz.prog 104 ir104=true:=by kernel_rfl
def ir105 : AFn := ⟨19, 1, [.c 2 6 true], .seq (.rg [Io 2 (.alloc [.int .i64 0, .str [], .sl .nil 1 [], .sl .nil 6 [], .sl .nil 1 [], .sl .nil 10 []])])
 (.seq (.rg [Im 4 0, Ink 5 4, If 6 0 5, Il 7 1 6, Io 8 (.call 85 [(.t 7)]), Io 9 (.bld [.int .i64 0, .str [], .sl .nil 1 [], .sl .nil 6 [], .sl .nil 1 [], .sl .nil 10 []] [(0, 1, (.k (.int .i64 5))), (1, 1, (.t 8))]), Io 3 (.alloc [.int .i64 0, .str [], .sl .nil 1 [], .sl .nil 6 [], .sl .nil 1 [], .sl .nil 10 []]), ⟨none, none, .st 6 (.t 3) (.t 9), []⟩])
 (.seq (.rg [Im 10 0, Ink 11 10, If 12 0 11, Il 13 1 12, Io 14 (.call 84 [(.t 13), (.k (.str [123]))])])
 (.seq (.rg [Im 15 0, Io 16 (.call 162 [(.t 15), (.k (.str [125]))]), If 17 5 3, ⟨none, none, .st 1 (.t 17) (.t 16), []⟩])
 (.seq (.rg [Ilb 18 6 3, ⟨none, none, .st 6 (.t 2) (.t 18), []⟩])
 .ret))))⟩
theorem ck105:chkFn Tryz.prog 105 ir105=true:=by kernel_rfl
def ir109 : AFn := ⟨42, 2, [.t 4], .seq (.rg [Imb 4 false])
 (.seq (.seq (.rg [Im 6 0, Iln 7 6, Im 8 1, Iln 9 8, Io 10 (.bi .neq .i64 (.t 7) (.t 9))])
 (.cond (.t 10) (.seq (.rg [Imb 4 false])
 .ret) .skip))
 (.seq (.seq (.rg [Imv 5 0])
 (.block 0 (.loop [0, 1, 5] (.seq (.seq (.rg [Im 11 5, Im 12 0, Iln 13 12, Ilt 14 11 13])
 (.cond (.t 14) .skip (.exit 0)))
 (.seq (.block 1 (.seq (.reg [0, 1, 2, 3, 4, 5, 6, 7, 8, 9, 10, 11, 12, 13, 14, 15, 16, 17, 18, 19, 20, 21, 22, 23, 24] [Im 17 0, Im 18 5, Iia 19 2 17 18, If 20 0 19, Il 21 1 20, Im 22 1, Im 23 5, Iia 24 2 22 23, If 25 0 24, Il 26 1 25, Io 27 (.bs .neq (.t 21) (.t 26)), Im 28 27, Fm 29 28 0, Fm 30 28 5, Jf 31 28 (.ia 2 (.t 29) (.t 30)), Fa 32 28 1 31, Fl 33 28 1 32, Fm 34 28 1, Fm 35 28 5, Jf 36 28 (.ia 2 (.t 34) (.t 35)), Fa 37 28 1 36, Fl 38 28 1 37, Jf 39 28 (.call 40 [(.t 33), (.t 38)]), Jf 40 28 (.not (.t 39)), Ipt 41 28 40])
 (.cond (.t 41) (.seq (.rg [Imb 4 false])
 .ret) .skip)))
 (.rg [Im 15 5, Iai 16 15 1, Im 5 16]))))))
 (.seq (.rg [Imb 4 true])
 .ret)))⟩
theorem ck109:chkFn Tryz.prog 109 ir109=true:=by kernel_rfl
def ir115 : AFn := ⟨32, 2, [.t 4, .t 5], .seq (.rg [Imv 4 0, Imv 5 0])
 (.seq (.seq (.rg [Im 8 1, Io 9 (.bi .lss .i64 (.t 8) (.k (.int .i64 0))), Im 10 9, Fm 11 10 1, Fm 12 10 0, Jf 13 10 (.lens (.t 12)), Jf 14 10 (.bi .geq .i64 (.t 11) (.t 13)), Ipt 15 10 14])
 (.cond (.t 15) (.seq (.rg [Imv 4 0, Imv 5 0])
 .ret) .skip))
 (.seq (.rg [Im 17 0, Im 18 1, Io 19 (.sls (.t 17) (some (.t 18)) none), Io 20 (.call 169 [(.t 19)]), Im 16 20, Iex 21 16 0, Iex 22 16 1, Im 6 21, Im 7 22])
 (.seq (.seq (.rg [Im 23 6, Io 24 (.bi .eql .i32 (.t 23) (.k (.int .i32 65533))), Im 25 24, Jm 26 25 7, Jt 27 25 (.bi .lss .i64 (.t 26) (.k (.int .i64 2))), Ipf 28 25 27])
 (.cond (.t 28) (.seq (.rg [Imv 4 0, Imv 5 0])
 .ret) .skip))
 (.seq (.rg [Im 29 6, Io 30 (.cvi .i64 (.t 29)), Im 31 7, Im 4 30, Im 5 31])
 .ret))))⟩
theorem ck115:chkFn Tryz.prog 115 ir115=true:=by kernel_rfl
def ir116 : AFn := ⟨21, 1, [.t 2], .seq (.rg [Imb 2 false])
 (.seq (.rg [Im 3 0, Iei 4 3 9, Im 5 4, Fm 6 5 0, Jf 7 5 (.bi .eql .i64 (.t 6) (.k (.int .i64 10))), Ipt 8 5 7, Im 9 8, Fm 10 9 0, Jf 11 9 (.bi .eql .i64 (.t 10) (.k (.int .i64 13))), Ipt 12 9 11, Im 13 12, Fm 14 13 0, Jf 15 13 (.bi .geq .i64 (.t 14) (.k (.int .i64 32))), Fm 16 13 15, Jm 17 16 0, Jt 18 16 (.bi .leq .i64 (.t 17) (.k (.int .i64 65535))), Jf 19 13 (.pick (.t 16) (.t 18) (.k (.bool false))), Ipt 20 13 19, Im 2 20])
 .ret)⟩
theorem ck116:chkFn Tryz.prog 116 ir116=true:=by kernel_rfl
def ir119 : AFn := ⟨38, 1, [.t 2, .t 3], .seq (.rg [Io 2 (.mv (.k (.str []))), Imv 3 0])
 (.scope (.seq (.rg [Io 4 (.mv (.k (.sl .nil 1 [])))])
 (.seq (.rg [Imv 5 3])
 (.seq .skip
 (.seq (.block 0 (.loop [0, 4, 5] (.block 1 (.seq (.block 2 (.seq (.rg [Im 7 5, Im 8 0, Ils 9 8, Io 10 (.bi .geq .i64 (.t 7) (.t 9)), Im 6 10])
 (.cond (.t 6) (.seq (.rg [Io 2 (.mv (.k (.str []))), Imv 3 0])
 .ret) (.seq (.rg [Im 12 0, Im 13 5, Io 14 (.sls (.t 12) (some (.t 13)) none), Io 15 (.call 117 [(.t 14), (.k (.str [34, 34, 34]))]), Im 11 15])
 (.cond (.t 11) (.exit 0) (.seq (.rg [Im 17 0, Im 18 5, Io 19 (.sls (.t 17) (some (.t 18)) none), Io 20 (.call 117 [(.t 19), (.k (.str [92, 34, 34, 34]))]), Im 16 20])
 (.cond (.t 16) (.seq (.rg [Im 21 4, Io 22 (.apps (.t 21) (.k (.str [34, 34, 34]))), Im 4 22])
 (.seq (.rg [Im 23 5, Iai 24 23 4, Im 5 24])
 (.exit 1))) .skip)))))))
 (.seq (.rg [Im 25 4, Im 26 0, Im 27 5, Io 28 (.ixs (.t 26) (.t 27)), Io 29 (.bls 1 1 [.int .u8 0] [(0, (.t 28))]), Iap 30 1 1 25 29, Im 4 30])
 (.rg [Im 31 5, Iai 32 31 1, Im 5 32]))))))
 (.seq (.rg [Im 33 4, Io 34 (.cvb2s (.t 33)), Io 35 (.call 175 [(.t 34)]), Im 36 5, Iai 37 36 3, Im 2 35, Im 3 37])
 .ret))))))⟩
theorem ck119:chkFn Tryz.prog 119 ir119=true:=by kernel_rfl
def ir120 : AFn := ⟨75, 2, [.t 4, .t 5], .seq (.rg [Io 4 (.mv (.k (.str []))), Imv 5 0])
 (.scope (.seq (.rg [Io 9 (.bld [.sl .nil 1 [], .sl .nil 1 [], .bool false] [(2, 1, (.k (.bool true)))]), Io 10 (.box (.t 9)), Im 6 10])
 (.seq (.rg [Imv 7 1])
 (.seq .skip
 (.seq (.block 0 (.loop [0, 1, 6, 7] (.block 1 (.seq (.block 2 (.seq (.rg [Im 12 7, Im 13 0, Ils 14 13, Io 15 (.bi .geq .i64 (.t 12) (.t 14)), Im 11 15])
 (.cond (.t 11) (.seq (.rg [Io 4 (.mv (.k (.str []))), Imv 5 0])
 .ret) (.seq (.rg [Im 17 0, Im 18 7, Io 19 (.ixs (.t 17) (.t 18)), Io 20 (.bi .eql .u8 (.t 19) (.k (.int .u8 34))), Im 16 20])
 (.cond (.t 16) (.exit 0) (.seq (.rg [Im 22 0, Im 23 7, Io 24 (.ixs (.t 22) (.t 23)), Io 25 (.bi .eql .u8 (.t 24) (.k (.int .u8 92))), Im 21 25])
 (.cond (.t 21) (.seq (.rg [Im 26 6, Im 27 0, Im 28 7, Iai 29 28 1, Io 30 (.sls (.t 27) (some (.t 29)) none), Io 31 (.call 176 [(.t 26), (.t 30)]), Im 8 31])
 (.seq (.seq (.rg [Im 32 8, Iei 33 32 0])
 (.cond (.t 33) (.seq (.rg [Io 4 (.mv (.k (.str []))), Imv 5 0])
 .ret) .skip))
 (.seq (.rg [Im 34 7, Im 35 8, Io 36 (.bi .add .i64 (.k (.int .i64 1)) (.t 35)), Iad 37 34 36, Im 7 37])
 (.exit 1)))) (.seq (.rg [Im 39 1, Im 40 0, Im 41 7, Io 42 (.ixs (.t 40) (.t 41)), Io 43 (.callv (.t 39) [(.t 42)]), Ing 44 43, Im 38 44])
 (.cond (.t 38) (.seq (.rg [Io 4 (.mv (.k (.str []))), Imv 5 0])
 .ret) .skip)))))))))
 (.seq (.rg [Im 45 6, Io 46 (.call 177 [(.t 45)])])
 (.seq (.reg [0, 1, 2, 3, 4, 5, 6, 7, 8, 9, 10, 11, 12] [Im 47 6, Im 48 6, Ink 49 48, If 50 0 49, Il 51 1 50, Im 52 0, Im 53 7, Io 54 (.ixs (.t 52) (.t 53)), Io 55 (.bls 1 1 [.int .u8 0] [(0, (.t 54))]), Iap 56 1 1 51 55, Ink 57 47, If 58 0 57, ⟨none, none, .st 1 (.t 58) (.t 56), []⟩])
 (.rg [Im 59 7, Iai 60 59 1, Im 7 60])))))))
 (.seq (.rg [Im 61 6, Io 62 (.call 177 [(.t 61)])])
 (.seq (.seq (.rg [Im 63 6, Ink 64 63, If 65 2 64, Il 66 1 65, Ing 67 66])
 (.cond (.t 67) (.seq (.rg [Io 4 (.mv (.k (.str []))), Imv 5 0])
 .ret) .skip))
 (.seq (.rg [Im 68 6, Ink 69 68, If 70 0 69, Il 71 1 70, Io 72 (.cvb2s (.t 71)), Im 73 7, Iai 74 73 1, Im 4 72, Im 5 74])
 .ret))))))))⟩
theorem ck120:chkFn Tryz.prog 120 ir120=true:=by kernel_rfl
def ir121 : AFn := ⟨9, 1, [.t 2], .seq (.rg [Imb 2 false])
 (.seq (.rg [Im 3 0, Io 4 (.bi .neq .u8 (.t 3) (.k (.int .u8 10))), Im 5 4, Jm 6 5 0, Jt 7 5 (.bi .neq .u8 (.t 6) (.k (.int .u8 13))), Ipf 8 5 7, Im 2 8])
 .ret)⟩
theorem ck121:chkFn Tryz.prog 121 ir121=true:=by kernel_rfl
def ir123 : AFn := ⟨21, 1, [.t 2], .seq (.rg [Imb 2 false])
 (.seq (.rg [Im 3 0, Io 4 (.bi .geq .u8 (.t 3) (.k (.int .u8 97))), Im 5 4, Jm 6 5 0, Jt 7 5 (.bi .leq .u8 (.t 6) (.k (.int .u8 122))), Ipf 8 5 7, Im 9 8, Fm 10 9 0, Jf 11 9 (.bi .geq .u8 (.t 10) (.k (.int .u8 65))), Fm 12 9 11, Jm 13 12 0, Jt 14 12 (.bi .leq .u8 (.t 13) (.k (.int .u8 90))), Jf 15 9 (.pick (.t 12) (.t 14) (.k (.bool false))), Ipt 16 9 15, Im 17 16, Fm 18 17 0, Jf 19 17 (.bi .eql .u8 (.t 18) (.k (.int .u8 95))), Ipt 20 17 19, Im 2 20])
 .ret)⟩
theorem ck123:chkFn Tryz.prog 123 ir123=true:=by kernel_rfl
def ir124 : AFn := ⟨27, 1, [.t 2], .seq (.rg [Imv 2 0])
 (.seq (.rg [Imv 3 0])
 (.seq (.block 0 (.loop [0, 3] (.seq (.seq (.rg [Im 4 3, Im 5 0, Ils 6 5, Ilt 7 4 6, Im 8 7, Jm 9 8 0, Jm 10 8 3, Jt 11 8 (.ixs (.t 9) (.t 10)), Jt 12 8 (.call 123 [(.t 11)]), Jm 13 8 12, Fm 14 13 3, Jf 15 13 (.bi .gtr .i64 (.t 14) (.k (.int .i64 0))), Fm 16 13 15, Jm 17 16 0, Jm 18 16 3, Jt 19 16 (.ixs (.t 17) (.t 18)), Jt 20 16 (.call 126 [(.t 19)]), Jf 21 13 (.pick (.t 16) (.t 20) (.k (.bool false))), Jt 22 8 (.pick (.t 13) (.k (.bool true)) (.t 21)), Ipf 23 8 22])
 (.cond (.t 23) .skip (.exit 0)))
 (.block 1 (.rg [Im 24 3, Iai 25 24 1, Im 3 25])))))
 (.seq (.rg [Im 26 3, Im 2 26])
 .ret)))⟩
theorem ck124:chkFn Tryz.prog 124 ir124=true:=by kernel_rfl
def ir125 : AFn := ⟨38, 1, [.t 2, .t 3], .seq (.rg [Imv 2 0, Imv 3 0])
 (.seq (.rg [Im 8 0, Io 9 (.call 179 [(.t 8)]), Im 4 9])
 (.seq (.seq (.rg [Im 10 4, Iei 11 10 0])
 (.cond (.t 11) (.seq (.rg [Imv 2 0, Imv 3 0])
 .ret) .skip))
 (.seq (.rg [Imv 5 3])
 (.seq (.seq (.rg [Im 12 0, Im 13 4, Io 14 (.sls (.t 12) (some (.t 13)) none), Io 15 (.call 117 [(.t 14), (.k (.str [46]))])])
 (.cond (.t 15) (.seq (.rg [Im 16 0, Im 17 4, Iai 18 17 1, Io 19 (.sls (.t 16) (some (.t 18)) none), Io 20 (.call 180 [(.t 19)]), Im 6 20])
 (.seq (.rg [Im 21 6, Igi 22 21 0])
 (.cond (.t 22) (.rg [Im 23 4, Iai 24 23 1, Im 25 6, Iad 26 24 25, Im 4 26, Imv 5 4]) .skip))) .skip))
 (.seq (.seq (.rg [Im 27 0, Im 28 4, Io 29 (.sls (.t 27) (some (.t 28)) none), Io 30 (.call 181 [(.t 29)]), Im 7 30])
 (.seq (.rg [Im 31 7, Igi 32 31 0])
 (.cond (.t 32) (.rg [Im 33 4, Im 34 7, Iad 35 33 34, Im 4 35, Imv 5 4]) .skip)))
 (.seq (.rg [Im 36 4, Im 37 5, Im 2 36, Im 3 37])
 .ret))))))⟩
theorem ck125:chkFn Tryz.prog 125 ir125=true:=by kernel_rfl
def ir126 : AFn := ⟨9, 1, [.t 2], .seq (.rg [Imb 2 false])
 (.seq (.rg [Im 3 0, Io 4 (.bi .geq .u8 (.t 3) (.k (.int .u8 48))), Im 5 4, Jm 6 5 0, Jt 7 5 (.bi .leq .u8 (.t 6) (.k (.int .u8 57))), Ipf 8 5 7, Im 2 8])
 .ret)⟩
theorem ck126:chkFn Tryz.prog 126 ir126=true:=by kernel_rfl
def ir129 : AFn := ⟨15, 1, [.t 2], .seq (.rg [Imv 2 0])
 (.seq (.rg [Im 6 0, Io 7 (.call 125 [(.t 6)]), Im 5 7, Iex 8 5 0, Iex 9 5 1, Im 3 8, Im 4 9])
 (.seq (.seq (.rg [Im 10 3, Im 11 0, Ils 12 11, Io 13 (.bi .neq .i64 (.t 10) (.t 12))])
 (.cond (.t 13) (.seq (.rg [Imv 2 0])
 .ret) .skip))
 (.seq (.rg [Im 14 4, Im 2 14])
 .ret)))⟩
theorem ck129:chkFn Tryz.prog 129 ir129=true:=by kernel_rfl
def ir158 : AFn := ⟨10, 2, [.t 4], .seq (.rg [Imb 4 false])
 (.seq (.rg [Im 5 0, Io 6 (.call 76 [(.t 5)]), Im 7 1, Io 8 (.bld [.int .i64 0, .str []] [(0, 1, (.k (.int .i64 2))), (1, 1, (.t 7))]), Io 9 (.eqa false [(.i .i64), .s] (.t 6) (.t 8)), Im 4 9])
 .ret)⟩
theorem ck158:chkFn Tryz.prog 158 ir158=true:=by kernel_rfl
def ir159 : AFn := ⟨33, 2, [.t 4], .seq (.rg [Io 4 (.mv (.k (.sl .nil 1 [])))])
 (.seq (.rg [Im 6 0, Ink 7 6, If 8 0 7, Il 9 1 8, Im 10 1, Io 11 (.call 98 [(.t 9), (.t 10)])])
 (.seq (.rg [Im 12 0, Ink 13 12, If 14 0 13, Il 15 1 14, Io 16 (.call 85 [(.t 15)]), Io 17 (.bls 1 1 [.str []] [(0, (.t 16))]), Im 5 17])
 (.seq (.block 0 (.loop [0, 1, 5] (.seq (.seq (.rg [Im 18 0, Ink 19 18, If 20 0 19, Il 21 1 20, Im 22 1, Io 23 (.call 98 [(.t 21), (.t 22)])])
 (.cond (.t 23) .skip (.exit 0)))
 (.block 1 (.rg [Im 24 5, Im 25 0, Ink 26 25, If 27 0 26, Il 28 1 27, Io 29 (.call 85 [(.t 28)]), Io 30 (.bls 1 1 [.str []] [(0, (.t 29))]), Iap 31 1 16 24 30, Im 5 31])))))
 (.seq (.rg [Im 32 5, Im 4 32])
 .ret))))⟩
theorem ck159:chkFn Tryz.prog 159 ir159=true:=by kernel_rfl
def ir160 : AFn := ⟨41, 1, [.c 2 6 true], .seq (.rg [Io 2 (.alloc [.str [], .sl .nil 10 [], .str [], .int .i64 0, .int .i64 0, .sl .nil 2 []])])
 (.seq (.rg [Im 4 0, Ink 5 4, If 6 0 5, Il 7 1 6, Io 8 (.call 99 [(.t 7)])])
 (.seq (.rg [Im 9 0, Ink 10 9, If 11 0 10, Il 12 1 11, Io 13 (.call 85 [(.t 12)]), Io 14 (.bld [.str [], .sl .nil 10 [], .str [], .int .i64 0, .int .i64 0, .sl .nil 2 []] [(0, 1, (.t 13))]), Io 3 (.alloc [.str [], .sl .nil 10 [], .str [], .int .i64 0, .int .i64 0, .sl .nil 2 []]), ⟨none, none, .st 6 (.t 3) (.t 14), []⟩])
 (.seq (.seq (.rg [Im 15 0, Ink 16 15, If 17 0 16, Il 18 1 17, Io 19 (.call 98 [(.t 18), (.k (.str [40]))])])
 (.cond (.t 19) (.rg [Im 20 0, Io 21 (.call 162 [(.t 20), (.k (.str [41]))]), If 22 1 3, ⟨none, none, .st 1 (.t 22) (.t 21), []⟩]) .skip))
 (.seq (.rg [Im 23 0, Ink 24 23, If 25 0 24, Il 26 1 25, Io 27 (.call 84 [(.t 26), (.k (.str [58]))])])
 (.seq (.rg [Im 28 0, Ink 29 28, If 30 0 29, Il 31 1 30, Io 32 (.call 38 [(.t 31)]), If 33 2 3, ⟨none, none, .st 3 (.t 33) (.t 32), []⟩])
 (.seq (.rg [Im 34 0, Ink 35 34, If 36 0 35, Il 37 1 36, Io 38 (.call 196 [(.t 37), (.k (.bool true))]), If 39 5 3, ⟨none, none, .st 1 (.t 39) (.t 38), []⟩])
 (.seq (.rg [Ilb 40 6 3, ⟨none, none, .st 6 (.t 2) (.t 40), []⟩])
 .ret)))))))⟩
theorem ck160:chkFn Tryz.prog 160 ir160=true:=by kernel_rfl
def ir161 : AFn := ⟨37, 1, [.t 2], .seq (.rg [Io 2 (.mv (.k (.str [])))])
 (.seq (.rg [Im 3 0, Ink 4 3, If 5 0 4, Il 6 1 5, Io 7 (.call 99 [(.t 6)])])
 (.seq (.seq (.rg [Im 8 0, Ink 9 8, If 10 0 9, Il 11 1 10, Io 12 (.call 158 [(.t 11), (.k (.str [116, 114, 117, 101]))]), Im 13 12, Fm 14 13 0, Jf 15 13 (.nilchk (.t 14)), Fa 16 13 0 15, Fl 17 13 1 16, Jf 18 13 (.call 158 [(.t 17), (.k (.str [102, 97, 108, 115, 101]))]), Ipt 19 13 18, Im 20 19, Fm 21 20 0, Jf 22 20 (.nilchk (.t 21)), Fa 23 20 0 22, Fl 24 20 1 23, Jf 25 20 (.call 158 [(.t 24), (.k (.str [110, 117, 108, 108]))]), Ipt 26 20 25])
 (.cond (.t 26) (.rg [Im 27 0, Ink 28 27, If 29 0 28, Il 30 1 29, Io 31 (.call 75 [(.t 30), (.k (.int .i64 2))])]) .skip))
 (.seq (.rg [Im 32 0, Ink 33 32, If 34 0 33, Il 35 1 34, Io 36 (.call 85 [(.t 35)]), Im 2 36])
 .ret)))⟩
theorem ck161:chkFn Tryz.prog 161 ir161=true:=by kernel_rfl
def ir162 : AFn := ⟨22, 2, [.t 4], .seq (.rg [Io 4 (.mv (.k (.sl .nil 10 [])))])
 (.seq (.rg [Im 6 0, Io 7 (.call 206 [(.t 6)]), Io 8 (.bls 10 1 [.str [], .str [], .int .i64 0, .int .i64 0, .bool false, .int .i64 0, .int .i64 0, .str [], .sl .nil 5 [], .sl .nil 6 []] [(0, (.t 7))]), Im 5 8])
 (.seq (.block 0 (.loop [0, 1, 5] (.seq (.seq (.rg [Im 9 0, Ink 10 9, If 11 0 10, Il 12 1 11, Im 13 1, Io 14 (.call 98 [(.t 12), (.t 13)]), Ing 15 14])
 (.cond (.t 15) .skip (.exit 0)))
 (.block 1 (.rg [Im 16 5, Im 17 0, Io 18 (.call 206 [(.t 17)]), Io 19 (.bls 10 1 [.str [], .str [], .int .i64 0, .int .i64 0, .bool false, .int .i64 0, .int .i64 0, .str [], .sl .nil 5 [], .sl .nil 6 []] [(0, (.t 18))]), Iap 20 10 136 16 19, Im 5 20])))))
 (.seq (.rg [Im 21 5, Im 4 21])
 .ret)))⟩
theorem ck162:chkFn Tryz.prog 162 ir162=true:=by kernel_rfl
def ir175 : AFn := ⟨63, 1, [.t 2], .seq (.rg [Io 2 (.mv (.k (.str [])))])
 (.seq (.rg [Im 6 0, Io 7 (.call 216 [(.t 6)]), Im 3 7])
 (.seq (.seq (.rg [Im 8 3, Io 9 (.call 217 [(.t 8)]), Im 4 9])
 (.seq (.rg [Im 10 4, Igi 11 10 0])
 (.cond (.t 11) (.seq (.rg [Imv 5 1])
 (.block 0 (.loop [3, 4, 5] (.seq (.seq (.rg [Im 12 5, Im 13 3, Iln 14 13, Ilt 15 12 14])
 (.cond (.t 15) .skip (.exit 0)))
 (.seq (.block 1 (.reg [0, 1, 2, 3, 4, 5, 6, 7, 8, 9, 10, 11, 12, 13, 14, 15] [Im 18 3, Im 19 5, Im 20 3, Im 21 5, Iia 22 1 20 21, Il 23 1 22, Im 24 4, Im 25 3, Im 26 5, Iia 27 1 25 26, Il 28 1 27, Ils 29 28, Io 30 (.mm false (.t 24) [(.t 29)]), Io 31 (.sls (.t 23) (some (.t 30)) none), Iia 32 1 18 19, ⟨none, none, .st 1 (.t 32) (.t 31), []⟩]))
 (.rg [Im 16 5, Iai 17 16 1, Im 5 17])))))) .skip)))
 (.seq (.block 2 (.loop [3] (.seq (.seq (.rg [Im 33 3, Iln 34 33, Igi 35 34 0, Im 36 35, Jm 37 36 3, Jt 38 36 (.ia 1 (.t 37) (.k (.int .i64 0))), Jl 39 36 1 38, Jt 40 36 (.call 218 [(.t 39)]), Ipf 41 36 40])
 (.cond (.t 41) .skip (.exit 2)))
 (.block 3 (.rg [Im 42 3, Io 43 (.sll 1 (.t 42) (some (.k (.int .i64 1))) none none), Im 3 43])))))
 (.seq (.block 4 (.loop [3] (.seq (.seq (.rg [Im 44 3, Iln 45 44, Igi 46 45 0, Im 47 46, Jm 48 47 3, Jm 49 47 3, Jt 50 47 (.len (.t 49)), Jt 51 47 (.bi .sub .i64 (.t 50) (.k (.int .i64 1))), Jt 52 47 (.ia 1 (.t 48) (.t 51)), Jl 53 47 1 52, Jt 54 47 (.call 218 [(.t 53)]), Ipf 55 47 54])
 (.cond (.t 55) .skip (.exit 4)))
 (.block 5 (.rg [Im 56 3, Im 57 3, Iln 58 57, Isi 59 58 1, Io 60 (.sll 1 (.t 56) none (some (.t 59)) none), Im 3 60])))))
 (.seq (.rg [Io 61 (.frz 1 (.t 3)), Io 62 (.call 63 [(.t 61), (.k (.str [10]))]), Im 2 62])
 .ret)))))⟩
theorem ck175:chkFn Tryz.prog 175 ir175=true:=by kernel_rfl
def ir176 : AFn := ⟨48, 2, [.t 4], .seq (.rg [Imv 4 0])
 (.seq (.seq (.rg [Im 8 1, Io 9 (.call 117 [(.t 8), (.k (.str [117]))])])
 (.cond (.t 9) (.seq (.rg [Im 11 1, Io 12 (.sls (.t 11) (some (.k (.int .i64 1))) none), Io 13 (.call 219 [(.t 12)]), Im 10 13, Iex 14 10 0, Iex 15 10 1, Im 5 14, Im 6 15])
 (.seq (.seq (.rg [Im 16 6, Ing 17 16])
 (.cond (.t 17) (.seq (.rg [Imv 4 0])
 .ret) .skip))
 (.seq (.rg [Im 18 0, Im 19 0, Ink 20 19, If 21 1 20, Il 22 1 21, Im 23 5, Io 24 (.bls 1 1 [.int .i64 0] [(0, (.t 23))]), Iap 25 1 8 22 24, Ink 26 18, If 27 1 26, ⟨none, none, .st 1 (.t 27) (.t 25), []⟩])
 (.seq (.rg [Imv 4 5])
 .ret)))) .skip))
 (.seq (.seq (.rg [Im 28 1, Io 29 (.bs .eql (.t 28) (.k (.str [])))])
 (.cond (.t 29) (.seq (.rg [Imv 4 0])
 .ret) .skip))
 (.seq (.rg [Im 30 1, Io 31 (.ixs (.t 30) (.k (.int .i64 0))), Io 32 (.call 122 [(.k (.str [34, 92, 47, 98, 102, 110, 114, 116])), (.t 31)]), Im 7 32])
 (.seq (.seq (.rg [Im 33 7, Io 34 (.bi .lss .i64 (.t 33) (.k (.int .i64 0)))])
 (.cond (.t 34) (.seq (.rg [Imv 4 0])
 .ret) .skip))
 (.seq (.rg [Im 35 0, Io 36 (.call 177 [(.t 35)])])
 (.seq (.reg [0, 1, 2, 3, 4, 5, 6, 7, 8, 9, 10, 11] [Im 37 0, Im 38 0, Ink 39 38, If 40 0 39, Il 41 1 40, Im 42 7, Io 43 (.ixs (.k (.str [34, 92, 47, 8, 12, 10, 13, 9])) (.t 42)), Io 44 (.bls 1 1 [.int .u8 0] [(0, (.t 43))]), Iap 45 1 1 41 44, Ink 46 37, If 47 0 46, ⟨none, none, .st 1 (.t 47) (.t 45), []⟩])
 (.seq (.rg [Imv 4 1])
 .ret)))))))⟩
theorem ck176:chkFn Tryz.prog 176 ir176=true:=by kernel_rfl
def ir177 : AFn := ⟨34, 1, [], .seq (.rg [Im 5 0, Ink 6 5, If 7 1 6, Il 8 1 7, Io 9 (.call 220 [(.t 8)]), Im 4 9, Iex 10 4 0, Iex 11 4 1, Im 2 10, Im 3 11])
 (.reg [0, 1, 2, 3, 4, 5, 6, 7, 9, 10, 11, 12, 8, 13, 14, 15, 16, 17, 18, 19, 20, 21, 22, 23, 24] [Im 12 0, Im 13 0, Im 14 0, Im 15 0, Ink 16 15, If 17 0 16, Il 18 1 17, Im 19 2, Im 21 0, Ink 22 21, If 23 2 22, Il 24 1 23, ⟨some 20, none, .apps (.t 18) (.t 19), [11]⟩, Im 25 24, Jm 26 25 3, Ipf 27 25 26, Ink 28 12, If 29 0 28, ⟨none, none, .st 1 (.t 29) (.t 20), []⟩, Ink 30 13, If 31 1 30, ⟨none, none, .st 1 (.t 31) (.k (.sl .nil 1 [])), []⟩, Ink 32 14, If 33 2 32, ⟨none, none, .st 1 (.t 33) (.t 27), []⟩])⟩
theorem ck177:chkFn Tryz.prog 177 ir177=true:=by kernel_rfl
def ir179 : AFn := ⟨24, 1, [.t 2], .seq (.rg [Imv 2 0])
 (.seq (.rg [Imv 3 0])
 (.seq (.seq (.rg [Im 5 0, Io 6 (.call 117 [(.t 5), (.k (.str [45]))])])
 (.cond (.t 6) (.rg [Imv 3 1]) .skip))
 (.seq (.rg [Im 7 0, Im 8 3, Io 9 (.sls (.t 7) (some (.t 8)) none), Io 10 (.call 180 [(.t 9)]), Im 4 10])
 (.seq (.block 0 (.seq (.rg [Im 12 4, Iei 13 12 0, Im 11 13])
 (.cond (.t 11) (.seq (.rg [Imv 2 0])
 .ret) (.seq (.rg [Im 15 0, Im 16 3, Io 17 (.ixs (.t 15) (.t 16)), Io 18 (.bi .eql .u8 (.t 17) (.k (.int .u8 48))), Im 14 18])
 (.cond (.t 14) (.seq (.rg [Im 19 3, Iai 20 19 1, Im 2 20])
 .ret) .skip)))))
 (.seq (.rg [Im 21 3, Im 22 4, Iad 23 21 22, Im 2 23])
 .ret)))))⟩
theorem ck179:chkFn Tryz.prog 179 ir179=true:=by kernel_rfl
def ir180 : AFn := ⟨17, 1, [.t 2], .seq (.rg [Imv 2 0])
 (.seq (.rg [Imv 3 0])
 (.seq (.block 0 (.loop [0, 3] (.seq (.seq (.rg [Im 4 3, Im 5 0, Ils 6 5, Ilt 7 4 6, Im 8 7, Jm 9 8 0, Jm 10 8 3, Jt 11 8 (.ixs (.t 9) (.t 10)), Jt 12 8 (.call 126 [(.t 11)]), Ipf 13 8 12])
 (.cond (.t 13) .skip (.exit 0)))
 (.block 1 (.rg [Im 14 3, Iai 15 14 1, Im 3 15])))))
 (.seq (.rg [Im 16 3, Im 2 16])
 .ret)))⟩
theorem ck180:chkFn Tryz.prog 180 ir180=true:=by kernel_rfl
def ir181 : AFn := ⟨39, 1, [.t 2], .seq (.rg [Imv 2 0])
 (.seq (.seq (.rg [Im 5 0, Io 6 (.bs .eql (.t 5) (.k (.str []))), Im 7 6, Fm 8 7 0, Jf 9 7 (.ixs (.t 8) (.k (.int .i64 0))), Jf 10 7 (.bi .neq .u8 (.t 9) (.k (.int .u8 101))), Fm 11 7 10, Jm 12 11 0, Jt 13 11 (.ixs (.t 12) (.k (.int .i64 0))), Jt 14 11 (.bi .neq .u8 (.t 13) (.k (.int .u8 69))), Jf 15 7 (.pick (.t 11) (.t 14) (.k (.bool false))), Ipt 16 7 15])
 (.cond (.t 16) (.seq (.rg [Imv 2 0])
 .ret) .skip))
 (.seq (.rg [Imv 3 1])
 (.seq (.seq (.rg [Im 17 0, Ils 18 17, Igi 19 18 1, Im 20 19, Jm 21 20 0, Jt 22 20 (.ixs (.t 21) (.k (.int .i64 1))), Jt 23 20 (.bi .eql .u8 (.t 22) (.k (.int .u8 43))), Jm 24 20 23, Fm 25 24 0, Jf 26 24 (.ixs (.t 25) (.k (.int .i64 1))), Jf 27 24 (.bi .eql .u8 (.t 26) (.k (.int .u8 45))), Jt 28 20 (.pick (.t 24) (.k (.bool true)) (.t 27)), Ipf 29 20 28])
 (.cond (.t 29) (.rg [Imv 3 2]) .skip))
 (.seq (.rg [Im 30 0, Im 31 3, Io 32 (.sls (.t 30) (some (.t 31)) none), Io 33 (.call 180 [(.t 32)]), Im 4 33])
 (.seq (.seq (.rg [Im 34 4, Iei 35 34 0])
 (.cond (.t 35) (.seq (.rg [Imv 2 0])
 .ret) .skip))
 (.seq (.rg [Im 36 3, Im 37 4, Iad 38 36 37, Im 2 38])
 .ret))))))⟩
theorem ck181:chkFn Tryz.prog 181 ir181=true:=by kernel_rfl
def ir196 : AFn := ⟨18, 2, [.t 4], .seq (.rg [Io 4 (.mv (.k (.sl .nil 2 [])))])
 (.seq (.rg [Io 5 (.mv (.k (.sl .nil 2 [])))])
 (.seq (.block 0 (.loop [0, 1, 5] (.seq (.seq (.rg [Im 6 0, Io 7 (.call 98 [(.t 6), (.k (.str [64]))])])
 (.cond (.t 7) .skip (.exit 0)))
 (.block 1 (.rg [Im 8 5, Im 9 0, Io 10 (.call 85 [(.t 9)]), Im 11 0, Im 12 1, Io 13 (.call 233 [(.t 11), (.t 12)]), Io 14 (.bld [.str [], .sl .nil 6 []] [(0, 1, (.t 10)), (1, 1, (.t 13))]), Io 15 (.bls 2 1 [.str [], .sl .nil 6 []] [(0, (.t 14))]), Iap 16 2 40 8 15, Im 5 16])))))
 (.seq (.rg [Im 17 5, Im 4 17])
 .ret)))⟩
theorem ck196:chkFn Tryz.prog 196 ir196=true:=by kernel_rfl
def ir206 : AFn := ⟨39, 1, [.c 2 10 true], .seq (.rg [Io 2 (.alloc [.str [], .str [], .int .i64 0, .int .i64 0, .bool false, .int .i64 0, .int .i64 0, .str [], .sl .nil 5 [], .sl .nil 6 []])])
 (.seq (.rg [Im 4 0, Ink 5 4, If 6 0 5, Il 7 1 6, Io 8 (.call 99 [(.t 7)])])
 (.seq (.rg [Im 9 0, Ink 10 9, If 11 0 10, Il 12 1 11, Io 13 (.call 85 [(.t 12)]), Io 14 (.bld [.str [], .str [], .int .i64 0, .int .i64 0, .bool false, .int .i64 0, .int .i64 0, .str [], .sl .nil 5 [], .sl .nil 6 []] [(0, 1, (.t 13))]), Io 3 (.alloc [.str [], .str [], .int .i64 0, .int .i64 0, .bool false, .int .i64 0, .int .i64 0, .str [], .sl .nil 5 [], .sl .nil 6 []]), ⟨none, none, .st 10 (.t 3) (.t 14), []⟩])
 (.seq (.rg [Im 15 0, Ink 16 15, If 17 0 16, Il 18 1 17, Io 19 (.call 84 [(.t 18), (.k (.str [58]))])])
 (.seq (.rg [Im 20 0, Ink 21 20, If 22 0 21, Il 23 1 22, Io 24 (.call 38 [(.t 23)]), If 25 1 3, ⟨none, none, .st 3 (.t 25) (.t 24), []⟩])
 (.seq (.seq (.rg [Im 26 0, Ink 27 26, If 28 0 27, Il 29 1 28, Io 30 (.call 98 [(.t 29), (.k (.str [61]))])])
 (.cond (.t 30) (.rg [Im 31 0, Ink 32 31, If 33 0 32, Il 34 1 33, Io 35 (.call 33 [(.t 34), (.k (.bool true))]), If 36 4 3, ⟨none, none, .st 1 (.t 36) (.k (.bool true)), []⟩, If 37 5 3, ⟨none, none, .st 5 (.t 37) (.t 35), []⟩]) .skip))
 (.seq (.rg [Ilb 38 10 3, ⟨none, none, .st 10 (.t 2) (.t 38), []⟩])
 .ret))))))⟩
theorem ck206:chkFn Tryz.prog 206 ir206=true:=by kernel_rfl
def ir216 : AFn := ⟨57, 1, [.t 2], .seq (.rg [Io 2 (.mv (.k (.sl .nil 1 [])))])
 (.seq (.rg [Io 3 (.mv (.k (.sl .nil 1 [])))])
 (.seq (.rg [Imv 4 0])
 (.seq (.seq (.rg [Imv 5 0])
 (.block 0 (.loop [0, 3, 4, 5] (.seq (.seq (.rg [Im 6 5, Im 7 0, Ils 8 7, Ilt 9 6 8])
 (.cond (.t 9) .skip (.exit 0)))
 (.seq (.block 1 (.seq (.seq (.rg [Im 12 0, Im 13 5, Io 14 (.ixs (.t 12) (.t 13)), Io 15 (.bi .neq .u8 (.t 14) (.k (.int .u8 10))), Im 16 15, Jm 17 16 0, Jm 18 16 5, Jt 19 16 (.ixs (.t 17) (.t 18)), Jt 20 16 (.bi .neq .u8 (.t 19) (.k (.int .u8 13))), Ipf 21 16 20])
 (.cond (.t 21) (.exit 1) .skip))
 (.seq (.rg [Im 22 3, Im 23 0, Im 24 4, Im 25 5, Io 26 (.sls (.t 23) (some (.t 24)) (some (.t 25))), Io 27 (.bls 1 1 [.str []] [(0, (.t 26))]), Io 28 (.appm 1 16 [.str []] (.t 22) (.t 27)), Im 3 28])
 (.seq (.seq (.rg [Im 29 0, Im 30 5, Io 31 (.ixs (.t 29) (.t 30)), Io 32 (.bi .eql .u8 (.t 31) (.k (.int .u8 13))), Im 33 32, Jm 34 33 5, Jt 35 33 (.bi .add .i64 (.t 34) (.k (.int .i64 1))), Jm 36 33 0, Jt 37 33 (.lens (.t 36)), Jt 38 33 (.bi .lss .i64 (.t 35) (.t 37)), Ipf 39 33 38, Im 40 39, Jm 41 40 0, Jm 42 40 5, Jt 43 40 (.bi .add .i64 (.t 42) (.k (.int .i64 1))), Jt 44 40 (.ixs (.t 41) (.t 43)), Jt 45 40 (.bi .eql .u8 (.t 44) (.k (.int .u8 10))), Ipf 46 40 45])
 (.cond (.t 46) (.rg [Im 47 5, Iai 48 47 1, Im 5 48]) .skip))
 (.rg [Im 49 5, Iai 50 49 1, Im 4 50])))))
 (.rg [Im 10 5, Iai 11 10 1, Im 5 11]))))))
 (.seq (.rg [Im 51 3, Im 52 0, Im 53 4, Io 54 (.sls (.t 52) (some (.t 53)) none), Io 55 (.bls 1 1 [.str []] [(0, (.t 54))]), Io 56 (.appm 1 16 [.str []] (.t 51) (.t 55)), Im 2 56])
 .ret))))⟩
theorem ck216:chkFn Tryz.prog 216 ir216=true:=by kernel_rfl
def ir217 : AFn := ⟨36, 1, [.t 2], .seq (.rg [Imv 2 0])
 (.scope (.seq (.rg [Io 3 (.mv (.k (.int .i64 (-1))))])
 (.seq .skip
 (.seq (.seq (.rg [Im 8 0, Iln 9 8, Imv 10 0])
 (.block 0 (.loop [3, 8, 9, 10] (.seq (.rg [Ilt 11 10 9])
 (.seq (.cond (.t 11) .skip (.exit 0))
 (.seq (.block 1 (.seq (.rg [Im 12 10, Iia 13 1 8 10, Il 14 1 13, Im 4 12, Im 5 14])
 (.seq (.rg [Im 16 5, Io 17 (.call 246 [(.t 16)]), Im 15 17, Iex 18 15 0, Iex 19 15 1, Im 6 18, Im 7 19])
 (.seq (.seq (.rg [Im 20 4, Iei 21 20 0, Im 22 21, Fm 23 22 7, Jf 24 22 (.not (.t 23)), Ipt 25 22 24])
 (.cond (.t 25) (.exit 1) .skip))
 (.seq (.rg [Im 26 3, Io 27 (.bi .lss .i64 (.t 26) (.k (.int .i64 0))), Im 28 27, Fm 29 28 6, Fm 30 28 3, Jf 31 28 (.bi .lss .i64 (.t 29) (.t 30)), Ipt 32 28 31])
 (.cond (.t 32) (.rg [Im 33 6, Im 3 33]) .skip))))))
 (.rg [Iai 34 10 1, Im 10 34])))))))
 (.seq (.rg [Im 35 3, Im 2 35])
 .ret)))))⟩
theorem ck217:chkFn Tryz.prog 217 ir217=true:=by kernel_rfl
def ir218 : AFn := ⟨12, 1, [.t 2], .seq (.rg [Imb 2 false])
 (.seq (.rg [Im 6 0, Io 7 (.call 246 [(.t 6)]), Im 5 7, Iex 8 5 0, Iex 9 5 1, Im 3 8, Im 4 9])
 (.seq (.rg [Im 10 4, Ing 11 10, Im 2 11])
 .ret))⟩
theorem ck218:chkFn Tryz.prog 218 ir218=true:=by kernel_rfl
def ir219 : AFn := ⟨44, 1, [.t 2, .t 3], .seq (.rg [Imv 2 0, Imb 3 false])
 (.seq (.seq (.rg [Im 7 0, Ils 8 7, Io 9 (.bi .lss .i64 (.t 8) (.k (.int .i64 4)))])
 (.cond (.t 9) (.seq (.rg [Imv 2 0, Imb 3 false])
 .ret) .skip))
 (.seq (.rg [Imv 4 0])
 (.seq (.seq (.rg [Imv 10 0])
 (.block 0 (.loop [0, 4, 10] (.seq (.rg [Io 11 (.bi .lss .i64 (.t 10) (.k (.int .i64 4)))])
 (.seq (.cond (.t 11) .skip (.exit 0))
 (.seq (.block 1 (.seq (.rg [Im 12 10, Im 5 12])
 (.seq (.rg [Im 13 0, Im 14 5, Io 15 (.ixs (.t 13) (.t 14)), Io 16 (.bi .or .u8 (.t 15) (.k (.int .u8 32))), Io 17 (.call 122 [(.k (.str [48, 49, 50, 51, 52, 53, 54, 55, 56, 57, 97, 98, 99, 100, 101, 102])), (.t 16)]), Im 6 17])
 (.seq (.seq (.rg [Im 18 6, Io 19 (.bi .lss .i64 (.t 18) (.k (.int .i64 0))), Im 20 19, Fm 21 20 0, Fm 22 20 5, Jf 23 20 (.ixs (.t 21) (.t 22)), Jf 24 20 (.bi .lss .u8 (.t 23) (.k (.int .u8 48))), Ipt 25 20 24, Im 26 25, Fm 27 26 0, Fm 28 26 5, Jf 29 26 (.ixs (.t 27) (.t 28)), Jf 30 26 (.bi .gtr .u8 (.t 29) (.k (.int .u8 57))), Fm 31 26 30, Jm 32 31 0, Jm 33 31 5, Jt 34 31 (.ixs (.t 32) (.t 33)), Jt 35 31 (.bi .lss .u8 (.t 34) (.k (.int .u8 65))), Jf 36 26 (.pick (.t 31) (.t 35) (.k (.bool false))), Ipt 37 26 36])
 (.cond (.t 37) (.seq (.rg [Imv 2 0, Imb 3 false])
 .ret) .skip))
 (.rg [Im 38 4, Io 39 (.bi .mul .i64 (.k (.int .i64 16)) (.t 38)), Im 40 6, Iad 41 39 40, Im 4 41])))))
 (.rg [Iai 42 10 1, Im 10 42])))))))
 (.seq (.rg [Im 43 4, Im 2 43, Imb 3 true])
 .ret))))⟩
theorem ck219:chkFn Tryz.prog 219 ir219=true:=by kernel_rfl
def ir220 : AFn := ⟨75, 1, [.t 2, .t 3], .seq (.rg [Io 2 (.mv (.k (.str []))), Imb 3 false])
 (.seq (.rg [Io 4 (.mv (.k (.sl .nil 1 [])))])
 (.seq (.seq (.rg [Imv 5 0])
 (.block 0 (.loop [0, 4, 5] (.seq (.seq (.rg [Im 7 5, Im 8 0, Iln 9 8, Ilt 10 7 9])
 (.cond (.t 10) .skip (.exit 0)))
 (.seq (.block 1 (.seq (.rg [Im 13 0, Im 14 5, Iia 15 1 13 14, Il 16 1 15, Im 6 16])
 (.seq (.block 2 (.seq (.rg [Im 18 6, Io 19 (.bi .lss .i64 (.t 18) (.k (.int .i64 0))), Im 20 19, Fm 21 20 6, Jf 22 20 (.bi .gtr .i64 (.t 21) (.k (.int .i64 65535))), Ipt 23 20 22, Im 24 23, Fm 25 24 6, Jf 26 24 (.bi .geq .i64 (.t 25) (.k (.int .i64 56320))), Fm 27 24 26, Jm 28 27 6, Jt 29 27 (.bi .leq .i64 (.t 28) (.k (.int .i64 57343))), Jf 30 24 (.pick (.t 27) (.t 29) (.k (.bool false))), Ipt 31 24 30, Im 17 31])
 (.cond (.t 17) (.seq (.rg [Io 2 (.mv (.k (.str []))), Imb 3 false])
 .ret) (.seq (.rg [Im 33 6, Io 34 (.bi .geq .i64 (.t 33) (.k (.int .i64 55296))), Im 35 34, Jm 36 35 6, Jt 37 35 (.bi .lss .i64 (.t 36) (.k (.int .i64 56320))), Ipf 38 35 37, Im 32 38])
 (.cond (.t 32) (.seq (.rg [Im 39 5, Iai 40 39 1, Im 5 40])
 (.seq (.seq (.rg [Im 41 5, Im 42 0, Iln 43 42, Io 44 (.bi .eql .i64 (.t 41) (.t 43)), Im 45 44, Fm 46 45 0, Fm 47 45 5, Jf 48 45 (.ia 1 (.t 46) (.t 47)), Fl 49 45 1 48, Jf 50 45 (.bi .lss .i64 (.t 49) (.k (.int .i64 56320))), Ipt 51 45 50, Im 52 51, Fm 53 52 0, Fm 54 52 5, Jf 55 52 (.ia 1 (.t 53) (.t 54)), Fl 56 52 1 55, Jf 57 52 (.bi .gtr .i64 (.t 56) (.k (.int .i64 57343))), Ipt 58 52 57])
 (.cond (.t 58) (.seq (.rg [Io 2 (.mv (.k (.str []))), Imb 3 false])
 .ret) .skip))
 (.rg [Im 59 6, Isi 60 59 55296, Io 61 (.bi .mul .i64 (.k (.int .i64 1024)) (.t 60)), Io 62 (.bi .add .i64 (.k (.int .i64 65536)) (.t 61)), Im 63 0, Im 64 5, Iia 65 1 63 64, Il 66 1 65, Iad 67 62 66, Isi 68 67 56320, Im 6 68]))) .skip)))))
 (.rg [Im 69 4, Im 70 6, Io 71 (.cvi .i32 (.t 70)), Io 72 (.call 247 [(.t 69), (.t 71)]), Im 4 72]))))
 (.rg [Im 11 5, Iai 12 11 1, Im 5 12]))))))
 (.seq (.rg [Im 73 4, Io 74 (.cvb2s (.t 73)), Im 2 74, Imb 3 true])
 .ret)))⟩
theorem ck220:chkFn Tryz.prog 220 ir220=true:=by kernel_rfl
def ir233 : AFn := ⟨23, 2, [.t 4], .seq (.rg [Io 4 (.mv (.k (.sl .nil 6 [])))])
 (.seq (.seq (.rg [Im 6 0, Io 7 (.call 98 [(.t 6), (.k (.str [40]))]), Ing 8 7])
 (.cond (.t 8) (.seq (.rg [Io 4 (.mv (.k (.sl .nil 6 [])))])
 .ret) .skip))
 (.seq (.rg [Im 9 0, Im 10 1, Io 11 (.call 83 [(.t 9), (.t 10)]), Io 12 (.bls 6 1 [.str [], .int .i64 0, .int .i64 0, .str [], .sl .nil 5 [], .sl .nil 6 []] [(0, (.t 11))]), Im 5 12])
 (.seq (.block 0 (.loop [0, 1, 5] (.seq (.seq (.rg [Im 13 0, Io 14 (.call 98 [(.t 13), (.k (.str [41]))]), Ing 15 14])
 (.cond (.t 15) .skip (.exit 0)))
 (.block 1 (.rg [Im 16 5, Im 17 0, Im 18 1, Io 19 (.call 83 [(.t 17), (.t 18)]), Io 20 (.bls 6 1 [.str [], .int .i64 0, .int .i64 0, .str [], .sl .nil 5 [], .sl .nil 6 []] [(0, (.t 19))]), Iap 21 6 96 16 20, Im 5 21])))))
 (.seq (.rg [Im 22 5, Im 4 22])
 .ret))))⟩
theorem ck233:chkFn Tryz.prog 233 ir233=true:=by kernel_rfl
def ir246 : AFn := ⟨24, 1, [.t 2, .t 3], .seq (.rg [Imv 2 0, Imb 3 false])
 (.seq (.seq (.rg [Im 5 0, Ils 6 5, Imv 7 0])
 (.block 0 (.loop [0, 6, 7] (.seq (.rg [Ilt 8 7 6])
 (.seq (.cond (.t 8) .skip (.exit 0))
 (.seq (.block 1 (.seq (.rg [Im 9 7, Im 4 9])
 (.seq (.rg [Im 10 0, Im 11 4, Io 12 (.ixs (.t 10) (.t 11)), Io 13 (.bi .neq .u8 (.t 12) (.k (.int .u8 9))), Im 14 13, Jm 15 14 0, Jm 16 14 4, Jt 17 14 (.ixs (.t 15) (.t 16)), Jt 18 14 (.bi .neq .u8 (.t 17) (.k (.int .u8 32))), Ipf 19 14 18])
 (.cond (.t 19) (.seq (.rg [Im 20 4, Im 2 20, Imb 3 true])
 .ret) .skip))))
 (.rg [Iai 21 7 1, Im 7 21])))))))
 (.seq (.rg [Im 22 0, Ils 23 22, Im 2 23, Imb 3 false])
 .ret))⟩
theorem ck246:chkFn Tryz.prog 246 ir246=true:=by kernel_rfl
def ir247 : AFn := ⟨16, 2, [.t 4], .seq (.rg [Io 4 (.mv (.k (.sl .nil 1 [])))])
 (.seq (.seq (.rg [Im 5 1, Io 6 (.cvi .u32 (.t 5)), Io 7 (.bi .leq .u32 (.t 6) (.k (.int .u32 127)))])
 (.cond (.t 7) (.seq (.rg [Im 8 0, Im 9 1, Io 10 (.cvi .u8 (.t 9)), Io 11 (.bls 1 1 [.int .u8 0] [(0, (.t 10))]), Iap 12 1 1 8 11, Im 4 12])
 .ret) .skip))
 (.seq (.rg [Im 13 0, Im 14 1, Io 15 (.call 268 [(.t 13), (.t 14)]), Im 4 15])
 .ret))⟩
theorem ck247:chkFn Tryz.prog 247 ir247=true:=by kernel_rfl
def ir268 : AFn := ⟨78, 2, [.t 4], .seq (.rg [Io 4 (.mv (.k (.sl .nil 1 [])))])
 (.seq (.rg [Im 6 1, Io 7 (.cvi .u32 (.t 6)), Im 5 7])
 (.block 0 (.seq (.rg [Im 12 5, Io 13 (.bi .leq .u32 (.t 12) (.k (.int .u32 2047))), Im 11 13])
 (.cond (.t 11) (.seq (.rg [Im 14 0, Im 15 1, Io 16 (.shf .shr (.t 15) (.k (.int .u64 6))), Io 17 (.cvi .u8 (.t 16)), Io 18 (.bi .or .u8 (.k (.int .u8 192)) (.t 17)), Im 19 1, Io 20 (.cvi .u8 (.t 19)), Io 21 (.bi .and .u8 (.t 20) (.k (.int .u8 63))), Io 22 (.bi .or .u8 (.k (.int .u8 128)) (.t 21)), Io 23 (.bls 1 2 [.int .u8 0] [(0, (.t 18)), (1, (.t 22))]), Iap 24 1 1 14 23, Im 4 24])
 .ret) (.seq (.seq (.rg [Im 26 5, Io 27 (.bi .lss .u32 (.t 26) (.k (.int .u32 55296))), Im 25 27])
 (.cond (.t 25) .skip (.rg [Im 28 5, Io 29 (.bi .lss .u32 (.k (.int .u32 57343)) (.t 28)), Im 30 29, Jm 31 30 5, Jt 32 30 (.bi .leq .u32 (.t 31) (.k (.int .u32 65535))), Ipf 33 30 32, Im 25 33])))
 (.cond (.t 25) (.seq (.rg [Im 34 0, Im 35 1, Io 36 (.shf .shr (.t 35) (.k (.int .u64 12))), Io 37 (.cvi .u8 (.t 36)), Io 38 (.bi .or .u8 (.k (.int .u8 224)) (.t 37)), Im 39 1, Io 40 (.shf .shr (.t 39) (.k (.int .u64 6))), Io 41 (.cvi .u8 (.t 40)), Io 42 (.bi .and .u8 (.t 41) (.k (.int .u8 63))), Io 43 (.bi .or .u8 (.k (.int .u8 128)) (.t 42)), Im 44 1, Io 45 (.cvi .u8 (.t 44)), Io 46 (.bi .and .u8 (.t 45) (.k (.int .u8 63))), Io 47 (.bi .or .u8 (.k (.int .u8 128)) (.t 46)), Io 48 (.bls 1 3 [.int .u8 0] [(0, (.t 38)), (1, (.t 43)), (2, (.t 47))]), Iap 49 1 1 34 48, Im 4 49])
 .ret) (.seq (.rg [Im 51 5, Io 52 (.bi .gtr .u32 (.t 51) (.k (.int .u32 65535))), Im 53 52, Jm 54 53 5, Jt 55 53 (.bi .leq .u32 (.t 54) (.k (.int .u32 1114111))), Ipf 56 53 55, Im 50 56])
 (.cond (.t 50) (.seq (.rg [Im 57 0, Im 58 1, Io 59 (.shf .shr (.t 58) (.k (.int .u64 18))), Io 60 (.cvi .u8 (.t 59)), Io 61 (.bi .or .u8 (.k (.int .u8 240)) (.t 60)), Im 62 1, Io 63 (.shf .shr (.t 62) (.k (.int .u64 12))), Io 64 (.cvi .u8 (.t 63)), Io 65 (.bi .and .u8 (.t 64) (.k (.int .u8 63))), Io 66 (.bi .or .u8 (.k (.int .u8 128)) (.t 65)), Im 67 1, Io 68 (.shf .shr (.t 67) (.k (.int .u64 6))), Io 69 (.cvi .u8 (.t 68)), Io 70 (.bi .and .u8 (.t 69) (.k (.int .u8 63))), Io 71 (.bi .or .u8 (.k (.int .u8 128)) (.t 70)), Im 72 1, Io 73 (.cvi .u8 (.t 72)), Io 74 (.bi .and .u8 (.t 73) (.k (.int .u8 63))), Io 75 (.bi .or .u8 (.k (.int .u8 128)) (.t 74)), Io 76 (.bls 1 4 [.int .u8 0] [(0, (.t 61)), (1, (.t 66)), (2, (.t 71)), (3, (.t 75))]), Iap 77 1 1 57 76, Im 4 77])
 .ret) (.seq (.rg [Im 8 0, Io 9 (.bls 1 3 [.int .u8 0] [(0, (.k (.int .u8 239))), (1, (.k (.int .u8 191))), (2, (.k (.int .u8 189)))]), Iap 10 1 1 8 9, Im 4 10])
 .ret)))))))))⟩
theorem ck268:chkFn Tryz.prog 268 ir268=true:=by kernel_rfl
mutual
inductive Val where
 | mk (k n:Int) (s:List UInt8) (l:List Val) (m:List Mem)
inductive Mem where
 | mk (name:List UInt8) (v:Val)
end
mutual
def cV:Val→List AV
 | .mk k n s l m=>[.int .i64 k,.int .i64 n,.str s,.sl .no 5 (cVs l),.sl .no 6 (cMs m)]
def cVs:List Val→List (List AV)
 | []=>[]
 | v::r=>cV v::cVs r
def cM:Mem→List AV
 | .mk s v=>.str s::cV v
def cMs:List Mem→List (List AV)
 | []=>[]
 | x::r=>cM x::cMs r
end
theorem YI:∀ l,cVs l=l.map cV
 | []=>rfl
 | v::r=>by rw[cVs,YI r];rfl
theorem Yd:∀ l,cMs l=l.map cM
 | []=>rfl
 | v::r=>by rw[cMs,Yd r];rfl
theorem zcu (l:List Val):(cVs l).length=l.length:=by rw[YI];simp
theorem zav (l:List Mem):(cMs l).length=l.length:=by rw[Yd];simp
theorem zee {l a:List Val} {x:Val} {b:List Val} (h:l=a++x::b):(cVs l).getD a.length []=cV x:=by rw[YI,getD_mid' h]
theorem zem {l a:List Mem} {x:Mem} {b:List Mem} (h:l=a++x::b):(cMs l).getD a.length []=cM x:=by rw[Yd,getD_mid' h]
theorem zcX (k n:Int) (s:List UInt8) (l:List Val) (m:List Mem):cV (.mk k n s l m)=[.int .i64 k,.int .i64 n,.str s,.sl .no 5 (cVs l),.sl .no 6 (cMs m)]:=rfl
theorem zp (s:List UInt8) (v:Val):cM (.mk s v)=.str s::cV v:=rfl
theorem y6 (v:Val):(cV v).map AV.strip1=cV v:=by cases v;rfl
theorem YT (v:Mem):(cM v).map AV.strip1=cM v:=by cases v with|mk s v=>cases v;rfl
theorem ze5 (l:List Val):(cVs l).map (·.map AV.strip1)=cVs l:=by
 rw[YI,List.map_map];exact List.map_congr_left fun v _=>y6 v
theorem zbW (l:List Mem):(cMs l).map (·.map AV.strip1)=cMs l:=by
 rw[Yd,List.map_map];exact List.map_congr_left fun v _=>YT v
mutual
theorem Val.ind {P:Val→Prop} (h:∀ k n s l m,(∀ v∈l,P v)→(∀ s v,Mem.mk s v∈m→P v)→P (.mk k n s l m)):∀ v,P v
 | .mk k n s l m=>h k n s l m (Val.indL h l) (fun s v hm=>Val.indM h m s v hm)
theorem Val.indL {P:Val→Prop} (h:∀ k n s l m,(∀ v∈l,P v)→(∀ s v,Mem.mk s v∈m→P v)→P (.mk k n s l m)):∀ l:List Val,∀ v∈l,P v
 | [],_,hv=>by cases hv
 | x::r,v,hv=>(List.mem_cons.1 hv).elim (fun e=>e▸Val.ind h x) (Val.indL h r v)
theorem Val.ind1 {P:Val→Prop} (h:∀ k n s l m,(∀ v∈l,P v)→(∀ s v,Mem.mk s v∈m→P v)→P (.mk k n s l m)):∀ m:Mem,∀ s v,m=.mk s v→P v
 | .mk s v,s',v',e=>by cases e;exact Val.ind h v
theorem Val.indM {P:Val→Prop} (h:∀ k n s l m,(∀ v∈l,P v)→(∀ s v,Mem.mk s v∈m→P v)→P (.mk k n s l m)):∀ l:List Mem,∀ s v,Mem.mk s v∈l→P v
 | [],_,_,hv=>by cases hv
 | x::r,s,v,hv=>(List.mem_cons.1 hv).elim (fun e=>Val.ind1 h x s v e.symm) (Val.indM h r s v)
end
theorem zi (v:Val):(cV v).length=5:=by cases v;rfl
theorem zj (x:Mem):(cM x).length=6:=by cases x with|mk s v=>cases v;rfl
theorem ze (v:Val):(cV v).take 5=cV v:=by cases v;rfl
theorem zf (x:Mem):(cM x).take 6=cM x:=by cases x with|mk s v=>cases v;rfl
theorem zb (a b c d e:AV) (v:Val):splice [a,b,c,d,e] 0 (cV v)=cV v:=by cases v;rfl
theorem za (a b c d e f:AV) (x:Mem):splice [a,b,c,d,e,f] 0 (cM x)=cM x:=by cases x with|mk s v=>cases v;rfl
mutual
def bV:Val→Nat
 | .mk _ _ s l m=>1+s.length+bVs l+bMs m
def bVs:List Val→Nat
 | []=>0
 | v::r=>bV v+bVs r
def bM:Mem→Nat
 | .mk s v=>s.length+bV v
def bMs:List Mem→Nat
 | []=>0
 | x::r=>bM x+bMs r
end
theorem zdt (v:Val):1≤bV v:=by cases v;simp only[bV];omega
theorem zg7 (v:Mem):1≤bM v:=by cases v with|mk s v=>have:=zdt v;simp only[bM];omega
theorem zdV:∀ l,l.length≤bVs l
 | []=>by simp
 | v::r=>by have:=zdV r;have:=zdt v;simp only[bVs,Al2];omega
theorem zco:∀ l,l.length≤bMs l
 | []=>by simp
 | v::r=>by have:=zco r;have:=zg7 v;simp only[bMs,Al2];omega
theorem zgl (a:List Val) (x:Val) (b:List Val):bVs (a++x::b)=bVs a+bV x+bVs b:=by
 induction a with
 | nil=>simp[bVs]
 | cons y a ih=>simp only[Al6,bVs,ih];omega
theorem zd9 (a:List Mem) (x:Mem) (b:List Mem):bMs (a++x::b)=bMs a+bM x+bMs b:=by
 induction a with
 | nil=>simp[bMs]
 | cons y a ih=>simp only[Al6,bMs,ih];omega
abbrev Lim:Nat:=1099511627776
noncomputable def eqd {α:Type} (a b:α):Bool:=@decide (a=b) (Classical.propDecidable _)
theorem yA {α:Type} {a b:α} (h:a=b):eqd a b=true:=by simp[eqd,h]
theorem zz {α:Type} {a b:α} (h:a≠b):eqd a b=false:=by simp[eqd,h]
def cT (l:List (List UInt8)):List (List AV):=l.map fun k=>[.str k]
theorem zck (l:List (List UInt8)):(cT l).length=l.length:=by simp[cT]
theorem zcG (l:List (List UInt8)):(cT l).map (·.map AV.strip1)=cT l:=by simp[cT,AV.strip1]
theorem zb5 {α:Type} {a b done rest:List α} {x:α} (h:a=done++x::rest) (hl:a.length=b.length) (hp:b.take done.length=done):∃ y r,b=done++y::r:=by
 have h1:done.length<b.length:=by rw[← hl,h];simp
 refine⟨b[done.length],b.drop (done.length+1),?_⟩
 conv=>lhs;rw[← List.take_append_drop done.length b,hp,List.drop_eq_getElem_cons h1]
theorem zbh {α:Type} {b done r:List α} {y:α} (h:b=done++y::r):b.take (done++[y]).length=done++[y]:=by
 subst h
 have e:done++y::r=(done++[y])++r:=by simp
 rw[e,List.take_left'];rfl
theorem zb8 {α:Type} {a b:List α} (hl:a.length=b.length) (hp:b.take a.length=a):a=b:=by
 rw[hl,List.take_length] at hp;exact hp.symm
theorem zdz {α:Type} {a b done rest r:List α} {x y:α} (h:a=done++x::rest) (h':b=done++y::r) (hxy:x≠y):a≠b:=fun e=>by
 rw[h,h'] at e
 exact hxy (List.cons.inj (List.append_cancel_left e)).1
def zV:Val:=.mk 0 0 [] [] []
theorem zhT (n:Int):Pure Tryz.prog 79 [.int .i64 n] (.agg (cV (.mk 2 n [] [] []))):=by
 refine Pure.go ir79 ck79 (Al4 _) fun KP Q hQ=>?_
 simp(disch:=first|omega|assumption) only[ir79,go_sem]
 refine goA_intro fun b hb=>?_
 simp(disch:=first|omega|assumption) only[go_sem]
 exact hQ _ _ _ [.agg [.int .i64 2,.int .i64 n,.str [],.sl .nil 5 [],.sl .nil 6 []]] nofun (by simp(disch:=first|omega|assumption) only[ir79,resvs,resv,go_sem]) rfl
theorem zhX (t:List UInt8):Pure Tryz.prog 80 [.str t] (.agg (cV (.mk 4 0 t [] []))):=by
 refine Pure.go ir80 ck80 (Al4 _) fun KP Q hQ=>?_
 simp(disch:=first|omega|assumption) only[ir80,go_sem]
 refine goA_intro fun b hb=>?_
 simp(disch:=first|omega|assumption) only[go_sem]
 exact hQ _ _ _ [.agg [.int .i64 4,.int .i64 0,.str t,.sl .nil 5 [],.sl .nil 6 []]] nofun (by simp(disch:=first|omega|assumption) only[ir80,resvs,resv,go_sem]) rfl
structure Tok where
 k:Int
 s:List UInt8
def cK (t:Tok):List AV:=[.int .i64 t.k,.str t.s]
def cKs (l:List Tok):List (List AV):=l.map cK
theorem zas (l:List Tok):(cKs l).length=l.length:=by simp[cKs]
theorem zeK (l:List Tok):(cKs l).map (·.map AV.strip1)=cKs l:=by simp[cKs,cK,AV.strip1]
theorem zcV (a b:List Mem) (ha:a.length≤Lim) (hc:∀ s v,Mem.mk s v∈a→∀ u,Pure Tryz.prog 15 [.agg (cV v),.agg (cV u)] (.bool (eqd v u))) :
  Pure Tryz.prog 40 [.sl .no 6 (cMs a),.sl .no 6 (cMs b)] (.bool (eqd a b)):=by
 refine Pure.go ir40 ck40 (Al4 _) fun KP Q hQ=>?_
 have h1:=zav a
 have h2:=zav b
 simp only[Lim] at ha
 by_cases hl:a.length=b.length
 case neg =>
  have hl':¬ ((a.length:Int)=b.length):=by omega
  have hne:a≠b:=fun e=>hl (by rw[e])
  simp(disch:=first|omega|assumption) only[ir40,h1,h2,hl',go_sem]
  exact hQ _ _ _ _ nofun rfl (by simp[tupOf,envOf,AV.strip,AV.strip1,zz hne])
 have hl':((a.length:Int)=b.length)=True:=eq_true (by omega)
 simp(disch:=first|omega|assumption) only[ir40,h1,h2,hl',go_sem]
 refine goL_range a 5 (fun _:Unit=>[]) (fun done rest n H=>b.take done.length=done) () (by simp(disch:=first|omega|assumption) only[go_sem]) rfl ?_ ?_
 ·rintro n H J hp hlt
  simp(disch:=first|omega|assumption) only[h1,hlt,go_sem]
  exact hQ _ _ _ _ nofun rfl (by simp[tupOf,envOf,AV.strip,AV.strip1,yA (zb8 hl hp)])
 ·rintro done x rest n H J hd hlt _ hp hJ
  obtain⟨y,r,hb⟩:=zb5 hd hl hp
  have g1:=zem hd
  have g2:=zem hb
  have hlt2:(done.length:Int)<b.length:=by omega
  have hmem:x∈a:=by rw[hd];simp
  have hst:=zbh hb
  have hne:x≠y→a≠b:=zdz hd hb
  obtain⟨s,v⟩:=x
  obtain⟨t,u⟩:=y
  by_cases hs:s=t
  case neg =>
   have hne2:=hne (by simp[hs])
   simp(disch:=first|omega|assumption) only[zi,ze,zb,zj,zf,za,zp,h1,h2,hlt,hlt2,g1,g2,hs,go_sem]
   exact hQ _ _ _ _ nofun rfl (by simp[tupOf,envOf,AV.strip,AV.strip1,zz hne2])
  simp(disch:=first|omega|assumption) only[zi,ze,zb,zj,zf,za,zp,h1,h2,hlt,hlt2,g1,g2,hs,go_sem]
  refine goK_pure (hc s v hmem u) ?_
  by_cases hv:v=u
  ·simp(disch:=first|omega|assumption) only[yA hv,go_sem]
   exact goJ (hJ () _ (by rw[hs,hv];exact hst)) (by simp(disch:=first|omega|assumption) only[wrap64,go_sem])
  ·have:=hne (by simp[hv])
   simp(disch:=first|omega|assumption) only[zz hv,go_sem]
   exact hQ _ _ _ _ nofun rfl (by simp[tupOf,envOf,AV.strip,AV.strip1,zz this])
theorem zgY:∀ v,bV v≤Lim→∀ u,Pure Tryz.prog 15 [.agg (cV v),.agg (cV u)] (.bool (eqd v u)):=by
 refine Val.ind fun k n s l m ihl ihm hb u=>?_
 obtain⟨k',n',s',l',m'⟩:=u
 have hb':1+s.length+bVs l+bMs m≤Lim:=hb
 have hll:=zdV l
 have hml:=zco m
 have il:∀ x∈l,∀ y,Pure Tryz.prog 15 [.agg (cV x),.agg (cV y)] (.bool (eqd x y)):=fun x hx y=>by
  obtain⟨a,b,hd⟩:=List.append_of_mem hx
  have:=zgl a x b
  rw[← hd] at this
  exact ihl x hx (by omega) y
 have im:∀ s v,Mem.mk s v∈m→∀ u,Pure Tryz.prog 15 [.agg (cV v),.agg (cV u)] (.bool (eqd v u)):=fun t v hx u=>by
  obtain⟨a,b,hd⟩:=List.append_of_mem hx
  have:=zd9 a (.mk t v) b
  rw[← hd] at this
  simp only[bM] at this
  exact ihm t v hx (by omega) u
 refine Pure.go ir15 ck15 (Al4 _) fun KP Q hQ=>?_
 have hlb:=zcu l
 have hlb':=zcu l'
 by_cases h1:k=k'
 case neg =>
  have hne:¬ (Val.mk k n s l m=Val.mk k' n' s' l' m'):=by simp[h1]
  simp(disch:=first|omega|assumption) only[ir15,zcX,h1,go_sem]
  exact hQ _ _ _ _ nofun rfl (by simp[tupOf,envOf,AV.strip,AV.strip1,zz hne])
 by_cases h2:n=n'
 case neg =>
  have hne:¬ (Val.mk k n s l m=Val.mk k' n' s' l' m'):=by simp[h2]
  simp(disch:=first|omega|assumption) only[ir15,zcX,h1,h2,go_sem]
  exact hQ _ _ _ _ nofun rfl (by simp[tupOf,envOf,AV.strip,AV.strip1,zz hne])
 by_cases h3:s=s'
 case neg =>
  have hne:¬ (Val.mk k n s l m=Val.mk k' n' s' l' m'):=by simp[h3]
  simp(disch:=first|omega|assumption) only[ir15,zcX,h1,h2,h3,go_sem]
  exact hQ _ _ _ _ nofun rfl (by simp[tupOf,envOf,AV.strip,AV.strip1,zz hne])
 by_cases hl:l.length=l'.length
 case neg =>
  have hl':¬ ((l.length:Int)=l'.length):=by omega
  have hne:¬ (Val.mk k n s l m=Val.mk k' n' s' l' m'):=by simp only[Val.mk.injEq];rintro⟨_,_,_,e,_⟩;exact hl (by rw[e])
  simp(disch:=first|omega|assumption) only[ir15,zcX,h1,h2,h3,hlb,hlb',hl',go_sem]
  exact hQ _ _ _ _ nofun rfl (by simp[tupOf,envOf,AV.strip,AV.strip1,zz hne])
 have hl':((l.length:Int)=l'.length)=True:=eq_true (by omega)
 simp(disch:=first|omega|assumption) only[ir15,zcX,h1,h2,h3,hlb,hlb',hl',go_sem]
 simp only[Lim] at hb'
 refine goL_range l 5 (fun _:Unit=>[]) (fun done rest n H=>l'.take done.length=done) () (by simp(disch:=first|omega|assumption) only[go_sem]) rfl ?_ ?_
 ·rintro _ H J hp hlt
  have e4:=zb8 hl hp
  simp(disch:=first|omega|assumption) only[hlb,hlt,go_sem]
  refine goK_pure (zcV m m' (by simp only[Lim];omega) im) ?_
  simp(disch:=first|omega|assumption) only[go_sem]
  have:eqd (Val.mk k n s l m) (Val.mk k' n' s' l' m')=eqd m m':=by
   by_cases h:m=m'
   ·rw[yA h,yA (by rw[h1,h2,h3,e4,h])]
   ·rw[zz h,zz (by simp[h])]
  exact hQ _ _ _ _ nofun rfl (by simp[tupOf,envOf,AV.strip,AV.strip1,this])
 ·rintro done x rest _ H J hd hlt _ hp hJ
  obtain⟨y,r,hb⟩:=zb5 hd hl hp
  have g1:=zee hd
  have g2:=zee hb
  have hlt2:(done.length:Int)<l'.length:=by omega
  simp(disch:=first|omega|assumption) only[zi,ze,zb,zj,zf,za,zp,hlb,hlb',hlt,hlt2,g1,g2,go_sem]
  refine goK_pure (il x (by rw[hd];simp) y) ?_
  by_cases hxy:x=y
  ·simp(disch:=first|omega|assumption) only[yA hxy,go_sem]
   exact goJ (hJ () _ (by rw[hxy];exact zbh hb)) (by simp(disch:=first|omega|assumption) only[wrap64,go_sem])
  ·have hne:¬ (Val.mk k n s l m=Val.mk k' n' s' l' m'):=by simp only[Val.mk.injEq];rintro⟨_,_,_,e,_⟩;exact zdz hd hb hxy e
   simp(disch:=first|omega|assumption) only[zz hxy,go_sem]
   exact hQ _ _ _ _ nofun rfl (by simp[tupOf,envOf,AV.strip,AV.strip1,zz hne])
abbrev zib (H:Heap) (o:Own) (sz:Nat) (xs:List (List AV)):AV→Heap→Prop:=fun v H'=>∃ o',v=.sl o' sz xs∧OwnS H o H' o' xs.length sz
abbrev zff (P:Program) (f:FuncId) (args:List AV) (H:Heap) (o:Own) (sz:Nat) (xs:List (List AV)):Prop :=
 ACalls P f args H (fun e H'=>match e with|.ret v=>zib H o sz xs v H'|.pan _=>False)
theorem Z8 {P:Program} {KP:AV→Heap→Prop} {Q:AExit→Env→Heap→Prop} {st:List Fr} {ρ:Env} {H:Heap} {all l:List AItem} {d:Option Nat} {R:List Chk} {f:FuncId} {args:List AV} {o:Own} {sz:Nat} {xs:List (List AV)}
  (h:zff P f args H o sz xs) (hk:∀ o' H',OwnS H o H' o' xs.length sz→goR P KP Q all l st R (ρ.set d (.sl o' sz xs)) H'):goK P KP Q all l st d R ρ f args H :=
 goK_both (XP:=fun _ _=>False) h (fun v H' ⟨o',e,hs⟩=>by subst e;exact hk o' H' hs) (fun _ _ h=>h.elim)
def isD (c:UInt8):Bool:=decide (48≤c.toNat)&&decide (c.toNat≤57)
def isL (c:UInt8):Bool:=(decide (97≤c.toNat)&&decide (c.toNat≤122))||((decide (65≤c.toNat)&&decide (c.toNat≤90))||decide (c.toNat=95))
theorem zdo (c:UInt8):Pure Tryz.prog 126 [.int .u8 (c.toNat:Int)] (.bool (isD c)):=by
 refine Pure.go ir126 ck126 (Al4 _) fun KP Q hQ=>?_
 by_cases h:(48:Int)≤c.toNat
 ·simp(disch:=first|omega|assumption) only[ir126,h,go_sem]
  have h':48≤c.toNat:=by omega
  have e:decide ((c.toNat:Int)≤57)=decide (c.toNat≤57):=by rw[decide_eq_decide];omega
  exact hQ _ _ _ _ nofun rfl (by simp[tupOf,envOf,AV.strip,AV.strip1,isD,h',e])
 ·simp(disch:=first|omega|assumption) only[ir126,h,go_sem]
  have h':¬ 48≤c.toNat:=by omega
  exact hQ _ _ _ _ nofun rfl (by simp[tupOf,envOf,AV.strip,AV.strip1,isD,h'])
theorem zcv (c:UInt8):Pure Tryz.prog 123 [.int .u8 (c.toNat:Int)] (.bool (isL c)):=by
 refine Pure.go ir123 ck123 (Al4 _) fun KP Q hQ=>?_
 have e:decide ((c.toNat:Int)=95)=decide (c.toNat=95):=by rw[decide_eq_decide];omega
 by_cases h:(97:Int)≤c.toNat
 ·have h':97≤c.toNat:=by omega
  by_cases h2:(c.toNat:Int)≤122
  ·have h2':c.toNat≤122:=by omega
   simp(disch:=first|omega|assumption) only[ir123,h,h2,go_sem]
   exact hQ _ _ _ _ nofun rfl (by simp[tupOf,envOf,AV.strip,AV.strip1,isL,h',h2'])
  ·have h2':¬ c.toNat≤122:=by omega
   have h3:(65:Int)≤c.toNat:=by omega
   have h4:¬ (c.toNat:Int)≤90:=by omega
   have h4':¬ c.toNat≤90:=by omega
   simp(disch:=first|omega|assumption) only[ir123,h,h2,h3,h4,go_sem]
   exact hQ _ _ _ _ nofun rfl (by simp[tupOf,envOf,AV.strip,AV.strip1,isL,h',h2',h4',e])
 ·have h':¬ 97≤c.toNat:=by omega
  by_cases h3:(65:Int)≤c.toNat
  ·have h3':65≤c.toNat:=by omega
   by_cases h4:(c.toNat:Int)≤90
   ·have h4':c.toNat≤90:=by omega
    simp(disch:=first|omega|assumption) only[ir123,h,h3,h4,go_sem]
    exact hQ _ _ _ _ nofun rfl (by simp[tupOf,envOf,AV.strip,AV.strip1,isL,h',h3',h4'])
   ·have h4':¬ c.toNat≤90:=by omega
    simp(disch:=first|omega|assumption) only[ir123,h,h3,h4,go_sem]
    exact hQ _ _ _ _ nofun rfl (by simp[tupOf,envOf,AV.strip,AV.strip1,isL,h',h3',h4',e])
  ·have h3':¬ 65≤c.toNat:=by omega
   simp(disch:=first|omega|assumption) only[ir123,h,h3,go_sem]
   exact hQ _ _ _ _ nofun rfl (by simp[tupOf,envOf,AV.strip,AV.strip1,isL,h',h3',e])
def zeb:List UInt8→Nat→Bool
 | [],_=>true
 | c::r,i=>if isL c||(decide (i≠0)&&isD c) then zeb r (i+1) else false
def zbc (s:List UInt8):Bool:=zeb s 0&&decide (s≠[])
def zx:List UInt8→Nat
 | []=>0
 | c::r=>if isD c then zx r+1 else 0
theorem yW:∀ l,zx l≤l.length
 | []=>Al4 _
 | c::r=>by have:=yW r;simp only[zx,Al2];split<;>omega
theorem YB (s:List UInt8) (k:Nat):(s.drop k=[]∧s.length≤k)∨(k<s.length∧s.drop k=s.getD k 0::s.drop (k+1)):=by
 rcases Nat.lt_or_ge k s.length with h|h
 ·right
  refine⟨h,?_⟩
  rw[List.drop_eq_getElem_cons h]
  simp[h]
 ·left;exact⟨List.drop_of_length_le h,h⟩
theorem yC (s:List UInt8) (hs:s.length≤Lim):Pure Tryz.prog 180 [.str s] (.int .i64 (zx s)):=by
 refine Pure.go ir180 ck180 (Al4 _) fun KP Q hQ=>?_
 simp only[Lim] at hs
 have hr1:=yW s
 simp(disch:=first|omega|assumption) only[ir180,go_sem]
 refine goL_st (fun n:Nat=>[(3,.int .i64 n)]) (fun n H=>zx s=n+zx (s.drop n)∧n≤s.length) (fun n=>s.length-n) 0 (by simp(disch:=first|omega|assumption) only[go_sem]) ⟨by simp,by omega⟩ ?_
 rintro n H J ⟨hn,hle⟩ hJ
 rcases YB s n with ⟨h1,h2⟩|⟨h1,h2⟩
 ·have hlt:¬ ((n:Int)<s.length):=by omega
  rw[h1] at hn
  simp only[zx,Nat.add_zero] at hn
  simp(disch:=first|omega|assumption) only[hlt,go_sem]
  exact hQ _ _ _ _ nofun rfl (by simp[tupOf,envOf,AV.strip,AV.strip1,hn])
 ·have hlt:((n:Int)<s.length):=by omega
  rw[h2] at hn
  simp only[zx] at hn
  simp(disch:=first|omega|assumption) only[hlt,go_sem]
  refine goK_pure (zdo (s.getD n 0)) ?_
  cases hd:isD (s.getD n 0) with
  | true =>
   simp only[hd,if_true] at hn
   simp(disch:=first|omega|assumption) only[hd,go_sem]
   exact goJ (hJ (n+1) _ (by omega) ⟨by omega,by omega⟩) (by simp(disch:=first|omega|assumption) only[wrap64,Int.natCast_add,Int.natCast_one,go_sem])
  | false =>
   simp only[hd,Al7,if_false,Nat.add_zero] at hn
   simp(disch:=first|omega|assumption) only[hd,go_sem]
   exact hQ _ _ _ _ nofun rfl (by simp[tupOf,envOf,AV.strip,AV.strip1,hn])
theorem zej (c:UInt8) (s:List UInt8):[c].isPrefixOf s=decide (s.head?=some c):=by
 cases s with
 | nil=>rfl
 | cons d r =>
  by_cases h:d=c
  ·subst h;simp[List.isPrefixOf]
  ·have h':¬ c=d:=fun e=>h e.symm
   simp[List.isPrefixOf,h,h']
def Zh (s:List UInt8):Nat:=if zx s=0 then 0 else if s.getD 0 0=48 then 1 else zx s
def zk (s:List UInt8):Nat:=if s.head?=some 45 then (if zx s.tail=0 then 0 else 1+Zh s.tail) else Zh s
theorem zed (s:List UInt8):Zh s≤s.length:=by have:=yW s;unfold Zh;split<;>(try split)<;>omega
theorem Y2 (s:List UInt8):zk s≤s.length:=by
 have h1:=zed s
 have h2:=zed s.tail
 unfold zk
 split
 ·rename_i h
  cases s with
  | nil=>simp at h
  | cons c r =>
   simp only[List.tail_cons,Al2] at h2 ⊢
   by_cases h0:zx r=0<;>simp only[h0,if_true,if_false]<;>omega
 ·exact h1
theorem zbv (a:UInt8) (n:Nat) (hn:n<256):decide ((a.toNat:Int)=n)=decide (a=UInt8.ofNat n):=by
 rw[decide_eq_decide]
 have:(UInt8.ofNat n).toNat=n:=by simp[UInt8.toNat_ofNat'];omega
 constructor
 ·intro h;apply UInt8.toNat_inj.1;rw[this];omega
 ·intro h;subst h;rw[this]
theorem zhB (s:List UInt8) (hs:s.length≤Lim):Pure Tryz.prog 179 [.str s] (.int .i64 (zk s)):=by
 refine Pure.go ir179 ck179 (Al4 _) fun KP Q hQ=>?_
 simp only[Lim] at hs
 simp(disch:=first|omega|assumption) only[ir179,go_sem]
 refine goK_pure (Zm s [45]) ?_
 rw[zej]
 by_cases h:s.head?=some 45
 ·cases s with
  | nil=>simp at h
  | cons c r =>
   have hc:c=45:=by simpa using h
   subst hc
   simp only[Al2] at hs
   have h1:(1:Int)≤((r.length+1:Nat):Int):=by omega
   have h2:(1:Int)<((r.length+1:Nat):Int)∨r=[]:=by cases r<;>simp;omega
   simp(disch:=first|omega|assumption) only[h,h1,Int.toNat_one,go_sem]
   refine goK_pure (yC r (by simp only[Lim];omega)) ?_
   by_cases h0:zx r=0
   ·simp(disch:=first|omega|assumption) only[h0,go_sem]
    exact hQ _ _ _ _ nofun rfl (by simp[tupOf,envOf,AV.strip,AV.strip1,zk,h0])
   ·have h0':¬ ((zx r:Int)=0):=by omega
    have hrl:=yW r
    have hlt:(1:Int)<((r.length+1:Nat):Int):=by omega
    have e:=zbv (r.getD 0 0) 48 (by omega)
    by_cases h48:r.getD 0 0=48
    ·have hi:Zh r=1:=by simp only[Zh,h0,h48,if_false,if_true]
     simp(disch:=first|omega|assumption) only[h0',hlt,Int.toNat_one,h48,UInt8.reduceToNat,wrap64,go_sem]
     exact hQ _ _ _ _ nofun rfl (by simp[tupOf,envOf,AV.strip,AV.strip1,zk,h0,hi])
    ·have h48':¬ ((r.getD 0 0).toNat:Int)=48:=by
      intro hh
      rw[decide_eq_true (by exact hh)] at e
      exact h48 (by simpa using e.symm)
     have hi:Zh r=zx r:=by simp only[Zh,h0,h48,if_false]
     simp(disch:=first|omega|assumption) only[h0',hlt,Int.toNat_one,h48',wrap64,go_sem]
     exact hQ _ _ _ _ nofun rfl (by simp[tupOf,envOf,AV.strip,AV.strip1,zk,h0,hi])
 ·simp(disch:=first|omega|assumption) only[h,go_sem]
  refine goK_pure (yC s (by simp only[Lim];omega)) ?_
  by_cases h0:zx s=0
  ·simp(disch:=first|omega|assumption) only[h0,go_sem]
   exact hQ _ _ _ _ nofun rfl (by simp[tupOf,envOf,AV.strip,AV.strip1,zk,h,Zh,h0])
  ·have h0':¬ ((zx s:Int)=0):=by omega
   have hrl:=yW s
   have hlt:(0:Int)<(s.length:Int):=by omega
   have e:=zbv (s.getD 0 0) 48 (by omega)
   by_cases h48:s.getD 0 0=48
   ·have hi:Zh s=1:=by simp only[Zh,h0,h48,if_false,if_true]
    simp(disch:=first|omega|assumption) only[h0',hlt,h48,UInt8.reduceToNat,wrap64,go_sem]
    exact hQ _ _ _ _ nofun rfl (by simp[tupOf,envOf,AV.strip,AV.strip1,zk,h,hi])
   ·have h48':¬ ((s.getD 0 0).toNat:Int)=48:=by
     intro hh
     rw[decide_eq_true (by exact hh)] at e
     exact h48 (by simpa using e.symm)
    have hi:Zh s=zx s:=by simp only[Zh,h0,h48,if_false]
    simp(disch:=first|omega|assumption) only[h0',hlt,h48',wrap64,go_sem]
    exact hQ _ _ _ _ nofun rfl (by simp[tupOf,envOf,AV.strip,AV.strip1,zk,h,hi])
def isE (c:UInt8):Bool:=decide (c=101)||decide (c=69)
def sgN (r:List UInt8):Nat:=if r.head?=some 43∨r.head?=some 45 then 1 else 0
def Zq:List UInt8→Nat
 | []=>0
 | c::r=>if isE c then (if zx (r.drop (sgN r))=0 then 0 else 1+sgN r+zx (r.drop (sgN r))) else 0
theorem zdP (r:List UInt8):sgN r≤r.length:=by
 unfold sgN
 split
 ·cases r<;>simp_all
 ·omega
theorem zb9:∀ s,Zq s≤s.length
 | []=>by simp[Zq]
 | c::r=>by
  have h:=yW (r.drop (sgN r))
  have h2:=zdP r
  rw[yQ] at h
  simp only[Zq,Al2]
  split
  ·split<;>omega
  ·omega
theorem zdk (s:List UInt8) (hs:s.length≤Lim):Pure Tryz.prog 181 [.str s] (.int .i64 (Zq s)):=by
 refine Pure.go ir181 ck181 (Al4 _) fun KP Q hQ=>?_
 simp only[Lim] at hs
 cases s with
 | nil =>
  simp(disch:=first|omega|assumption) only[ir181,go_sem]
  exact hQ _ _ _ _ nofun rfl (by simp[tupOf,envOf,AV.strip,AV.strip1,Zq])
 | cons c r =>
  simp only[Al2] at hs
  have hne:¬ (c::r=[]):=by simp
  have hp:(0:Int)<((r.length+1:Nat):Int):=by omega
  have e1:=zbv c 101 (by omega)
  have e2:=zbv c 69 (by omega)
  have hE:∀(P:Prop),P→P:=fun _ h=>h
  by_cases hc:isE c=true
  case neg =>
   have hc1:¬ (c.toNat:Int)=101:=by
    intro hh;rw[decide_eq_true (by exact hh)] at e1
    exact hc (by simp[isE,(by simpa using e1.symm:c=101)])
   have hc2:¬ (c.toNat:Int)=69:=by
    intro hh;rw[decide_eq_true (by exact hh)] at e2
    exact hc (by simp[isE,(by simpa using e2.symm:c=69)])
   simp(disch:=first|omega|assumption) only[ir181,hne,hp,hc1,hc2,go_sem]
   have hcf:isE c=false:=by simpa using hc
   exact hQ _ _ _ _ nofun rfl (by simp[tupOf,envOf,AV.strip,AV.strip1,Zq,hcf])
  have fin:∀ k:Nat,zx (r.drop (sgN r))=k→Zq (c::r)=if k=0 then 0 else 1+sgN r+k:=fun k hk=>by subst hk;simp only[Zq,hc,if_true]
  have hcase:(c.toNat:Int)=101∨(¬ (c.toNat:Int)=101∧(c.toNat:Int)=69):=by
   simp only[isE,Yp,zm] at hc
   rcases hc with rfl|rfl
   ·exact .inl rfl
   ·exact .inr ⟨by decide,rfl⟩
  have hdl:=yW (r.drop (sgN r))
  rw[yQ] at hdl
  have hsl:=zdP r
  cases r with
  | nil =>
   have k0:=fin 0 (by simp[sgN,zx])
   rcases hcase with h1|⟨h1,h2⟩
   ·simp(disch:=first|omega|assumption) only[ir181,h1,go_sem]
    refine goK_pure (yC [] (by simp)) ?_
    simp(disch:=first|omega|assumption) only[zx,go_sem]
    exact hQ _ _ _ _ nofun rfl (by simp[tupOf,envOf,AV.strip,AV.strip1,k0])
   ·simp(disch:=first|omega|assumption) only[ir181,h1,h2,go_sem]
    refine goK_pure (yC [] (by simp)) ?_
    simp(disch:=first|omega|assumption) only[zx,go_sem]
    exact hQ _ _ _ _ nofun rfl (by simp[tupOf,envOf,AV.strip,AV.strip1,k0])
  | cons d t =>
   simp only[Al2] at hs
   have hl1:(1:Int)<((t.length+1+1:Nat):Int):=by omega
   have hl2:(2:Int)≤((t.length+1+1:Nat):Int):=by omega
   have hl3:(1:Int)≤((t.length+1+1:Nat):Int):=by omega
   have f1:=zbv d 43 (by omega)
   have f2:=zbv d 45 (by omega)
   by_cases hsg:d=43∨d=45
   ·have hsg1:sgN (d::t)=1:=by simp only[sgN,List.head?_cons,Al1,hsg,if_true]
    have k0:=fin (zx t) (by rw[hsg1];rfl)
    rw[hsg1] at k0 hdl
    have hd:(d.toNat:Int)=43∨(¬ (d.toNat:Int)=43∧(d.toNat:Int)=45):=by
     rcases hsg with rfl|rfl
     ·exact .inl rfl
     ·exact .inr ⟨by decide,rfl⟩
    rcases hcase with h1|⟨h1,h2⟩<;>rcases hd with h3|⟨h3,h4⟩
    all_goals
     simp only[hl1,hl2,Al2,List.drop_succ_cons,List.drop_zero] at hdl
    ·simp(disch:=first|omega|assumption) only[ir181,h1,h3,hl1,hl2,Int.toNat_one,go_sem]
     refine goK_pure (yC t (by simp only[Lim];omega)) ?_
     by_cases hz:zx t=0
     ·simp(disch:=first|omega|assumption) only[hz,go_sem]
      exact hQ _ _ _ _ nofun rfl (by simp[tupOf,envOf,AV.strip,AV.strip1,k0,hz])
     ·have hz':¬ (zx t:Int)=0:=by omega
      simp(disch:=first|omega|assumption) only[hz',wrap64,go_sem]
      exact hQ _ _ _ _ nofun rfl (by simp[tupOf,envOf,AV.strip,AV.strip1,k0,hz])
    ·simp(disch:=first|omega|assumption) only[ir181,h1,h3,h4,hl1,hl2,Int.toNat_one,go_sem]
     refine goK_pure (yC t (by simp only[Lim];omega)) ?_
     by_cases hz:zx t=0
     ·simp(disch:=first|omega|assumption) only[hz,go_sem]
      exact hQ _ _ _ _ nofun rfl (by simp[tupOf,envOf,AV.strip,AV.strip1,k0,hz])
     ·have hz':¬ (zx t:Int)=0:=by omega
      simp(disch:=first|omega|assumption) only[hz',wrap64,go_sem]
      exact hQ _ _ _ _ nofun rfl (by simp[tupOf,envOf,AV.strip,AV.strip1,k0,hz])
    ·simp(disch:=first|omega|assumption) only[ir181,h1,h2,h3,hl1,hl2,Int.toNat_one,go_sem]
     refine goK_pure (yC t (by simp only[Lim];omega)) ?_
     by_cases hz:zx t=0
     ·simp(disch:=first|omega|assumption) only[hz,go_sem]
      exact hQ _ _ _ _ nofun rfl (by simp[tupOf,envOf,AV.strip,AV.strip1,k0,hz])
     ·have hz':¬ (zx t:Int)=0:=by omega
      simp(disch:=first|omega|assumption) only[hz',wrap64,go_sem]
      exact hQ _ _ _ _ nofun rfl (by simp[tupOf,envOf,AV.strip,AV.strip1,k0,hz])
    ·simp(disch:=first|omega|assumption) only[ir181,h1,h2,h3,h4,hl1,hl2,Int.toNat_one,go_sem]
     refine goK_pure (yC t (by simp only[Lim];omega)) ?_
     by_cases hz:zx t=0
     ·simp(disch:=first|omega|assumption) only[hz,go_sem]
      exact hQ _ _ _ _ nofun rfl (by simp[tupOf,envOf,AV.strip,AV.strip1,k0,hz])
     ·have hz':¬ (zx t:Int)=0:=by omega
      simp(disch:=first|omega|assumption) only[hz',wrap64,go_sem]
      exact hQ _ _ _ _ nofun rfl (by simp[tupOf,envOf,AV.strip,AV.strip1,k0,hz])
   ·have hsg0:sgN (d::t)=0:=by simp only[sgN,List.head?_cons,Al1,hsg,if_false]
    have k0:=fin (zx (d::t)) (by rw[hsg0];rfl)
    rw[hsg0] at k0 hdl
    have h3:¬ (d.toNat:Int)=43:=by
     intro hh;rw[decide_eq_true (by exact hh)] at f1
     exact hsg (.inl (by simpa using f1.symm))
    have h4:¬ (d.toNat:Int)=45:=by
     intro hh;rw[decide_eq_true (by exact hh)] at f2
     exact hsg (.inr (by simpa using f2.symm))
    simp only[List.drop_zero,Al2] at hdl
    rcases hcase with h1|⟨h1,h2⟩
    ·simp(disch:=first|omega|assumption) only[ir181,h1,h3,h4,hl1,hl3,Int.toNat_one,go_sem]
     refine goK_pure (yC (d::t) (by simp only[Lim,Al2];omega)) ?_
     by_cases hz:zx (d::t)=0
     ·simp(disch:=first|omega|assumption) only[hz,go_sem]
      exact hQ _ _ _ _ nofun rfl (by simp[tupOf,envOf,AV.strip,AV.strip1,k0,hz])
     ·have hz':¬ (zx (d::t):Int)=0:=by omega
      simp(disch:=first|omega|assumption) only[hz',wrap64,go_sem]
      exact hQ _ _ _ _ nofun rfl (by simp[tupOf,envOf,AV.strip,AV.strip1,k0,hz])
    ·simp(disch:=first|omega|assumption) only[ir181,h1,h2,h3,h4,hl1,hl3,Int.toNat_one,go_sem]
     refine goK_pure (yC (d::t) (by simp only[Lim,Al2];omega)) ?_
     by_cases hz:zx (d::t)=0
     ·simp(disch:=first|omega|assumption) only[hz,go_sem]
      exact hQ _ _ _ _ nofun rfl (by simp[tupOf,envOf,AV.strip,AV.strip1,k0,hz])
     ·have hz':¬ (zx (d::t):Int)=0:=by omega
      simp(disch:=first|omega|assumption) only[hz',wrap64,go_sem]
      exact hQ _ _ _ _ nofun rfl (by simp[tupOf,envOf,AV.strip,AV.strip1,k0,hz])
def yf (r:List UInt8):Nat:=if r.head?=some 46∧0<zx r.tail then 1+zx r.tail else 0
def yb (s:List UInt8):Nat×Int :=
 if zk s=0 then (0,0) else
  (zk s+yf (s.drop (zk s))+Zq (s.drop (zk s+yf (s.drop (zk s)))),if yf (s.drop (zk s))=0∧Zq (s.drop (zk s+yf (s.drop (zk s))))=0 then 3 else 4)
theorem zcW (r:List UInt8):yf r≤r.length:=by
 unfold yf
 split
 ·rename_i h
  cases r with
  | nil=>simp at h
  | cons c t=>have:=yW t;simp only[List.tail_cons,Al2];omega
 ·omega
theorem zd5 (s:List UInt8) (hs:s.length≤Lim):Pure Tryz.prog 125 [.str s] (.tup [.int .i64 (yb s).1,.int .i64 (yb s).2]):=by
 refine Pure.go ir125 ck125 (Al4 _) fun KP Q hQ=>?_
 have hs':=hs
 simp only[Lim] at hs
 simp(disch:=first|omega|assumption) only[ir125,go_sem]
 refine goK_pure (zhB s hs') ?_
 have hw:=Y2 s
 by_cases h0:zk s=0
 ·simp(disch:=first|omega|assumption) only[h0,go_sem]
  exact hQ _ _ _ _ nofun rfl (by simp[tupOf,envOf,AV.strip,AV.strip1,yb,h0])
 have h0':¬ ((zk s:Int)=0):=by omega
 have hwl:(zk s:Int)≤s.length:=by omega
 simp(disch:=first|omega|assumption) only[h0',hwl,go_sem]
 refine goK_pure (Zm (s.drop (zk s)) [46]) ?_
 rw[zej]
 generalize hn:zk s=n at *
 have fin:∀ f p:Nat,yf (s.drop n)=f→Zq (s.drop (n+f))=p→yb s=(n+f+p,if f=0∧p=0 then 3 else 4):=fun f p hf hp=>by
  unfold yb
  rw[hn,hf,hp]
  simp only[h0,if_false]
 have hpl:=zb9 (s.drop n)
 rw[yQ] at hpl
 by_cases h46:(s.drop n).head?=some 46
 ·obtain⟨c,t,hct⟩:∃ c t,s.drop n=c::t:=by
   cases hx:s.drop n with
   | nil=>rw[hx] at h46;simp at h46
   | cons c t=>exact⟨c,t,rfl⟩
  have hlen:s.length=n+1+t.length:=by have:=congrArg List.length hct;simp at this;omega
  have hdr:s.drop (n+1)=t:=by rw[← List.drop_drop,hct];rfl
  have hto:((n:Int)+1).toNat=n+1:=by omega
  have hn1:(0:Int)≤(n:Int)+1:=by omega
  have hn2:(n:Int)+1≤s.length:=by omega
  have hrl:=yW t
  simp(disch:=first|omega|assumption) only[h46,wrap64,hto,hn1,hn2,hdr,go_sem]
  refine goK_pure (yC t (by simp only[Lim];omega)) ?_
  by_cases hk:(0:Int)<zx t
  ·have hk':0<zx t:=by omega
   have hfr:yf (s.drop n)=1+zx t:=by unfold yf;rw[if_pos ⟨h46,by rw[hct];exact hk'⟩,hct];rfl
   have hto2:((n:Int)+1+zx t).toNat=n+(1+zx t):=by omega
   have hn3:(0:Int)≤(n:Int)+1+zx t:=by omega
   have hn4:(n:Int)+1+zx t≤s.length:=by omega
   have hpl2:=zb9 (s.drop (n+(1+zx t)))
   rw[yQ] at hpl2
   simp(disch:=first|omega|assumption) only[hk,wrap64,hto2,hn3,hn4,go_sem]
   refine goK_pure (zdk (s.drop (n+(1+zx t))) (by rw[yQ];simp only[Lim];omega)) ?_
   have hf:=fin _ _ hfr rfl
   generalize hp:Zq (s.drop (n+(1+zx t)))=p at *
   by_cases hp0:(0:Int)<p
   ·simp(disch:=first|omega|assumption) only[hp0,wrap64,go_sem]
    exact hQ _ _ _ _ nofun rfl (by simp[tupOf,envOf,AV.strip,AV.strip1,hf,Int.add_assoc])
   ·have hp00:p=0:=by omega
    subst hp00
    simp(disch:=first|omega|assumption) only[go_sem]
    exact hQ _ _ _ _ nofun rfl (by simp[tupOf,envOf,AV.strip,AV.strip1,hf,Int.add_assoc])
  ·have hk0:zx t=0:=by omega
   have hfr:yf (s.drop n)=0:=by unfold yf;exact if_neg fun hh=>by have:=hh.2;rw[hct] at this;simp only[List.tail_cons] at this;omega
   simp(disch:=first|omega|assumption) only[hk,hwl,go_sem]
   refine goK_pure (zdk (s.drop n) (by rw[yQ];simp only[Lim];omega)) ?_
   have hf:=fin _ _ hfr rfl
   rw[Nat.add_zero] at hf
   generalize hp:Zq (s.drop n)=p at *
   by_cases hp0:(0:Int)<p
   ·have hp1:¬ p=0:=by omega
    simp(disch:=first|omega|assumption) only[hp0,wrap64,go_sem]
    exact hQ _ _ _ _ nofun rfl (by simp[tupOf,envOf,AV.strip,AV.strip1,hf,hp1])
   ·have hp00:p=0:=by omega
    subst hp00
    simp(disch:=first|omega|assumption) only[go_sem]
    exact hQ _ _ _ _ nofun rfl (by simp[tupOf,envOf,AV.strip,AV.strip1,hf])
 ·have hfr:yf (s.drop n)=0:=by unfold yf;exact if_neg fun hh=>h46 hh.1
  simp(disch:=first|omega|assumption) only[h46,hwl,go_sem]
  refine goK_pure (zdk (s.drop n) (by rw[yQ];simp only[Lim];omega)) ?_
  have hf:=fin _ _ hfr rfl
  rw[Nat.add_zero] at hf
  generalize hp:Zq (s.drop n)=p at *
  by_cases hp0:(0:Int)<p
  ·have hp1:¬ p=0:=by omega
   simp(disch:=first|omega|assumption) only[hp0,wrap64,go_sem]
   exact hQ _ _ _ _ nofun rfl (by simp[tupOf,envOf,AV.strip,AV.strip1,hf,hp1])
  ·have hp00:p=0:=by omega
   subst hp00
   simp(disch:=first|omega|assumption) only[go_sem]
   exact hQ _ _ _ _ nofun rfl (by simp[tupOf,envOf,AV.strip,AV.strip1,hf])
def zbj (s:List UInt8):Int:=if (yb s).1=s.length then (yb s).2 else 0
theorem zgD (s:List UInt8) (hs:s.length≤Lim):Pure Tryz.prog 129 [.str s] (.int .i64 (zbj s)):=by
 refine Pure.go ir129 ck129 (Al4 _) fun KP Q hQ=>?_
 simp(disch:=first|omega|assumption) only[ir129,go_sem]
 refine goK_pure (zd5 s hs) ?_
 by_cases h:(yb s).1=s.length
 ·have h':(((yb s).1:Int)=s.length)=True:=eq_true (by omega)
  simp(disch:=first|omega|assumption) only[h',go_sem]
  exact hQ _ _ _ _ nofun rfl (by simp[tupOf,envOf,AV.strip,AV.strip1,zbj,h])
 ·have h':¬ ((yb s).1:Int)=s.length:=by omega
  simp(disch:=first|omega|assumption) only[h',go_sem]
  exact hQ _ _ _ _ nofun rfl (by simp[tupOf,envOf,AV.strip,AV.strip1,zbj,h])
def okI:Lib.NumEnd Int→Bool
 | .ok _=>true
 | _=>false
def zcM (s:List UInt8):Int:=match Lib.parseIntB 64 s with
 | .ok v=>v
 | Lib.NumEnd.syntax=>0
 | .range=>Lib.intSat 64 s
def ZG (s:List UInt8):Bool:=okI (Lib.parseIntB 64 s)&&decide (zbj s=3)
theorem zfo (s:List UInt8) (hs:s.length≤Lim):Pure Tryz.prog 78 [.str s] (.tup [.int .i64 (zcM s),.bool (ZG s)]):=by
 refine Pure.go ir78 ck78 (Al4 _) fun KP Q hQ=>?_
 simp(disch:=first|omega|assumption) only[ir78,go_sem]
 refine goK_pure (zeS s (by simp only[Lim] at hs;omega)) ?_
 rcases hp:Lib.parseIntB 64 s with v|_|_
 ·simp(disch:=first|omega|assumption) only[zaN,hp,go_sem]
  refine goK_pure (zgD s hs) ?_
  simp(disch:=first|omega|assumption) only[go_sem]
  exact hQ _ _ _ _ nofun rfl (by simp[tupOf,envOf,AV.strip,AV.strip1,zcM,ZG,hp,okI])
 ·simp(disch:=first|omega|assumption) only[zaN,hp,go_sem]
  exact hQ _ _ _ _ nofun rfl (by simp[tupOf,envOf,AV.strip,AV.strip1,zcM,ZG,hp,okI])
 ·simp(disch:=first|omega|assumption) only[zaN,hp,go_sem]
  exact hQ _ _ _ _ nofun rfl (by simp[tupOf,envOf,AV.strip,AV.strip1,zcM,ZG,hp,okI])
def zhU (s:List UInt8):Bool:=decide (zbj s=4)||(decide (zbj s=3)&&!ZG s)
def zhV (s:List UInt8):Bool:=decide (s=[116,114,117,101])||(decide (s=[102,97,108,115,101])||decide (s=[110,117,108,108]))
def zcD (n:Int) (s:List UInt8) (l:List Val) (m:List Mem):Bool:=decide (n=0)&&(decide (s=[])&&(decide (l.length=0)&&decide (m.length=0)))
def zdT (k n:Int) (s:List UInt8) (l:List Val) (m:List Mem):Bool :=
 zcD 0 [] l m&&(if k=0 then decide (n=0)&&decide (s=[]) else if k=1 then (decide (n=0)||decide (n=1))&&decide (s=[]) else if k=2 then decide (s=[])
  else if k=3 then decide (n=0)&&zhU s else if k=4 then decide (n=0)&&Lib.validD s else if k=5 then decide (n=0)&&(zbc s&&!zhV s) else if k=8 then decide (n=0)&&zbc s else false)
mutual
def zgA (may:List UInt8→Bool):Val→Bool
 | .mk k n s l m=>if k=6 then zfk may l&&zcD n s [] m else if k=7 then zfp may m&&zcD n s l [] else zdT k n s l m
def zfk (may:List UInt8→Bool):List Val→Bool
 | []=>true
 | v::r=>zgA may v&&zfk may r
def zil (may:List UInt8→Bool):Mem→Bool
 | .mk s v=>may s&&zgA may v
def zfp (may:List UInt8→Bool):List Mem→Bool
 | []=>true
 | x::r=>zil may x&&zfp may r
end
def inR (n:Int):Prop:=-9223372036854775808≤n∧n≤9223372036854775807
mutual
def wfV:Val→Prop
 | .mk _ n _ l m=>inR n∧zhg l∧zfx m
def zhg:List Val→Prop
 | []=>True
 | v::r=>wfV v∧zhg r
def wfM:Mem→Prop
 | .mk _ v=>wfV v
def zfx:List Mem→Prop
 | []=>True
 | x::r=>wfM x∧zfx r
end
theorem zgK (a:List Tok) (t:Tok):cKs a++[[.int .i64 t.k,.str t.s]]=cKs (a++[t]):=by simp[cKs,cK]
end Go.Proofs.YtaielcdfcgpbiaaGreatDoor
namespace Go.Proofs.YtaielcdfcgpbiaaGreatDoor
def zdp (P:Program) (f:FuncId) (fn:Func) (s:ChangeSpec) (c:OpenClaim):Bool:=c.wf (OpenSpec.ofChange s)&&laidOutB P&&mapsRowed P&&fn.params.all (P.readableRec ·)&&namedTie P c.named s.vars
def zdL (P:Program) (f:FuncId) (fn:Func) (s:ChangeSpec) (c:OpenClaim):Bool:=(c.stops==[])&&(P.stops==[])&&(c.knobs==[])&&(P.stopKnobs==[])&&(c.maps==(fn.params.toList++s.plain.varTypes P).any (P.mapsRec ·))&&(c.ifaces==(fn.params.toList++s.plain.varTypes P).any (P.ifacesRec ·))&&(c.mapsOut==P.mapsAmong fn.resultTypes.toList)&&(c.loops==(fn.params.toList++s.plain.varTypes P).any (P.loopsFrom ·))&&(c.wideKeys==(fn.params.toList++s.plain.varTypes P++fn.resultTypes.toList).any (P.wideKeysFrom ·))&&s.vars.all (P.varReadable ·)&&fn.resultTypes.all (fun t=>P.readableRec t&&decide (t<P.types.size))&&(c.ifacesOut==fn.resultTypes.toList.any (P.ifacesRec ·))&&(c.loopsOut==fn.resultTypes.toList.any (P.loopsFrom ·))&&(c.veiled==(fn.params.toList++s.plain.varTypes P++fn.resultTypes.toList).any (P.veiledRec ·))&&c.veiledFits P fn.params.toList (fn.params.toList++s.plain.varTypes P++fn.resultTypes.toList)
def zdj (P:Program) (f:FuncId) (fn:Func) (s:ChangeSpec) (c:OpenClaim):Bool:=(c.inPlace==P.inPlace f)&&(c.unfollowed==P.unfollowed f)&&(c.recurses==P.recurses f)&&(c.named==P.varsNamed f)
def zdB (P:Program) (f:FuncId) (fn:Func) (s:ChangeSpec) (c:OpenClaim):Bool:=(c.plainKeys==P.plainKeys)&&c.shortTexts.isNone
def zdr (P:Program) (f:FuncId) (fn:Func) (s:ChangeSpec) (c:OpenClaim):Bool:=P.stopsHeard
def zdA (P:Program) (f:FuncId) (fn:Func) (s:ChangeSpec) (c:OpenClaim):Bool:=P.mayEnter
def zdJ (P:Program) (f:FuncId) (fn:Func) (s:ChangeSpec) (c:OpenClaim):Bool:=(c.lifted==P.liftsFinal)&&(P.make==some c.make)&&(c.kinds==(if c.domain.isEmpty then [] else fn.params.toList.map fun t=>match P.underlying t with|some (.int k)=>some k|_=>none))&&(c.pinned==c.pinnedBy)
theorem zeJ {P:Program} {f:FuncId} {fn:Func} {s:ChangeSpec} {c:OpenClaim} (h0:zdp P f fn s c=true) (h1:zdL P f fn s c=true) (h2:zdj P f fn s c=true) (h3:zdB P f fn s c=true) (h4:zdr P f fn s c=true) (h5:zdA P f fn s c=true) (h6:zdJ P f fn s c=true):joinedFacts P f fn s c=true:=by
 simp only[zdp,Al0] at h0
 obtain⟨⟨⟨⟨a0,a1⟩,a2⟩,a3⟩,a4⟩:=h0
 simp only[zdL,Al0] at h1
 obtain⟨⟨⟨⟨⟨⟨⟨⟨⟨⟨⟨⟨⟨⟨a5,a6⟩,a7⟩,a8⟩,a13⟩,a14⟩,a15⟩,a16⟩,a17⟩,a18⟩,a19⟩,a20⟩,a21⟩,a30⟩,a31⟩:=h1
 simp only[zdj,Al0] at h2
 obtain⟨⟨⟨a9,a10⟩,a11⟩,a12⟩:=h2
 simp only[zdB,Al0] at h3
 obtain⟨a22,a23⟩:=h3
 simp only[zdr,Al0] at h4
 have a24:=h4
 simp only[zdA,Al0] at h5
 have a25:=h5
 simp only[zdJ,Al0] at h6
 obtain⟨⟨⟨a26,a27⟩,a28⟩,a29⟩:=h6
 simp only[joinedFacts,Al0]
 exact⟨⟨⟨⟨⟨⟨⟨⟨⟨⟨⟨⟨⟨⟨⟨⟨⟨⟨⟨⟨⟨⟨⟨⟨⟨⟨⟨⟨⟨⟨⟨a0,a1⟩,a2⟩,a3⟩,a4⟩,a5⟩,a6⟩,a7⟩,a8⟩,a9⟩,a10⟩,a11⟩,a12⟩,a13⟩,a14⟩,a15⟩,a16⟩,a17⟩,a18⟩,a19⟩,a20⟩,a21⟩,a22⟩,a23⟩,a24⟩,a25⟩,a26⟩,a27⟩,a28⟩,a29⟩,a30⟩,a31⟩
open Go.Ab Go.ChangeAt Go.ChangeShapes Go.Lib Go.RowKit Go.WideElems Go.WideShapes
theorem own:ownKnob Tryz.prog.godebug=none:=by kernel_rfl
theorem laidOut:laidOutB Tryz.prog=true:=by kernel_rfl
theorem zeG {H:Type} {s:ChangeSpec} {ds:List (DataW H)} (h:∀ k,(Rows.OpenSpec.upto s).cond=some k→k H ds=true):blkAll ds≤1048576:=by
 have h1:Rows.uptoSmall H ds=true:=h _ rfl
 have h2:=of_decide_eq_true h1
 rwa [Ze] at h2
end Go.Proofs.YtaielcdfcgpbiaaGreatDoor
