import Derived.Shelf.Strings.Builder1
import Derived.Shelf.Strings.Builder2
import Derived.Shelf.Strings.OnBuilder
import Derived.Shelf.Small.Utf8
import Derived.Shelf.Small.Strs
import Derived.Shelf.Small.Wraps
import Derived.Shelf.Strings.BuilderF
import Derived.Shelf.Strings.BuilderK
import Derived.Shelf.Utf8.AppendRune
import Derived.Shelf.Strconv.Itoa0
import Derived.Shelf.Strconv.Itoa1
import Derived.Shelf.LaysM
import Derived.Shelf.Strconv.Itoa2
import Derived.Shelf.Strconv.Itoa3
import Derived.Shelf.Strconv.Itoa4
import Derived.Shelf.Strconv.ParseIntEmpty
import Derived.Shelf.Strconv.Clone
import Derived.Shelf.Strconv.SyntaxError
import Derived.Shelf.LaysC
import Derived.Shelf.Strconv.ToError
import Derived.Shelf.Strconv.Lower
import Derived.Shelf.Strconv.ParseUint10
import Derived.Shelf.Strconv.ParseUint10Empty
import Derived.Shelf.Strconv.ParseUint10Any
import Derived.Shelf.Strconv.ParseInt10
import Derived.Shelf.Strconv.RangeError
import Derived.Shelf.Strconv.ToErrorRange
import Derived.Shelf.Strconv.ParseUintEmpty
import Derived.Shelf.Strconv.ParseUint10b64
import Derived.Shelf.Strconv.ParseUint10b32
import Derived.Shelf.Strconv.ParseUint10b16
import Derived.Shelf.Strconv.ParseUint10b8
import Derived.Shelf.Strconv.ParseUint10At
import Derived.Shelf.Strconv.ParseInt10At64
import Derived.Shelf.Strconv.ParseInt10At32
import Derived.Shelf.Strconv.ParseInt10At16
import Derived.Shelf.Strconv.ParseInt10At8
import Derived.Shelf.Strconv.ParseInt10All
import Derived.Shelf.Strconv.ParseIntPublic10
import Derived.Shelf.Strconv.ErrVarParseInt
import Derived.Shelf.Strings.Search1
import Derived.Shelf.Strings.Search2
import Derived.Shelf.Strings.Search3
import Derived.Shelf.Strings.Shaped
import Derived.Shelf.Strings.Prefix
import Derived.Shelf.Strings.Runes
import Derived.Shelf.Strings.IndexAny
import Derived.Shelf.Strings.AsciiSet
import Derived.Shelf.Strings.IndexAnyAll
import Derived.Shelf.Unicode.DecodeSlow
import Derived.Shelf.Unicode.DecodeAny
import Derived.Test.YtaielcdfcgpbiaaGreatDoorProg
import Derived.Shelf.Unicode.ValidAny
import Derived.Test.YtaielcdfcgpbiaaGreatDoorCards
import Derived.Test.YtaielcdfcgpbiaaGreatDoorTie
import Derived.Lib.LaidIn
import Derived.Lib.LaidU8T
import Derived.Lib.LaidTab
import Derived.Deep.DeepHandedRow
import Derived.Deep.DeepWitnessRowRef
import Derived.ProofKit
import Derived.SizedLaws
import Derived.OpenShut
import Derived.Test.YtaielcdfcgpbiaaGreatDoorRows
import Derived.Test.YtaielcdfcgpbiaaGreatDoorM1
import Derived.Test.YtaielcdfcgpbiaaGreatDoorM2
set_option maxRecDepth 100000
set_option linter.all false
namespace Go.Proofs
open Go.Shelf
def Tryz.lays156_ren:Go.Shelf.Ren:=⟨fun|156=>63|165=>133|166=>134|169=>135|240=>184|241=>185|276=>224|277=>225|n=>n,fun|31=>44|9=>9|3=>3|4=>4|0=>0|20=>20|72=>170|76=>174|70=>168|37=>163|75=>173|127=>209|164=>238|5=>5|80=>87|n=>n,fun|n=>n⟩
theorem Tryz.lays156:Go.Proofs.Lays.n156 Tryz.prog Tryz.lays156_ren:={
 mixed:=by kernel_rfl
 f156:=Tryz.func63.trans (congrArg some (by kernel_rfl))
 f165:=Tryz.func133.trans (congrArg some (by kernel_rfl))
 f166:=Tryz.func134.trans (congrArg some (by kernel_rfl))
 f169:=Tryz.func135.trans (congrArg some (by kernel_rfl))
 f240:=Tryz.func184.trans (congrArg some (by kernel_rfl))
 f241:=Tryz.func185.trans (congrArg some (by kernel_rfl))
 f276:=Tryz.func224.trans (congrArg some (by kernel_rfl))
 f277:=Tryz.func225.trans (congrArg some (by kernel_rfl))
 t0:=Tryz.underlying0
 a0:=Tryz.isAgg0
 z0:=Tryz.sizeOf0
 v0:=Tryz.zeroValue0
 t3:=Tryz.underlying3
 a3:=Tryz.isAgg3
 z3:=Tryz.sizeOf3
 v3:=Tryz.zeroValue3
 t4:=Tryz.underlying4
 a4:=Tryz.isAgg4
 z4:=Tryz.sizeOf4
 v4:=Tryz.zeroValue4
 t9:=Tryz.underlying9
 a9:=Tryz.isAgg9
 z9:=Tryz.sizeOf9
 v9:=Tryz.zeroValue9
 t20:=Tryz.underlying20
 a20:=Tryz.isAgg20
 z20:=Tryz.sizeOf20
 v20:=Tryz.zeroValue20
 t31:=Tryz.underlying44
 a31:=Tryz.isAgg44
 z31:=Tryz.sizeOf44
 v31:=Tryz.zeroValue44
 t37:=Tryz.underlying163
 a37:=Tryz.isAgg163
 z37:=Tryz.sizeOf163
 v37:=Tryz.zeroValue163
 t70:=Tryz.underlying168
 a70:=Tryz.isAgg168
 z70:=Tryz.sizeOf168
 v70:=Tryz.zeroValue168
 t72:=Tryz.underlying170
 a72:=Tryz.isAgg170
 z72:=Tryz.sizeOf170
 v72:=Tryz.zeroValue170
 t75:=Tryz.underlying173
 a75:=Tryz.isAgg173
 z75:=Tryz.sizeOf173
 v75:=Tryz.zeroValue173
 t76:=Tryz.underlying174
 a76:=Tryz.isAgg174
 z76:=Tryz.sizeOf174
 v76:=Tryz.zeroValue174
 t127:=Tryz.underlying209
 a127:=Tryz.isAgg209
 z127:=Tryz.sizeOf209
 v127:=Tryz.zeroValue209
 t164:=Tryz.underlying238
 a164:=Tryz.isAgg238
 z164:=Tryz.sizeOf238
 v164:=Tryz.zeroValue238 }
def Tryz.lays137_ren:Go.Shelf.Ren:=⟨fun|137=>122|217=>178|266=>221|n=>n,fun|9=>9|5=>5|3=>3|n=>n,fun|n=>n⟩
theorem Tryz.lays137:Go.Proofs.Lays.n137 Tryz.prog Tryz.lays137_ren:={
 mixed:=by kernel_rfl
 f137:=Tryz.func122.trans (congrArg some (by kernel_rfl))
 f217:=Tryz.func178.trans (congrArg some (by kernel_rfl))
 f266:=Tryz.func221.trans (congrArg some (by kernel_rfl))
 t3:=Tryz.underlying3
 a3:=Tryz.isAgg3
 z3:=Tryz.sizeOf3
 v3:=Tryz.zeroValue3
 t5:=Tryz.underlying5
 a5:=Tryz.isAgg5
 z5:=Tryz.sizeOf5
 v5:=Tryz.zeroValue5
 t9:=Tryz.underlying9
 a9:=Tryz.isAgg9
 z9:=Tryz.sizeOf9
 v9:=Tryz.zeroValue9 }
def Tryz.laysC174_ren:Go.Shelf.Ren:=⟨fun|174=>151|247=>198|245=>199|287=>234|279=>235|280=>236|281=>237|282=>238|321=>255|322=>256|316=>257|171=>259|205=>258|243=>273|246=>277|283=>284|284=>285|285=>286|286=>287|129=>293|317=>292|318=>294|319=>295|320=>296|337=>299|338=>300|n=>n,fun|9=>9|3=>3|2=>2|75=>173|85=>190|4=>4|167=>244|5=>5|53=>245|175=>246|46=>134|168=>248|37=>163|0=>0|210=>260|21=>21|127=>209|145=>273|143=>271|171=>279|173=>282|212=>286|51=>267|20=>20|213=>287|232=>290|233=>291|80=>87|n=>n,fun|15=>3|16=>4|17=>5|18=>6|19=>7|n=>n⟩
theorem Tryz.laysC174:Go.Proofs.LaysC.n174 Tryz.prog Tryz.laysC174_ren:={
 mixed:=by kernel_rfl
 f129:=Tryz.func293.trans (congrArg some (by kernel_rfl))
 f171:=Tryz.func259.trans (congrArg some (by kernel_rfl))
 f174:=Tryz.func151.trans (congrArg some (by kernel_rfl))
 f205:=Tryz.func258.trans (congrArg some (by kernel_rfl))
 f243:=Tryz.func273.trans (congrArg some (by kernel_rfl))
 f245:=Tryz.func199.trans (congrArg some (by kernel_rfl))
 f246:=Tryz.func277.trans (congrArg some (by kernel_rfl))
 f247:=Tryz.func198.trans (congrArg some (by kernel_rfl))
 f279:=Tryz.func235.trans (congrArg some (by kernel_rfl))
 f280:=Tryz.func236.trans (congrArg some (by kernel_rfl))
 f281:=Tryz.func237.trans (congrArg some (by kernel_rfl))
 f282:=Tryz.func238.trans (congrArg some (by kernel_rfl))
 f283:=Tryz.func284.trans (congrArg some (by kernel_rfl))
 f284:=Tryz.func285.trans (congrArg some (by kernel_rfl))
 f285:=Tryz.func286.trans (congrArg some (by kernel_rfl))
 f286:=Tryz.func287.trans (congrArg some (by kernel_rfl))
 f287:=Tryz.func234.trans (congrArg some (by kernel_rfl))
 f316:=Tryz.func257.trans (congrArg some (by kernel_rfl))
 f317:=Tryz.func292.trans (congrArg some (by kernel_rfl))
 f318:=Tryz.func294.trans (congrArg some (by kernel_rfl))
 f319:=Tryz.func295.trans (congrArg some (by kernel_rfl))
 f320:=Tryz.func296.trans (congrArg some (by kernel_rfl))
 f321:=Tryz.func255.trans (congrArg some (by kernel_rfl))
 f322:=Tryz.func256.trans (congrArg some (by kernel_rfl))
 f337:=Tryz.func299.trans (congrArg some (by kernel_rfl))
 f338:=Tryz.func300.trans (congrArg some (by kernel_rfl))
 t0:=Tryz.underlying0
 a0:=Tryz.isAgg0
 z0:=Tryz.sizeOf0
 v0:=Tryz.zeroValue0
 t2:=Tryz.underlying2
 a2:=Tryz.isAgg2
 z2:=Tryz.sizeOf2
 v2:=Tryz.zeroValue2
 t3:=Tryz.underlying3
 a3:=Tryz.isAgg3
 z3:=Tryz.sizeOf3
 v3:=Tryz.zeroValue3
 t4:=Tryz.underlying4
 a4:=Tryz.isAgg4
 z4:=Tryz.sizeOf4
 v4:=Tryz.zeroValue4
 t5:=Tryz.underlying5
 a5:=Tryz.isAgg5
 z5:=Tryz.sizeOf5
 v5:=Tryz.zeroValue5
 t9:=Tryz.underlying9
 a9:=Tryz.isAgg9
 z9:=Tryz.sizeOf9
 v9:=Tryz.zeroValue9
 t20:=Tryz.underlying20
 a20:=Tryz.isAgg20
 z20:=Tryz.sizeOf20
 v20:=Tryz.zeroValue20
 t21:=Tryz.underlying21
 a21:=Tryz.isAgg21
 z21:=Tryz.sizeOf21
 v21:=Tryz.zeroValue21
 t37:=Tryz.underlying163
 a37:=Tryz.isAgg163
 z37:=Tryz.sizeOf163
 v37:=Tryz.zeroValue163
 t46:=Tryz.underlying134
 a46:=Tryz.isAgg134
 z46:=Tryz.sizeOf134
 v46:=Tryz.zeroValue134
 t51:=Tryz.underlying267
 a51:=Tryz.isAgg267
 z51:=Tryz.sizeOf267
 v51:=Tryz.zeroValue267
 t53:=Tryz.underlying245
 a53:=Tryz.isAgg245
 z53:=Tryz.sizeOf245
 v53:=Tryz.zeroValue245
 t75:=Tryz.underlying173
 a75:=Tryz.isAgg173
 z75:=Tryz.sizeOf173
 v75:=Tryz.zeroValue173
 t85:=Tryz.underlying190
 a85:=Tryz.isAgg190
 z85:=Tryz.sizeOf190
 v85:=Tryz.zeroValue190
 t127:=Tryz.underlying209
 a127:=Tryz.isAgg209
 z127:=Tryz.sizeOf209
 v127:=Tryz.zeroValue209
 t143:=Tryz.underlying271
 a143:=Tryz.isAgg271
 z143:=Tryz.sizeOf271
 v143:=Tryz.zeroValue271
 t145:=Tryz.underlying273
 a145:=Tryz.isAgg273
 z145:=Tryz.sizeOf273
 v145:=Tryz.zeroValue273
 t167:=Tryz.underlying244
 a167:=Tryz.isAgg244
 z167:=Tryz.sizeOf244
 v167:=Tryz.zeroValue244
 t168:=Tryz.underlying248
 a168:=Tryz.isAgg248
 z168:=Tryz.sizeOf248
 v168:=Tryz.zeroValue248
 t171:=Tryz.underlying279
 a171:=Tryz.isAgg279
 z171:=Tryz.sizeOf279
 v171:=Tryz.zeroValue279
 t173:=Tryz.underlying282
 a173:=Tryz.isAgg282
 z173:=Tryz.sizeOf282
 v173:=Tryz.zeroValue282
 t175:=Tryz.underlying246
 a175:=Tryz.isAgg246
 z175:=Tryz.sizeOf246
 v175:=Tryz.zeroValue246
 t210:=Tryz.underlying260
 a210:=Tryz.isAgg260
 z210:=Tryz.sizeOf260
 v210:=Tryz.zeroValue260
 t212:=Tryz.underlying286
 a212:=Tryz.isAgg286
 z212:=Tryz.sizeOf286
 v212:=Tryz.zeroValue286
 t213:=Tryz.underlying287
 a213:=Tryz.isAgg287
 z213:=Tryz.sizeOf287
 t232:=Tryz.underlying290
 a232:=Tryz.isAgg290
 z232:=Tryz.sizeOf290
 v232:=Tryz.zeroValue290
 t233:=Tryz.underlying291
 a233:=Tryz.isAgg291
 z233:=Tryz.sizeOf291
 v233:=Tryz.zeroValue291
 g15:=by kernel_rfl
 g16:=by kernel_rfl
 g17:=by kernel_rfl
 g18:=by kernel_rfl
 g19:=by kernel_rfl
 t80:=Tryz.underlying87
 a80:=Tryz.isAgg87
 z80:=Tryz.sizeOf87
 v80:=Tryz.zeroValue87
 i0:=by kernel_rfl
 i2:=by kernel_rfl
 i3:=by kernel_rfl
 i4:=by kernel_rfl
 i5:=by kernel_rfl
 i9:=by kernel_rfl
 i20:=by kernel_rfl
 i21:=by kernel_rfl
 i37:=by kernel_rfl
 i46:=by kernel_rfl
 i51:=by kernel_rfl
 i53:=by kernel_rfl
 i75:=by kernel_rfl
 i80:=by kernel_rfl
 i85:=by kernel_rfl
 i127:=by kernel_rfl
 i143:=by kernel_rfl
 i145:=by kernel_rfl
 i167:=by kernel_rfl
 i168:=by kernel_rfl
 i171:=by kernel_rfl
 i173:=by kernel_rfl
 i175:=by kernel_rfl
 i210:=by kernel_rfl
 i212:=by kernel_rfl
 i232:=by kernel_rfl
 i233:=by kernel_rfl
 m15:=by kernel_rfl
 m16:=by kernel_rfl
 m17:=by kernel_rfl
 m18:=by kernel_rfl
 m19:=by kernel_rfl
 c0:=by kernel_rfl
 c2:=by kernel_rfl
 c3:=by kernel_rfl
 c4:=by kernel_rfl
 c5:=by kernel_rfl
 c9:=by kernel_rfl
 c20:=by kernel_rfl
 c21:=by kernel_rfl
 c37:=by kernel_rfl
 c46:=by kernel_rfl
 c51:=by kernel_rfl
 c53:=by kernel_rfl
 c75:=by kernel_rfl
 c80:=by kernel_rfl
 c85:=by kernel_rfl
 c127:=by kernel_rfl
 c143:=by kernel_rfl
 c145:=by kernel_rfl
 c167:=by kernel_rfl
 c168:=by kernel_rfl
 c171:=by kernel_rfl
 c173:=by kernel_rfl
 c175:=by kernel_rfl
 c210:=by kernel_rfl
 c212:=by kernel_rfl
 c213:=by kernel_rfl
 c232:=by kernel_rfl
 c233:=by kernel_rfl }
def Tryz.lays99_ren:Go.Shelf.Ren:=⟨fun|99=>117|206=>170|n=>n,fun|9=>9|4=>4|3=>3|n=>n,fun|n=>n⟩
theorem Tryz.lays99:Go.Proofs.Lays.n99 Tryz.prog Tryz.lays99_ren:={
 mixed:=by kernel_rfl
 f99:=Tryz.func117.trans (congrArg some (by kernel_rfl))
 f206:=Tryz.func170.trans (congrArg some (by kernel_rfl))
 t3:=Tryz.underlying3
 a3:=Tryz.isAgg3
 z3:=Tryz.sizeOf3
 v3:=Tryz.zeroValue3
 t4:=Tryz.underlying4
 a4:=Tryz.isAgg4
 z4:=Tryz.sizeOf4
 v4:=Tryz.zeroValue4
 t9:=Tryz.underlying9
 a9:=Tryz.isAgg9
 z9:=Tryz.sizeOf9
 v9:=Tryz.zeroValue9 }
def Tryz.lays153_ren:Go.Shelf.Ren:=⟨fun|153=>118|152=>171|226=>172|227=>173|228=>174|137=>122|119=>213|224=>214|225=>215|217=>178|266=>221|n=>n,fun|9=>9|3=>3|4=>4|5=>5|21=>21|117=>204|116=>203|0=>0|46=>134|124=>228|n=>n,fun|n=>n⟩
theorem Tryz.lays153:Go.Proofs.Lays.n153 Tryz.prog Tryz.lays153_ren:={
 mixed:=by kernel_rfl
 f119:=Tryz.func213.trans (congrArg some (by kernel_rfl))
 f137:=Tryz.func122.trans (congrArg some (by kernel_rfl))
 f152:=Tryz.func171.trans (congrArg some (by kernel_rfl))
 f153:=Tryz.func118.trans (congrArg some (by kernel_rfl))
 f217:=Tryz.func178.trans (congrArg some (by kernel_rfl))
 f224:=Tryz.func214.trans (congrArg some (by kernel_rfl))
 f225:=Tryz.func215.trans (congrArg some (by kernel_rfl))
 f226:=Tryz.func172.trans (congrArg some (by kernel_rfl))
 f227:=Tryz.func173.trans (congrArg some (by kernel_rfl))
 f228:=Tryz.func174.trans (congrArg some (by kernel_rfl))
 f266:=Tryz.func221.trans (congrArg some (by kernel_rfl))
 t0:=Tryz.underlying0
 a0:=Tryz.isAgg0
 z0:=Tryz.sizeOf0
 v0:=Tryz.zeroValue0
 t3:=Tryz.underlying3
 a3:=Tryz.isAgg3
 z3:=Tryz.sizeOf3
 v3:=Tryz.zeroValue3
 t4:=Tryz.underlying4
 a4:=Tryz.isAgg4
 z4:=Tryz.sizeOf4
 v4:=Tryz.zeroValue4
 t5:=Tryz.underlying5
 a5:=Tryz.isAgg5
 z5:=Tryz.sizeOf5
 v5:=Tryz.zeroValue5
 t9:=Tryz.underlying9
 a9:=Tryz.isAgg9
 z9:=Tryz.sizeOf9
 v9:=Tryz.zeroValue9
 t21:=Tryz.underlying21
 a21:=Tryz.isAgg21
 z21:=Tryz.sizeOf21
 v21:=Tryz.zeroValue21
 t46:=Tryz.underlying134
 a46:=Tryz.isAgg134
 z46:=Tryz.sizeOf134
 v46:=Tryz.zeroValue134
 t116:=Tryz.underlying203
 a116:=Tryz.isAgg203
 z116:=Tryz.sizeOf203
 t117:=Tryz.underlying204
 a117:=Tryz.isAgg204
 z117:=Tryz.sizeOf204
 v117:=Tryz.zeroValue204
 t124:=Tryz.underlying228
 a124:=Tryz.isAgg228
 z124:=Tryz.sizeOf228
 v124:=Tryz.zeroValue228 }
def Tryz.lays197_ren:Go.Shelf.Ren:=⟨fun|197=>169|260=>212|n=>n,fun|9=>9|21=>21|3=>3|4=>4|5=>5|105=>199|119=>234|0=>0|46=>134|139=>237|138=>236|n=>n,fun|3=>0|4=>1|n=>n⟩
theorem Tryz.lays197:Go.Proofs.Lays.n197 Tryz.prog Tryz.lays197_ren:={
 mixed:=by kernel_rfl
 f197:=Tryz.func169.trans (congrArg some (by kernel_rfl))
 f260:=Tryz.func212.trans (congrArg some (by kernel_rfl))
 t0:=Tryz.underlying0
 a0:=Tryz.isAgg0
 z0:=Tryz.sizeOf0
 v0:=Tryz.zeroValue0
 t3:=Tryz.underlying3
 a3:=Tryz.isAgg3
 z3:=Tryz.sizeOf3
 v3:=Tryz.zeroValue3
 t4:=Tryz.underlying4
 a4:=Tryz.isAgg4
 z4:=Tryz.sizeOf4
 v4:=Tryz.zeroValue4
 t5:=Tryz.underlying5
 a5:=Tryz.isAgg5
 z5:=Tryz.sizeOf5
 v5:=Tryz.zeroValue5
 t9:=Tryz.underlying9
 a9:=Tryz.isAgg9
 z9:=Tryz.sizeOf9
 v9:=Tryz.zeroValue9
 t21:=Tryz.underlying21
 a21:=Tryz.isAgg21
 z21:=Tryz.sizeOf21
 v21:=Tryz.zeroValue21
 t46:=Tryz.underlying134
 a46:=Tryz.isAgg134
 z46:=Tryz.sizeOf134
 v46:=Tryz.zeroValue134
 t105:=Tryz.underlying199
 a105:=Tryz.isAgg199
 z105:=Tryz.sizeOf199
 v105:=Tryz.zeroValue199
 t119:=Tryz.underlying234
 a119:=Tryz.isAgg234
 z119:=Tryz.sizeOf234
 t138:=Tryz.underlying236
 a138:=Tryz.isAgg236
 z138:=Tryz.sizeOf236
 v138:=Tryz.zeroValue236
 t139:=Tryz.underlying237
 a139:=Tryz.isAgg237
 z139:=Tryz.sizeOf237
 v139:=Tryz.zeroValue237
 g3:=by kernel_rfl
 g4:=by kernel_rfl }
open Go.RowKit in
theorem Tryz.strings_IndexByte (s:ByteArray) (c:Int) (w:World) :
  Calls Tryz.prog 122 #[.string s,.int .u8 c] w fun e w'=>e=.returned (.int .i64 (Lib.indexByte s.data.toList c.toNat.toUInt8))∧w'=w:=Any.strings_IndexByte Tryz.lays137 s c w
open Go.RowKit in
theorem Tryz.strconv_ParseInt_10_at64_ok (s:ByteArray) (hmax:s.size≤9223372036854775806) (v:Int) (h:Lib.parseIntB 64 s.data.toList=.ok v) (w:World) :
  Calls Tryz.prog 151 #[.string s,.int .i64 10,.int .i64 64] w fun e w'=>e=.returned (.tuple #[.int .i64 v,.nilIface])∧(w'=w∨∃ t,w'=Lib.bytesWorld w 5 t):=Any.strconv_ParseInt_10_at64_ok Tryz.laysC174 s hmax v h w
open Go.RowKit in
theorem Tryz.strconv_ParseInt_10_at64_syntax (s:ByteArray) (hlim:s.size≤281474976710656) (h:Lib.parseIntB 64 s.data.toList=Lib.NumEnd.syntax) (ev:Value) (w:World) (hv:w.cell? ⟨3,0,none⟩=some ev) (hev:ev=.nilIface∨∃ te pe,ev=.iface te pe) :
  Calls Tryz.prog 151 #[.string s,.int .i64 10,.int .i64 64] w fun e w'=>∃ N,e=.returned (.tuple #[.int .i64 (0),.iface 248 (.pointer (some ⟨N,0,none⟩))])∧w.heap.size≤N∧w'.heap[N]?=some (.cells #[.string ⟨#[80,97,114,115,101,73,110,116]⟩,.string s,ev] 260 (0,0))∧Below w.heap.size w w':=Any.strconv_ParseInt_10_at64_syntax Tryz.laysC174 s hlim h ev w hv hev
open Go.RowKit in
theorem Tryz.strconv_ParseInt_10_at64_range (s:ByteArray) (hlim:s.size≤281474976710656) (h:Lib.parseIntB 64 s.data.toList=.range) (ev:Value) (w:World) (hv:w.cell? ⟨4,0,none⟩=some ev) (hev:ev=.nilIface∨∃ te pe,ev=.iface te pe) :
  Calls Tryz.prog 151 #[.string s,.int .i64 10,.int .i64 64] w fun e w'=>∃ N,e=.returned (.tuple #[.int .i64 (Lib.intSat 64 s.data.toList),.iface 248 (.pointer (some ⟨N,0,none⟩))])∧w.heap.size≤N∧w'.heap[N]?=some (.cells #[.string ⟨#[80,97,114,115,101,73,110,116]⟩,.string s,ev] 260 (0,0))∧Below w.heap.size w w':=Any.strconv_ParseInt_10_at64_range Tryz.laysC174 s hlim h ev w hv hev
open Go.RowKit Go.Lib in
theorem Tryz.strings_HasPrefix (s p:ByteArray) (w:World) :
  Calls Tryz.prog 117 #[.string s,.string p] w fun e w'=>e=.returned (.bool (Lib.hasPrefix s.data.toList p.data.toList))∧w'=w:=Any.strings_HasPrefix Tryz.lays99 s p w
open Go.RowKit Go.Lib in
theorem Tryz.strings_IndexAny_long (hv116:∀ w,(zeroValue 203).run Tryz.prog w=.ok (.agg (Array.replicate 256 (.bool false))) w) (s chars:ByteArray) (w:World) (h2:2≤chars.size) (h8:8<s.size) (hs:s.size<4294967281) (hcs:chars.size<4294967281) (hascii:∀(j:Nat) b,chars.data.toList[j]?=some b→b.toNat<128) :
  Calls Tryz.prog 118 #[.string s,.string chars] w fun e w'=>e=.returned (.int .i64 (Lib.indexAny s.data.toList chars.data.toList))∧w'=((w.alloc (.cells (Lib.setCells chars.data.toList) 203)).alloc (.cells (Lib.setCells chars.data.toList) 203)):=Any.strings_IndexAny_long Tryz.lays153 hv116 (by kernel_rfl) s chars w h2 h8 hs hcs hascii
open Go.RowKit Go.Lib in
theorem Tryz.utf8_DecodeRuneInString (s:ByteArray) (w:World) (hT:Lib.Utf8Tabs 0 1 w) :
  Calls Tryz.prog 169 #[.string s] w fun e w'=>e=.returned (.tuple #[.int .i32 (Lib.decodeGo s).1,.int .i64 (Lib.decodeGo s).2])∧Below w.heap.size w w':=Any.utf8_DecodeRuneInString Tryz.lays197 s w hT
def Tryz.lays196_ren:Go.Shelf.Ren:=⟨fun|196=>183|259=>223|n=>n,fun|9=>9|4=>4|3=>3|5=>5|12=>12|119=>234|0=>0|46=>134|139=>237|138=>236|53=>245|n=>n,fun|3=>0|4=>1|n=>n⟩
theorem Tryz.lays196:Go.Proofs.Lays.n196 Tryz.prog Tryz.lays196_ren:={
 mixed:=by kernel_rfl
 f196:=Tryz.func183.trans (congrArg some (by kernel_rfl))
 f259:=Tryz.func223.trans (congrArg some (by kernel_rfl))
 t0:=Tryz.underlying0
 a0:=Tryz.isAgg0
 z0:=Tryz.sizeOf0
 v0:=Tryz.zeroValue0
 t3:=Tryz.underlying3
 a3:=Tryz.isAgg3
 z3:=Tryz.sizeOf3
 v3:=Tryz.zeroValue3
 t4:=Tryz.underlying4
 a4:=Tryz.isAgg4
 z4:=Tryz.sizeOf4
 v4:=Tryz.zeroValue4
 t5:=Tryz.underlying5
 a5:=Tryz.isAgg5
 z5:=Tryz.sizeOf5
 v5:=Tryz.zeroValue5
 t9:=Tryz.underlying9
 a9:=Tryz.isAgg9
 z9:=Tryz.sizeOf9
 v9:=Tryz.zeroValue9
 t12:=Tryz.underlying12
 a12:=Tryz.isAgg12
 z12:=Tryz.sizeOf12
 v12:=Tryz.zeroValue12
 t46:=Tryz.underlying134
 a46:=Tryz.isAgg134
 z46:=Tryz.sizeOf134
 v46:=Tryz.zeroValue134
 t53:=Tryz.underlying245
 a53:=Tryz.isAgg245
 z53:=Tryz.sizeOf245
 v53:=Tryz.zeroValue245
 t119:=Tryz.underlying234
 a119:=Tryz.isAgg234
 z119:=Tryz.sizeOf234
 t138:=Tryz.underlying236
 a138:=Tryz.isAgg236
 z138:=Tryz.sizeOf236
 v138:=Tryz.zeroValue236
 t139:=Tryz.underlying237
 a139:=Tryz.isAgg237
 z139:=Tryz.sizeOf237
 v139:=Tryz.zeroValue237
 g3:=by kernel_rfl
 g4:=by kernel_rfl }
end Go.Proofs
namespace Go.Proofs.YtaielcdfcgpbiaaGreatDoor
open Go.Ab Go.RowKit Go.Sort Go.Lib
theorem zfH {γ:Gh} {w w':World} (h:Below w.heap.size w w'):Ext (fun _=>False) γ w γ w':=by
 refine⟨⟨h.size,fun b o v hc hp=>⟨hp,?_⟩,fun b arr E fr hb=>⟨arr,?_,rfl⟩⟩,h.os,h.output,fun a ha=>?_,fun b hb _=>⟨rfl,h.block b hb⟩⟩
 ·have hlt:=World.block_lt_of_cell? w _ hc
  unfold World.cell? at hc ⊢
  rw[h.block _ hlt];exact hc
 ·have hlt:=(Zp.1 hb).1
  rw[h.block b hlt];exact hb
 ·exact World.frozen?_of_block (h.block _ ha)
theorem Pure.of_below {P:Program} {f:FuncId} {args:List AV} {r:AV} (h:∀(γ:Gh) (w:World) (vs:List Value),TabOk γ w→RepAll γ w args vs→Calls P f vs.toArray w fun e w'=>Below w.heap.size w w'∧∃ v,e=.returned v∧Rep γ w' r v):Pure P f args r:=by
 intro γ w vs ht _ hv
 refine(h γ w vs ht hv).mono fun e w' ⟨hw,v,he,hr⟩=>?_
 subst he
 exact⟨γ,Heap.emp,.ret r,(zfH hw).weaken fun _ f=>f.elim,fun b o hb=>by simp[Heap.emp] at hb,fun b hb=>by simp[Heap.emp] at hb,hr,rfl,rfl⟩
theorem zdB (w:World) (e:TypeId) (t:ByteArray):Below w.heap.size w (Lib.bytesWorld w e t):=by
 have h1:Below w.heap.size w (w.drew.alloc (.cells (bytesCells w e t) e)):=(Below.refl _ w).drew.alloc (Al4 _) _
 unfold Lib.bytesWorld World.freeze
 simp only[Nat.one_ne_zero,if_false]
 refine⟨h1.os,h1.tape,h1.output,?_,fun i hi=>?_⟩
 ·rw[Array.size_modify];exact h1.size
 ·rw[Array.getElem?_modify]
  have:¬ (w.heap.size=i):=by omega
  simp only[this,if_false]
  exact h1.block i hi
theorem zb4 {γ:Gh} {w:World} (h:TabOk γ w) {i b:Nat} {ps:List (Value→Prop)} (hi:tabL[i]?=some (b,ps)) {j:Nat} {p:Value→Prop} (hj:ps[j]?=some p):∃ v,w.cell? ⟨b,j,none⟩=some v∧p v:=by
 obtain⟨v,h1,h2⟩:=(h _ (List.mem_of_getElem? hi)).2 j p hj
 exact⟨v,h1.1,h2⟩
theorem zf2:∀ c:Fin 256,Go.Pinned.utf8FirstZ[c.val]?=some (Lib.firstT c.val):=by decide +kernel
def zeP:List Nat:=[128,191,160,191,128,159,144,191,128,143,0,0,0,0,0,0,0,0,0,0,0,0,0,0,0,0,0,0,0,0,0,0]
theorem ziT:∀ c:Fin 16,zeP[2*c.val]?=some (Lib.accLo c.val)∧zeP[2*c.val+1]?=some (Lib.accHi c.val):=by decide +kernel
theorem zf5 {γ:Gh} {w:World} (h:TabOk γ w):Lib.Utf8Tabs 0 1 w:=by
 refine⟨fun c hc=>?_,fun c hc=>?_⟩
 ·have hf:=zf2 ⟨c,hc⟩
  obtain⟨v,h1,h2⟩:=zb4 h (i:=0) rfl (j:=c) (p:=fun v=>v=.int .u8 (Lib.firstT c)) (by rw[yC,hf];rfl)
  rw[h1,h2]
 ·obtain⟨g1,g2⟩:=ziT ⟨c,hc⟩
  have hi:tabL[1]?=some (1,zeP.map fun(n:Nat) (v:Value)=>v=.int .u8 n):=rfl
  obtain⟨v,h1,h2⟩:=zb4 h hi (j:=2*c) (p:=fun v=>v=.int .u8 (Lib.accLo c)) (by rw[yC,g1];rfl)
  obtain⟨u,h3,h4⟩:=zb4 h hi (j:=2*c+1) (p:=fun v=>v=.int .u8 (Lib.accHi c)) (by rw[yC,g2];rfl)
  exact⟨by rw[h1,h2],by rw[h3,h4]⟩
theorem zhR {γ:Gh} {w:World} {s:List UInt8} {vs:List Value} (h:RepAll γ w [.str s] vs):vs=[.string ⟨s.toArray⟩]:=by
 obtain⟨hl,hr⟩:=h
 match vs,hl with
 | [v],_=>cases hr 0 _ _ rfl rfl;rfl
theorem ZK (s p:List UInt8):Pure Tryz.prog 117 [.str s,.str p] (.bool (p.isPrefixOf s)):=by
 refine Pure.of_below fun γ w vs ht hv=>?_
 obtain⟨hl,hr⟩:=hv
 match vs,hl with
 | [v,u],_ =>
  cases hr 0 _ _ rfl rfl
  cases hr 1 _ _ rfl rfl
  exact(Tryz.strings_HasPrefix ⟨s.toArray⟩ ⟨p.toArray⟩ w).mono fun e w' ⟨he,hw⟩=>⟨by rw[hw];exact Below.refl _ _,_,he,.bool _⟩
theorem zd2 {γ:Gh} {w:World} (h:TabOk γ w):∃ v,w.cell? ⟨4,0,none⟩=some v∧∃ te pe,v=.iface te pe:=zb4 h (i:=4) rfl (j:=0) rfl
theorem zc7 {γ:Gh} {w:World} (h:TabOk γ w):∃ v,w.cell? ⟨3,0,none⟩=some v∧∃ te pe,v=.iface te pe:=zb4 h (i:=3) rfl (j:=0) rfl
def parseA (s:List UInt8):AV :=
 match Lib.parseIntB 64 s with
 | .ok v=>.tup [.int .i64 v,.oth .nilIface]
 | Lib.NumEnd.syntax=>.tup [.int .i64 0,.ifc 248 .any]
 | .range=>.tup [.int .i64 (Lib.intSat 64 s),.ifc 248 .any]
theorem zby {γ:Gh} {w:World} {a b:AV} {v u:Value} (h1:Rep γ w a v) (h2:Rep γ w b u):Rep γ w (.tup [a,b]) (.tuple #[v,u]):=.tup _ [v,u] rfl (RepAll.cons h1 (RepAll.cons h2 RepAll.nil)).2
theorem zfF (s:List UInt8) (hs:s.length≤281474976710656):Pure Tryz.prog 151 [.str s,.int .i64 10,.int .i64 64] (parseA s):=by
 refine Pure.of_below fun γ w vs ht hv=>?_
 obtain⟨hl,hr⟩:=hv
 match vs,hl with
 | [v,u,x],_ =>
  cases hr 0 _ _ rfl rfl
  cases hr 1 _ _ rfl rfl
  cases hr 2 _ _ rfl rfl
  have hsz:(⟨s.toArray⟩:ByteArray).size=s.length:=rfl
  unfold parseA
  rcases hp:Lib.parseIntB 64 s with v|_|_
  ·refine(Tryz.strconv_ParseInt_10_at64_ok ⟨s.toArray⟩ (by rw[hsz];omega) v hp w).mono fun e w' ⟨he,hw⟩=>⟨?_,_,he,zby (.int _ _) (.oth _)⟩
   rcases hw with rfl|⟨t,rfl⟩
   ·exact Below.refl _ _
   ·exact zdB _ _ _
  ·obtain⟨ev,h1,h2⟩:=zc7 ht
   exact(Tryz.strconv_ParseInt_10_at64_syntax ⟨s.toArray⟩ (by rw[hsz];omega) hp ev w h1 (.inr h2)).mono fun e w' ⟨N,he,_,_,hb⟩=>⟨hb,_,he,zby (.int _ _) (.ifc _ _ _ (.any _))⟩
  ·obtain⟨ev,h1,h2⟩:=zd2 ht
   exact(Tryz.strconv_ParseInt_10_at64_range ⟨s.toArray⟩ (by rw[hsz];omega) hp ev w h1 (.inr h2)).mono fun e w' ⟨N,he,_,_,hb⟩=>⟨hb,_,he,zby (.int _ _) (.ifc _ _ _ (.any _))⟩
end Go.Proofs.YtaielcdfcgpbiaaGreatDoor
namespace Go.Proofs.YtaielcdfcgpbiaaGreatDoor
open Go.Ab Go.Lib
open Go.ChangeShapes Go.WideShapes Go.ChangeAt Go.RowKit Go.WideElems
mutual
theorem ZH {H:Type}:∀ d:DataW H,Rows.uptoBulk d=blk d
 | .lit (.string _)=>rfl
 | .lit (.bool _)=>rfl
 | .lit (.int _ _)=>rfl
 | .lit (.float _ _)=>rfl
 | .lit .nil=>rfl
 | .nil=>rfl
 | .ptr d=>by simp only[Rows.uptoBulk,blk,ZH d]
 | .slice e s=>by simp only[Rows.uptoBulk,blk,Zy e,Zy s]
 | .agg e=>by simp only[Rows.uptoBulk,blk,Zy e]
 | .iface _ d=>by simp only[Rows.uptoBulk,blk,ZH d]
 | .map e=>by simp only[Rows.uptoBulk,blk,zcr e]
 | .held _=>rfl
theorem Zy {H:Type}:∀ d:List (DataW H),Rows.uptoBulkAll d=blkAll d
 | []=>rfl
 | d::r=>by simp only[Rows.uptoBulkAll,blkAll,ZH d,Zy r]
theorem zcr {H:Type}:∀ d:List (Lit×DataW H),Rows.uptoBulkEntries d=blkEs d
 | []=>rfl
 | x::r=>by simp only[Rows.uptoBulkEntries,blkEs,zf8 x,zcr r]
theorem zf8 {H:Type}:∀ d:Lit×DataW H,Rows.uptoBulkEntry d=blkE d
 | (.string _,d)=>by simp only[Rows.uptoBulkEntry,blkE,ZH d]
 | (.bool _,d)=>by simp only[Rows.uptoBulkEntry,blkE,ZH d]
 | (.int _ _,d)=>by simp only[Rows.uptoBulkEntry,blkE,ZH d]
 | (.float _ _,d)=>by simp only[Rows.uptoBulkEntry,blkE,ZH d]
 | (.nil,d)=>by simp only[Rows.uptoBulkEntry,blkE,ZH d]
end
def yx (W:World) (g:Nat) (ps:List (Value→Prop)):Prop :=
 (∃(arr:Array Value) (E:TypeId) (fr:Nat×Nat),W.heap[g]?=some (.cells arr E fr)∧arr.size=ps.length)∧∀(j:Nat) (p:Value→Prop),ps[j]?=some p→∃ v,CellIs immG W g j v∧p v
theorem Yg {W:World} {n:String} {g:Nat} {cs:Array Value} {ps:List (Value→Prop)} (hg:Tryz.prog.globalNamed n=some g) (hv:W.var? Tryz.prog n=some cs) (hl:cs.size=ps.length)
  (h:∀(j:Nat) (p:Value→Prop) v,ps[j]?=some p→cs[j]?=some v→v.oneCell'=true∧p v):yx W g ps:=by
 refine⟨?_,fun j p hp=>?_⟩
 ·have h1:=hv
  simp only[World.var?,hg,Option.bind_some] at h1
  split at h1
  ·rename_i c t fr he
   cases h1
   exact⟨_,_,_,he,hl⟩
  ·cases h1
 ·have hj:j<cs.size:=by
   have:=(yW.1 hp).1
   omega
  have h1:=h j p cs[j] hp (Array.getElem?_eq_getElem hj)
  refine⟨cs[j],⟨?_,trivial,h1.1⟩,h1.2⟩
  rw[World.var?_cell hg hv j,Array.getElem?_eq_getElem hj]
theorem Yh {W:World} {n:String} {g cnt:Nat} {t e:TypeId} {k:IntKind} {zs:List Nat} (hg:Tryz.prog.globalNamed n=some g) (hty:(Tryz.prog.globals[g]?).map (·.type)=some t) (ht:Tryz.prog.underlying t=some (.array cnt e)) (he:Tryz.prog.underlying e=some (.int k)) (hce:Tryz.prog.cellsOf e=1) (hct:Tryz.prog.cellsOf t=cnt)
  (h:VarReads Tryz.prog W n (tabData k (zs.map fun(z:Nat)=>(z:Int)))):yx W g (zs.map fun(z:Nat) (v:Value)=>v=.int k z):=by
 obtain⟨g',t',cs,fuel,p,hg',ht',hvar,hd⟩:=h
 obtain rfl:=Option.some.inj (hg.symm.trans hg')
 obtain rfl:=Option.some.inj (hty.symm.trans ht')
 have hcs:=cells_of_tab ht he hce hct hd
 refine Yg hg hvar (by rw[← Array.length_toList,hcs];simp) fun j p v hp hj=>?_
 rw[← Array.getElem?_toList,hcs] at hj
 simp only[yC,ZC] at hp hj
 obtain⟨z,hz,rfl⟩:=hp
 obtain⟨y,⟨z',hz',rfl⟩,rfl⟩:=hj
 rw[hz] at hz'
 cases hz'
 exact⟨rfl,rfl⟩
theorem u8x:U8Extra Tryz.prog Tryz.lays196_ren:=⟨by kernel_rfl,by kernel_rfl,by kernel_rfl,by kernel_rfl,by kernel_rfl,by kernel_rfl,by kernel_rfl⟩
theorem zhF:∀ c:Fin 32,zeP[c.val]?=some (if c.val % 2=0 then Lib.accLo (c.val / 2) else Lib.accHi (c.val / 2)):=by decide +kernel
theorem zdg {W : World} (h1 : VarReads Tryz.prog W "unicode/utf8.first" firstData) (h2 : VarReads Tryz.prog W "unicode/utf8.acceptRanges" acceptData) : yx W 1 (zeP.map fun (n : Nat) (v : Value) => v = .int .u8 n) := by
 have ht:=utf8Tabs_of_readsT (U8Types.of196 Tryz.lays196) u8x h1 h2
 obtain⟨g',t',cs,fuel,p,hg',ht',hvar,hd⟩:=h2
 obtain rfl := Option.some.inj ((show Tryz.prog.globalNamed "unicode/utf8.acceptRanges" = some 1 by kernel_rfl).symm.trans hg')
 obtain rfl:=Option.some.inj (u8x.y4.symm.trans ht')
 have hcs:cs.size=32:=by
  have h3:fuel≠0:=fun e=>by subst e;simp[DataW.trod] at hd
  obtain⟨fuel,rfl⟩:=Nat.exists_eq_succ_of_ne_zero h3
  have h4:cs.toList.length=Tryz.prog.cellsOf (Tryz.lays196_ren.t 139):=by
   have hu:=(U8Types.of196 Tryz.lays196).t139
   simp only[DataW.trod,hu,u8x.c138] at hd
   split at hd
   ·rename_i hl;simpa using hl
   ·cases hd
  rw[← Array.length_toList,h4];exact(show Tryz.prog.cellsOf (Tryz.lays196_ren.t 139)=32 by kernel_rfl)
 refine Yg hg' hvar (by rw[hcs];rfl) fun j p v hp hj=>?_
 have hj32:j<32:=by rw[← hcs];exact(Zp.1 hj).1
 simp only[yC,ZC] at hp
 obtain⟨z,hz,rfl⟩:=hp
 rw[zhF ⟨j,hj32⟩] at hz
 cases hz
 have ⟨a1,a2⟩:=ht.2 (j / 2) (by omega)
 rcases Nat.mod_two_eq_zero_or_one j with e|e
 ·have e2:2*(j / 2)=j:=by omega
  rw[e2] at a1
  have h5:=(World.var?_cell hg' hvar j).symm.trans a1
  rw[hj] at h5
  cases h5
  simp[e,Value.oneCell']
 ·have e2:2*(j / 2)+1=j:=by omega
  rw[e2] at a2
  have h5:=(World.var?_cell hg' hvar j).symm.trans a2
  rw[hj] at h5
  cases h5
  simp[e,Value.oneCell']
theorem zcK {W:World} {n:String} {g:Nat} {t:TypeId} {s:String} {d:DataW Unit} (hg:Tryz.prog.globalNamed n=some g) (hty:(Tryz.prog.globals[g]?).map (·.type)=some t) {ms:Array (String×TypeId)} (hu:Tryz.prog.underlying t=some (.interface ms)) (h:VarReads Tryz.prog W n (.iface s d)):yx W g [fun v=>∃ te pe,v=.iface te pe]:=by
 obtain⟨g',t',cs,fuel,p,hg',ht',hvar,hd⟩:=h
 obtain rfl:=Option.some.inj (hg.symm.trans hg')
 obtain rfl:=Option.some.inj (hty.symm.trans ht')
 have h1:∃ te pe,cs.toList=[.iface te pe]:=by
  cases fuel with
  | zero=>simp[DataW.trod] at hd
  | succ fuel =>
   simp only[DataW.trod,hu] at hd
   split at hd
   all_goals first
    | (cases hd;done)
    | skip
   all_goals simp_all
   done
 obtain⟨te,pe,he⟩:=h1
 refine Yg hg hvar (by rw[← Array.length_toList,he];rfl) fun j p v hp hj=>?_
 rw[← Array.getElem?_toList,he] at hj
 match j,hp,hj with
 | 0,hp,hj=>cases hp;cases hj;exact⟨rfl,_,_,rfl⟩
 | j+1,hp,hj=>simp at hp
theorem zfR {W:World} (hS:W.ShapedOpen Tryz.prog) {g:Nat} {z:Array Value} {t:TypeId} {k:IntKind} (hg:g<Tryz.prog.globals.size) (h0:(((begin Tryz.prog (fun _ _=>0) default).world.heap[g]?).bind Obj.row?)=some (z,t)) (hz:z.size=1) (hb:Tryz.prog.buildable t=true)
  (hts:Tryz.prog.cellTypes Tryz.prog.depth t=some [t]) (ht:Tryz.prog.underlying t=some (.int k)):yx W g [fun v=>∃ m,v=.int k m]:=by
 obtain⟨cs,h1,h2,h3⟩:=hS.1 g z t hg h0
 have hsz:cs.size=1:=by rw[h2,hz]
 obtain⟨ts,hts',_,hall⟩:=h3 hb
 rw[hts] at hts'
 cases hts'
 have h4:cs[0]?=some cs[0]:=Array.getElem?_eq_getElem (by omega)
 obtain⟨u,hu,hc⟩:=hall 0 cs[0] h4
 cases hu
 have h5:∃ m,cs[0]=.int k m:=by
  unfold Cell.ok at hc
  rw[ht] at hc
  generalize cs[0]=v at hc
  cases v<;>first|exact hc.elim|(obtain⟨rfl,_⟩:=hc;exact⟨_,rfl⟩)
 obtain⟨m,hm⟩:=h5
 refine⟨⟨cs,t,_,h1,hsz⟩,fun j p hp=>?_⟩
 match j,hp with
 | 0,hp =>
  cases hp
  refine⟨.int k m,⟨?_,trivial,rfl⟩,m,rfl⟩
  unfold World.cell?
  simp only[h1,h4,hm]
  simp
 | j+1,hp=>simp at hp
abbrev T64:List Nat:=[1,10,100,1000,10000,100000,1000000,10000000,100000000,1000000000,10000000000,100000000000,1000000000000,10000000000000,100000000000000,1000000000000000,10000000000000000,100000000000000000,1000000000000000000,10000000000000000000]
abbrev B32:List Nat:=[0,1,28,2,29,14,24,3,30,22,20,15,25,17,4,8,31,27,13,23,21,19,16,7,26,12,18,6,11,5,10,9]
abbrev B64:List Nat:=[0,1,56,2,57,49,28,3,61,58,42,50,38,29,17,4,62,47,59,36,45,43,51,22,53,39,33,30,24,18,12,5,63,55,48,27,60,41,37,16,46,35,44,21,52,32,23,11,54,26,40,15,34,20,31,10,25,14,19,9,13,8,7,6]
abbrev zeb : List (String × DataW Unit) := [("math/bits.deBruijn32tab", Rows.laid_math_bits_deBruijn32tab), ("math/bits.deBruijn64tab", Rows.laid_math_bits_deBruijn64tab), ("internal/strconv.uint64pow10", Rows.laid_internal_strconv_uint64pow10), ("unicode/utf8.acceptRanges", Rows.laid_unicode_utf8_acceptRanges), ("strconv.ErrRange", Rows.laid_strconv_ErrRange), ("strconv.ErrSyntax", Rows.laid_strconv_ErrSyntax), ("unicode/utf8.first", Rows.laid_unicode_utf8_first)]
theorem zhV {W:World} (hL:laidMetH Tryz.prog zeb W) (hS:W.ShapedOpen Tryz.prog):TabOk immG W:=by
 have hL':laidMet Tryz.prog zeb W:=hL
 have m1 : VarReads Tryz.prog W "unicode/utf8.first" (tabData .u8 (Go.Pinned.utf8FirstZ.map fun (z : Nat) => (z : Int))) := laidMet.reads hL' (d := Rows.laid_unicode_utf8_first) (.tail _ (.tail _ (.tail _ (.tail _ (.tail _ (.tail _ (.head _)))))))
 have m2 : VarReads Tryz.prog W "unicode/utf8.acceptRanges" acceptData := laidMet.reads hL' (d := Rows.laid_unicode_utf8_acceptRanges) (.tail _ (.tail _ (.tail _ (.head _))))
 have m3 : VarReads Tryz.prog W "internal/strconv.uint64pow10" (tabData .u64 (T64.map fun (z : Nat) => (z : Int))) := laidMet.reads hL' (d := Rows.laid_internal_strconv_uint64pow10) (.tail _ (.tail _ (.head _)))
 have m4 : VarReads Tryz.prog W "math/bits.deBruijn32tab" (tabData .u8 (B32.map fun (z : Nat) => (z : Int))) := laidMet.reads hL' (d := Rows.laid_math_bits_deBruijn32tab) (.head _)
 have m5 : VarReads Tryz.prog W "math/bits.deBruijn64tab" (tabData .u8 (B64.map fun (z : Nat) => (z : Int))) := laidMet.reads hL' (d := Rows.laid_math_bits_deBruijn64tab) (.tail _ (.head _))
 have m6 : VarReads Tryz.prog W "strconv.ErrSyntax" Rows.laid_strconv_ErrSyntax := laidMet.reads hL' (.tail _ (.tail _ (.tail _ (.tail _ (.tail _ (.head _))))))
 have m7 : VarReads Tryz.prog W "strconv.ErrRange" Rows.laid_strconv_ErrRange := laidMet.reads hL' (.tail _ (.tail _ (.tail _ (.tail _ (.head _)))))
 have m8:firstData=tabData .u8 (Go.Pinned.utf8FirstZ.map fun(z:Nat)=>(z:Int)):=by kernel_rfl
 have e1:yx W 0 (Go.Pinned.utf8FirstZ.map fun(n:Nat) (v:Value)=>v=.int .u8 n) :=
  Yh (t:=Tryz.lays196_ren.t 119) u8x.n3 u8x.y3 (U8Types.of196 Tryz.lays196).t119 (U8Types.of196 Tryz.lays196).t5 u8x.c5 u8x.c119 m1
 have e2:yx W 1 (zeP.map fun(n:Nat) (v:Value)=>v=.int .u8 n):=zdg (m8▸m1) m2
 have e3:yx W 5 (T64.map fun(n:Nat) (v:Value)=>v=.int .u64 n) :=
  Yh (t:=286) (e:=245) (cnt:=20) (by kernel_rfl) (by kernel_rfl) (by kernel_rfl) (by kernel_rfl) (by kernel_rfl) (by kernel_rfl) m3
 have e4:yx W 6 (B32.map fun(n:Nat) (v:Value)=>v=.int .u8 n) :=
  Yh (t:=290) (e:=5) (cnt:=32) (by kernel_rfl) (by kernel_rfl) (by kernel_rfl) (by kernel_rfl) (by kernel_rfl) (by kernel_rfl) m4
 have e5:yx W 7 (B64.map fun(n:Nat) (v:Value)=>v=.int .u8 n) :=
  Yh (t:=291) (e:=5) (cnt:=64) (by kernel_rfl) (by kernel_rfl) (by kernel_rfl) (by kernel_rfl) (by kernel_rfl) (by kernel_rfl) m5
 have e6:yx W 3 [fun v=>∃ te pe,v=.iface te pe]:=zcK (t:=173) (by kernel_rfl) (by kernel_rfl) Tryz.underlying173 m6
 have e7:yx W 4 [fun v=>∃ te pe,v=.iface te pe]:=zcK (t:=173) (by kernel_rfl) (by kernel_rfl) Tryz.underlying173 m7
 have e8:yx W 2 [fun v=>∃ m,v=.int .i64 m]:=zfR hS (z:=#[.int .i64 0]) (t:=3) (of_decide_eq_true (by kernel_rfl)) (by kernel_rfl) rfl (by kernel_rfl) (by kernel_rfl) (by kernel_rfl)
 intro x hx
 unfold tabL at hx
 simp only[List.mem_cons,List.not_mem_nil,or_false] at hx
 rcases hx with rfl|rfl|rfl|rfl|rfl|rfl|rfl|rfl<;>first|exact e1|exact e2|exact e3|exact e4|exact e5|exact e6|exact e7|exact e8
noncomputable abbrev N0:Nat:=(World.settled Tryz.prog default).heap.size
noncomputable def laidWorld (os:Os):World :=
 let w0:=World.holding Tryz.prog os ⟨#[.cells #[.string ⟨#[105,110,118,97,108,105,100,32,115,121,110,116,97,120]⟩] 273,.cells #[.string ⟨#[118,97,108,117,101,32,111,117,116,32,111,102,32,114,97,110,103,101]⟩] 273],#[],[]⟩
 let put (h:Array Obj) (g:Nat) (cs:Array Value):Array Obj:=h.modify g fun
  | .cells _ t frozen=>.cells cs t frozen
  | o=>o
 let h1:=put w0.heap 0 (Go.Pinned.utf8FirstZ.map fun(z:Nat)=>Value.int .u8 z).toArray
 let h2:=put h1 1 (zeP.map fun(z:Nat)=>Value.int .u8 z).toArray
 let h3:=put h2 5 (T64.map fun(z:Nat)=>Value.int .u64 z).toArray
 let h4:=put h3 6 (B32.map fun(z:Nat)=>Value.int .u8 z).toArray
 let h5:=put h4 7 (B64.map fun(z:Nat)=>Value.int .u8 z).toArray
 let h6:=put h5 3 #[.iface 271 (.pointer (some ⟨(World.settled Tryz.prog os).heap.size,0,none⟩))]
 let h7:=put h6 4 #[.iface 271 (.pointer (some ⟨(World.settled Tryz.prog os).heap.size+1,0,none⟩))]
 { w0 with heap:=h7 }
theorem laid_met (os:Os) (args:Array Value):laidMet Tryz.prog zeb ((laidWorld os).forCall (fun _ _=>0) ⟨#[],args,[]⟩).memory :=
 (LaidIn.of_run (l:=zeb) [0,1,2,3,4,5,6,7,N0,N0+1] 8 (by kernel_rfl) (by kernel_rfl) (by kernel_rfl) (by kernel_rfl)).met
end Go.Proofs.YtaielcdfcgpbiaaGreatDoor
namespace Go.Proofs.YtaielcdfcgpbiaaGreatDoor
open Go.Ab
def ir3 : AFn := ⟨60, 2, [.t 4], .seq (.rg [Imb 4 false])
 (.seq (.seq (.rg [Im 13 0, Ils 14 13, Igi 15 14 3000])
 (.cond (.t 15) (.seq (.rg [Io 16 (.call 10 []), Im 4 16])
 .ret) .skip))
 (.seq (.rg [Im 18 0, Im 19 1, Io 20 (.call 11 [(.t 18), (.t 19)]), Im 17 20, Iex 21 17 0, Iex 22 17 1, Io 5 (.alloc [.int .i64 0, .int .i64 0, .str [], .sl .nil 5 [], .sl .nil 6 []]), ⟨none, none, .st 5 (.t 5) (.t 21), []⟩, Im 6 22])
 (.seq (.rg [Im 24 0, Im 25 1, Io 26 (.call 12 [(.t 24), (.t 25)]), Im 23 26, Iex 27 23 0, Iex 28 23 1, Io 7 (.alloc [.int .i64 0, .int .i64 0, .str [], .sl .nil 5 [], .sl .nil 6 []]), ⟨none, none, .st 5 (.t 7) (.t 27), []⟩, Im 8 28])
 (.seq (.rg [Im 30 0, Io 31 (.call 13 [(.t 30)]), Im 29 31, Iex 32 29 0, Iex 33 29 1, Io 9 (.alloc [.str [], .int .i64 0, .int .i64 0]), ⟨none, none, .st 3 (.t 9) (.t 32), []⟩, Im 10 33])
 (.seq (.rg [Im 35 0, Io 36 (.call 14 [(.t 35)]), Im 34 36, Iex 37 34 0, Iex 38 34 1, Io 11 (.alloc [.str [], .int .i64 0, .int .i64 0]), ⟨none, none, .st 3 (.t 11) (.t 37), []⟩, Im 12 38])
 (.seq (.rg [Im 39 6, Im 40 8, Io 41 (.bi .eql .i64 (.t 39) (.t 40)), Im 42 41, Jt 43 42 (.ld 5 true (.t 5)), Jt 44 42 (.ld 5 true (.t 7)), Jt 45 42 (.call 15 [(.t 43), (.t 44)]), Ipf 46 42 45, Im 47 46, Jm 48 47 10, Jm 49 47 12, Jt 50 47 (.bi .eql .i64 (.t 48) (.t 49)), Ipf 51 47 50, Im 52 51, Jt 53 52 (.ld 3 true (.t 9)), Jt 54 52 (.ld 3 true (.t 11)), Jt 55 52 (.eqa false [.s, (.i .i64), (.i .i64)] (.t 53) (.t 54)), Ipf 56 52 55, Im 57 56, Jt 58 57 (.call 10 []), Ipf 59 57 58, Im 4 59])
 .ret))))))⟩
theorem ck3:chkFn Tryz.prog 3 ir3=true:=by kernel_rfl
def ir10 : AFn := ⟨45, 0, [.t 0], .seq (.rg [Imb 0 false])
 (.seq (.rg [Io 6 (.call 30 [(.k (.str [123, 97, 32, 46, 46, 46, 111, 110, 32, 66, 123, 99, 125, 125]))]), Im 5 6, Iex 7 5 0, Iex 8 5 1, Io 1 (.alloc [.sl .nil 5 [], .sl .nil 4 []]), ⟨none, none, .st 2 (.t 1) (.t 7), []⟩, Im 2 8])
 (.seq (.rg [Io 10 (.call 30 [(.k (.str [113, 117, 101, 114, 121, 40, 36, 120, 58, 73, 110, 116, 61, 36, 121, 41, 123, 97, 125]))]), Im 9 10, Iex 11 9 0, Iex 12 9 1, Io 3 (.alloc [.sl .nil 5 [], .sl .nil 4 []]), ⟨none, none, .st 2 (.t 3) (.t 11), []⟩, Im 4 12])
 (.seq (.rg [Im 13 2, Iei 14 13 0, Im 15 14, Ja 16 15 0 1, Jl 17 15 1 16, Jt 18 15 (.len (.t 17)), Jt 19 15 (.bi .eql .i64 (.t 18) (.k (.int .i64 1))), Ipf 20 15 19, Im 21 20, Ja 22 21 0 1, Jl 23 21 1 22, Jt 24 21 (.ia 5 (.t 23) (.k (.int .i64 0))), Ja 25 21 4 24, Jl 26 21 1 25, Jt 27 21 (.len (.t 26)), Jt 28 21 (.bi .eql .i64 (.t 27) (.k (.int .i64 2))), Ipf 29 21 28, Im 30 29, Ja 31 30 0 1, Jl 32 30 1 31, Jt 33 30 (.ia 5 (.t 32) (.k (.int .i64 0))), Ja 34 30 4 33, Jl 35 30 1 34, Jt 36 30 (.ia 7 (.t 35) (.k (.int .i64 1))), Ja 37 30 5 36, Jl 38 30 1 37, Jt 39 30 (.bs .eql (.t 38) (.k (.str [66]))), Ipf 40 30 39, Im 41 40, Jm 42 41 4, Jt 43 41 (.bi .eql .i64 (.t 42) (.k (.int .i64 2))), Ipf 44 41 43, Im 0 44])
 .ret)))⟩
theorem ck10:chkFn Tryz.prog 10 ir10=true:=by kernel_rfl
def ir11 : AFn := ⟨16, 2, [.c 4 5 true, .t 5], .seq (.rg [Ibx 3 1, Io 4 (.alloc [.int .i64 0, .int .i64 0, .str [], .sl .nil 5 [], .sl .nil 6 []]), Imv 5 0])
 (.seq (.rg [Io 6 (.alloc [.int .i64 0, .int .i64 0, .str [], .sl .nil 5 [], .sl .nil 6 []])])
 (.seq (.rg [Im 8 0, Io 9 (.mkfn 32 [] [(.t 3), (.t 6)]), Io 10 (.call 31 [(.t 8), (.t 9)]), Im 7 10])
 (.seq (.seq (.rg [Im 11 7, Io 12 (.bi .neq .i64 (.t 11) (.k (.int .i64 0)))])
 (.cond (.t 12) (.seq (.rg [Io 13 (.bld [.int .i64 0, .int .i64 0, .str [], .sl .nil 5 [], .sl .nil 6 []] []), Im 14 7, ⟨none, none, .st 5 (.t 4) (.t 13), []⟩, Im 5 14])
 .ret) .skip))
 (.seq (.rg [Ilb 15 5 6, ⟨none, none, .st 5 (.t 4) (.t 15), []⟩, Imv 5 0])
 .ret))))⟩
theorem ck11:chkFn Tryz.prog 11 ir11=true:=by kernel_rfl
def ir12 : AFn := ⟨35, 2, [.c 4 5 true, .t 5], .seq (.rg [Io 4 (.alloc [.int .i64 0, .int .i64 0, .str [], .sl .nil 5 [], .sl .nil 6 []]), Imv 5 0])
 (.seq (.rg [Im 11 0, Io 12 (.call 34 [(.t 11)]), Im 10 12, Iex 13 10 0, Iex 14 10 1, Im 6 13, Im 7 14])
 (.seq (.rg [Im 15 6, Im 16 7, Io 17 (.bld [.sl .nil 2 [], .int .i64 0, .int .i64 0, .int .i64 0] [(0, 1, (.t 15)), (3, 1, (.t 16))]), Io 18 (.box (.t 17)), Im 8 18])
 (.seq (.rg [Im 19 8, Im 20 1, Io 21 (.call 35 [(.t 19), (.t 20)]), Io 9 (.alloc [.int .i64 0, .int .i64 0, .str [], .sl .nil 5 [], .sl .nil 6 []]), ⟨none, none, .st 5 (.t 9) (.t 21), []⟩])
 (.seq (.rg [Im 22 8, Io 23 (.call 36 [(.t 22)])])
 (.seq (.seq (.rg [Im 24 8, Ink 25 24, If 26 3 25, Il 27 1 26, Io 28 (.bi .neq .i64 (.t 27) (.k (.int .i64 0)))])
 (.cond (.t 28) (.seq (.reg [0, 1, 2, 3, 4, 5, 6] [Io 29 (.bld [.int .i64 0, .int .i64 0, .str [], .sl .nil 5 [], .sl .nil 6 []] []), Im 30 8, Ink 31 30, If 32 3 31, Il 33 1 32, ⟨none, none, .st 5 (.t 4) (.t 29), [4]⟩, Im 5 33])
 .ret) .skip))
 (.seq (.rg [Ilb 34 5 9, ⟨none, none, .st 5 (.t 4) (.t 34), []⟩, Imv 5 0])
 .ret))))))⟩
theorem ck12:chkFn Tryz.prog 12 ir12=true:=by kernel_rfl
def ir13 : AFn := ⟨14, 1, [.c 2 3 true, .t 3], .seq (.rg [Io 2 (.alloc [.str [], .int .i64 0, .int .i64 0]), Imv 3 0])
 (.seq (.rg [Io 4 (.alloc [.str [], .int .i64 0, .int .i64 0])])
 (.seq (.rg [Im 6 0, Io 7 (.mkfn 37 [] [(.t 4)]), Io 8 (.call 31 [(.t 6), (.t 7)]), Im 5 8])
 (.seq (.seq (.rg [Im 9 5, Io 10 (.bi .neq .i64 (.t 9) (.k (.int .i64 0)))])
 (.cond (.t 10) (.seq (.rg [Io 11 (.bld [.str [], .int .i64 0, .int .i64 0] []), Im 12 5, ⟨none, none, .st 3 (.t 2) (.t 11), []⟩, Im 3 12])
 .ret) .skip))
 (.seq (.rg [Ilb 13 3 4, ⟨none, none, .st 3 (.t 2) (.t 13), []⟩, Imv 3 0])
 .ret))))⟩
theorem ck13:chkFn Tryz.prog 13 ir13=true:=by kernel_rfl
def ir14 : AFn := ⟨32, 1, [.c 2 3 true, .t 3], .seq (.rg [Io 2 (.alloc [.str [], .int .i64 0, .int .i64 0]), Imv 3 0])
 (.seq (.rg [Im 9 0, Io 10 (.call 34 [(.t 9)]), Im 8 10, Iex 11 8 0, Iex 12 8 1, Im 4 11, Im 5 12])
 (.seq (.rg [Im 13 4, Im 14 5, Io 15 (.bld [.sl .nil 2 [], .int .i64 0, .int .i64 0, .int .i64 0] [(0, 1, (.t 13)), (3, 1, (.t 14))]), Io 16 (.box (.t 15)), Im 6 16])
 (.seq (.rg [Im 17 6, Io 18 (.call 39 [(.t 17), (.k (.int .i64 0))]), Io 7 (.alloc [.str [], .int .i64 0, .int .i64 0]), ⟨none, none, .st 3 (.t 7) (.t 18), []⟩])
 (.seq (.rg [Im 19 6, Io 20 (.call 36 [(.t 19)])])
 (.seq (.seq (.rg [Im 21 6, Ink 22 21, If 23 3 22, Il 24 1 23, Io 25 (.bi .neq .i64 (.t 24) (.k (.int .i64 0)))])
 (.cond (.t 25) (.seq (.reg [0, 1, 2, 3, 4, 5, 6] [Io 26 (.bld [.str [], .int .i64 0, .int .i64 0] []), Im 27 6, Ink 28 27, If 29 3 28, Il 30 1 29, ⟨none, none, .st 3 (.t 2) (.t 26), [4]⟩, Im 3 30])
 .ret) .skip))
 (.seq (.rg [Ilb 31 3 7, ⟨none, none, .st 3 (.t 2) (.t 31), []⟩, Imv 3 0])
 .ret))))))⟩
theorem ck14:chkFn Tryz.prog 14 ir14=true:=by kernel_rfl
def ir15 : AFn := ⟨58, 2, [.t 4], .seq (.rg [Ibx 2 0, Ibx 3 1, Imb 4 false])
 (.seq (.seq (.rg [If 6 0 2, Il 7 1 6, If 8 0 3, Il 9 1 8, Io 10 (.bi .neq .i64 (.t 7) (.t 9)), Im 11 10, Fa 12 11 1 2, Fl 13 11 1 12, Fa 14 11 1 3, Fl 15 11 1 14, Jf 16 11 (.bi .neq .i64 (.t 13) (.t 15)), Ipt 17 11 16, Im 18 17, Fa 19 18 2 2, Fl 20 18 1 19, Fa 21 18 2 3, Fl 22 18 1 21, Jf 23 18 (.bs .neq (.t 20) (.t 22)), Ipt 24 18 23, Im 25 24, Fa 26 25 3 2, Fl 27 25 1 26, Jf 28 25 (.len (.t 27)), Fa 29 25 3 3, Fl 30 25 1 29, Jf 31 25 (.len (.t 30)), Jf 32 25 (.bi .neq .i64 (.t 28) (.t 31)), Ipt 33 25 32])
 (.cond (.t 33) (.seq (.rg [Imb 4 false])
 .ret) .skip))
 (.seq (.seq (.rg [Imv 5 0])
 (.block 0 (.loop [2, 3, 5] (.seq (.seq (.rg [Im 34 5, If 35 3 2, Il 36 1 35, Iln 37 36, Ilt 38 34 37])
 (.cond (.t 38) .skip (.exit 0)))
 (.seq (.block 1 (.seq (.reg [0, 1, 2, 3, 4, 5, 6, 7, 8, 9, 10, 11] [If 41 3 2, Il 42 1 41, Im 43 5, Iia 44 5 42 43, Ilb 45 5 44, If 46 3 3, Il 47 1 46, Im 48 5, Iia 49 5 47 48, Ilb 50 5 49, Io 51 (.call 15 [(.t 45), (.t 50)]), Ing 52 51])
 (.cond (.t 52) (.seq (.rg [Imb 4 false])
 .ret) .skip)))
 (.rg [Im 39 5, Iai 40 39 1, Im 5 40]))))))
 (.seq (.rg [If 53 4 2, Il 54 1 53, If 55 4 3, Il 56 1 55, Io 57 (.call 40 [(.t 54), (.t 56)]), Im 4 57])
 .ret)))⟩
theorem ck15:chkFn Tryz.prog 15 ir15=true:=by kernel_rfl
def ir24 : AFn := ⟨47, 1, [.t 2, .t 3], .seq (.rg [Io 2 (.mv (.k (.sl .nil 2 []))), Imv 3 0])
 (.scope (.seq (.block 0 (.seq (.rg [Im 10 0, Ils 11 10, Igi 12 11 8192, Im 9 12])
 (.cond (.t 9) (.seq (.rg [Io 2 (.mv (.k (.sl .nil 2 []))), Imv 3 3])
 .ret) (.seq (.rg [Im 14 0, Io 15 (.call 58 [(.t 14)]), Ing 16 15, Im 13 16])
 (.cond (.t 13) (.seq (.rg [Io 2 (.mv (.k (.sl .nil 2 []))), Imv 3 2])
 .ret) .skip)))))
 (.seq (.rg [Io 4 (.mv (.k (.sl .nil 2 [])))])
 (.seq .skip
 (.seq (.seq (.rg [Imv 5 0])
 (.block 1 (.loop [0, 4, 5] (.seq (.seq (.rg [Im 17 5, Im 18 0, Ils 19 18, Ilt 20 17 19])
 (.cond (.t 20) .skip (.exit 1)))
 (.block 2 (.seq (.seq (.rg [Im 21 0, Im 22 5, Io 23 (.sls (.t 21) (some (.t 22)) none), Io 24 (.call 59 [(.t 23)]), Im 6 24])
 (.seq (.rg [Im 25 6, Igi 26 25 0])
 (.cond (.t 26) (.seq (.rg [Im 27 5, Im 28 6, Iad 29 27 28, Im 5 29])
 (.exit 2)) .skip)))
 (.seq (.rg [Im 31 0, Im 32 5, Io 33 (.sls (.t 31) (some (.t 32)) none), Io 34 (.call 60 [(.t 33)]), Im 30 34, Iex 35 30 0, Iex 36 30 1, Io 7 (.alloc [.int .i64 0, .str []]), ⟨none, none, .st 2 (.t 7) (.t 35), []⟩, Im 8 36])
 (.seq (.seq (.rg [Im 37 8, Iei 38 37 0])
 (.cond (.t 38) (.seq (.rg [Io 2 (.mv (.k (.sl .nil 2 []))), Imv 3 2])
 .ret) .skip))
 (.seq (.rg [Im 39 4, Ilb 40 2 7, Io 41 (.bls 2 1 [.int .i64 0, .str []] [(0, (.t 40))]), Iap 42 2 24 39 41, Im 4 42])
 (.rg [Im 43 5, Im 44 8, Iad 45 43 44, Im 5 45]))))))))))
 (.seq (.rg [Im 46 4, Im 2 46, Imv 3 0])
 .ret))))))⟩
theorem ck24:chkFn Tryz.prog 24 ir24=true:=by kernel_rfl
def ir30 : AFn := ⟨14, 1, [.c 2 2 true, .t 3], .seq (.rg [Io 2 (.alloc [.sl .nil 5 [], .sl .nil 4 []]), Imv 3 0])
 (.seq (.rg [Io 4 (.alloc [.sl .nil 5 [], .sl .nil 4 []])])
 (.seq (.rg [Im 6 0, Io 7 (.mkfn 72 [] [(.t 4)]), Io 8 (.call 31 [(.t 6), (.t 7)]), Im 5 8])
 (.seq (.seq (.rg [Im 9 5, Io 10 (.bi .neq .i64 (.t 9) (.k (.int .i64 0)))])
 (.cond (.t 10) (.seq (.rg [Io 11 (.bld [.sl .nil 5 [], .sl .nil 4 []] []), Im 12 5, ⟨none, none, .st 2 (.t 2) (.t 11), []⟩, Im 3 12])
 .ret) .skip))
 (.seq (.rg [Ilb 13 2 4, ⟨none, none, .st 2 (.t 2) (.t 13), []⟩, Imv 3 0])
 .ret))))⟩
theorem ck30:chkFn Tryz.prog 30 ir30=true:=by kernel_rfl
def ir32:AFn:=⟨7,3,[],.rg [Im 4 0,Il 5 1 1,Io 6 (.call 33 [(.t 4),(.t 5)]),⟨none,none,.st 5 (.t 2) (.t 6),[]⟩]⟩
theorem ck32:chkFn Tryz.prog 32 ir32=true:=by kernel_rfl
def ir33 : AFn := ⟨109, 2, [.c 4 5 true], .seq (.rg [Io 4 (.alloc [.int .i64 0, .int .i64 0, .str [], .sl .nil 5 [], .sl .nil 6 []])])
 (.seq (.seq (.rg [Im 10 0, Io 11 (.call 76 [(.t 10)]), Io 5 (.alloc [.int .i64 0, .str []]), ⟨none, none, .st 2 (.t 5) (.t 11), []⟩])
 (.block 0 (.seq (.rg [If 13 0 5, Il 14 1 13, Iei 15 14 2, Im 12 15])
 (.cond (.t 12) (.seq (.rg [Im 16 0, Ink 17 16, If 18 1 17, Il 19 1 18, Iai 20 19 1, Ink 21 16, If 22 1 21, ⟨none, none, .st 1 (.t 22) (.t 20), []⟩])
 (.seq (.rg [If 23 1 5, Il 24 1 23, Io 25 (.call 77 [(.t 24)]), ⟨none, none, .st 5 (.t 4) (.t 25), []⟩])
 .ret)) (.seq (.rg [If 27 0 5, Il 28 1 27, Iei 29 28 3, Im 30 29, Fa 31 30 0 5, Fl 32 30 1 31, Jf 33 30 (.bi .eql .i64 (.t 32) (.k (.int .i64 4))), Ipt 34 30 33, Im 26 34])
 (.cond (.t 26) (.seq (.rg [Im 35 0, Ink 36 35, If 37 1 36, Il 38 1 37, Iai 39 38 1, Ink 40 35, If 41 1 40, ⟨none, none, .st 1 (.t 41) (.t 39), []⟩])
 (.seq (.seq (.rg [If 43 1 5, Il 44 1 43, Io 45 (.call 78 [(.t 44)]), Im 42 45, Iex 46 42 0, Iex 47 42 1, Im 6 46, Im 7 47])
 (.seq (.rg [Im 48 7])
 (.cond (.t 48) (.seq (.rg [Im 49 6, Io 50 (.call 79 [(.t 49)]), ⟨none, none, .st 5 (.t 4) (.t 50), []⟩])
 .ret) .skip)))
 (.seq (.rg [If 51 1 5, Il 52 1 51, Io 53 (.bld [.int .i64 0, .int .i64 0, .str [], .sl .nil 5 [], .sl .nil 6 []] [(0, 1, (.k (.int .i64 3))), (2, 1, (.t 52))]), ⟨none, none, .st 5 (.t 4) (.t 53), []⟩])
 .ret))) (.seq (.rg [If 55 0 5, Il 56 1 55, Iei 57 56 5, Im 54 57])
 (.cond (.t 54) (.seq (.rg [Im 58 0, Ink 59 58, If 60 1 59, Il 61 1 60, Iai 62 61 1, Ink 63 58, If 64 1 63, ⟨none, none, .st 1 (.t 64) (.t 62), []⟩])
 (.seq (.rg [If 65 1 5, Il 66 1 65, Io 67 (.call 80 [(.t 66)]), ⟨none, none, .st 5 (.t 4) (.t 67), []⟩])
 .ret)) (.seq (.rg [Im 69 0, Io 70 (.call 81 [(.t 69), (.k (.str [91]))]), Im 68 70])
 (.cond (.t 68) (.seq (.rg [Io 71 (.bld [.int .i64 0, .int .i64 0, .str [], .sl .nil 5 [], .sl .nil 6 []] [(0, 1, (.k (.int .i64 6)))]), Io 8 (.alloc [.int .i64 0, .int .i64 0, .str [], .sl .nil 5 [], .sl .nil 6 []]), ⟨none, none, .st 5 (.t 8) (.t 71), []⟩])
 (.seq (.block 1 (.loop [0, 1, 4, 8] (.seq (.seq (.rg [Im 72 0, Io 73 (.call 82 [(.t 72), (.k (.str [93]))]), Ing 74 73])
 (.cond (.t 74) .skip (.exit 1)))
 (.block 2 (.reg [0, 1, 2, 3, 4, 5, 6, 7, 8] [If 75 3 8, Il 76 1 75, Im 77 0, Im 78 1, ⟨some 79, none, .call 33 [(.t 77), (.t 78)], [1]⟩, Io 80 (.bls 5 1 [.int .i64 0, .int .i64 0, .str [], .sl .nil 5 [], .sl .nil 6 []] [(0, (.t 79))]), Iap 81 5 80 76 80, If 82 3 8, ⟨none, none, .st 1 (.t 82) (.t 81), []⟩])))))
 (.seq (.rg [Ilb 83 5 8, ⟨none, none, .st 5 (.t 4) (.t 83), []⟩])
 .ret))) (.seq (.rg [Im 85 0, Io 86 (.call 81 [(.t 85), (.k (.str [123]))]), Im 84 86])
 (.cond (.t 84) (.seq (.rg [Io 87 (.bld [.int .i64 0, .int .i64 0, .str [], .sl .nil 5 [], .sl .nil 6 []] [(0, 1, (.k (.int .i64 7)))]), Io 9 (.alloc [.int .i64 0, .int .i64 0, .str [], .sl .nil 5 [], .sl .nil 6 []]), ⟨none, none, .st 5 (.t 9) (.t 87), []⟩])
 (.seq (.block 3 (.loop [0, 1, 4, 9] (.seq (.seq (.rg [Im 88 0, Io 89 (.call 82 [(.t 88), (.k (.str [125]))]), Ing 90 89])
 (.cond (.t 90) .skip (.exit 3)))
 (.block 4 (.reg [0, 1, 2, 3, 4, 5, 6, 7, 8] [If 91 4 9, Il 92 1 91, Im 93 0, Im 94 1, ⟨some 95, none, .call 83 [(.t 93), (.t 94)], [1]⟩, Io 96 (.bls 6 1 [.str [], .int .i64 0, .int .i64 0, .str [], .sl .nil 5 [], .sl .nil 6 []] [(0, (.t 95))]), Iap 97 6 96 92 96, If 98 4 9, ⟨none, none, .st 1 (.t 98) (.t 97), []⟩])))))
 (.seq (.rg [Ilb 99 5 9, ⟨none, none, .st 5 (.t 4) (.t 99), []⟩])
 .ret))) (.seq (.rg [Im 101 1, Im 100 101])
 (.cond (.t 100) (.rg [Im 102 0, Io 103 (.call 75 [(.t 102), (.k (.int .i64 2))])]) .skip))))))))))))))
 (.seq (.rg [Im 104 0, Io 105 (.call 84 [(.t 104), (.k (.str [36]))])])
 (.seq (.rg [Im 106 0, Io 107 (.call 85 [(.t 106)]), Io 108 (.bld [.int .i64 0, .int .i64 0, .str [], .sl .nil 5 [], .sl .nil 6 []] [(0, 1, (.k (.int .i64 8))), (2, 1, (.t 107))]), ⟨none, none, .st 5 (.t 4) (.t 108), []⟩])
 .ret)))⟩
theorem ck33:chkFn Tryz.prog 33 ir33=true:=by kernel_rfl
def ir34 : AFn := ⟨39, 1, [.t 2, .t 3], .seq (.rg [Io 2 (.mv (.k (.sl .nil 2 []))), Imv 3 0])
 (.seq (.seq (.rg [Im 9 0, Ils 10 9, Igi 11 10 8192])
 (.cond (.t 11) (.seq (.rg [Io 2 (.mv (.k (.sl .nil 2 []))), Imv 3 3])
 .ret) .skip))
 (.seq (.seq (.rg [Im 12 0, Io 13 (.call 86 [(.t 12)]), Ing 14 13])
 (.cond (.t 14) (.seq (.rg [Io 2 (.mv (.k (.sl .nil 2 []))), Imv 3 2])
 .ret) .skip))
 (.seq (.rg [Io 4 (.mv (.k (.sl .nil 2 [])))])
 (.seq (.seq (.rg [Im 15 0, Io 16 (.call 87 [(.t 15), (.k (.int .i64 0))]), Im 5 16])
 (.block 0 (.loop [0, 4, 5] (.seq (.seq (.rg [Im 17 5, Im 18 0, Ils 19 18, Ilt 20 17 19])
 (.cond (.t 20) .skip (.exit 0)))
 (.seq (.block 1 (.seq (.rg [Im 25 0, Im 26 5, Io 27 (.call 88 [(.t 25), (.t 26)]), Im 24 27, Iex 28 24 0, Iex 29 24 1, Iex 30 24 2, Io 6 (.alloc [.int .i64 0, .str []]), ⟨none, none, .st 2 (.t 6) (.t 28), []⟩, Im 7 29, Im 8 30])
 (.seq (.seq (.rg [Im 31 8, Ing 32 31])
 (.cond (.t 32) (.seq (.rg [Io 2 (.mv (.k (.sl .nil 2 []))), Imv 3 2])
 .ret) .skip))
 (.rg [Im 33 4, Ilb 34 2 6, Io 35 (.bls 2 1 [.int .i64 0, .str []] [(0, (.t 34))]), Iap 36 2 24 33 35, Im 37 7, Im 4 36, Im 5 37]))))
 (.rg [Im 21 0, Im 22 5, Io 23 (.call 87 [(.t 21), (.t 22)]), Im 5 23]))))))
 (.seq (.rg [Im 38 4, Im 2 38, Imv 3 0])
 .ret)))))⟩
theorem ck34:chkFn Tryz.prog 34 ir34=true:=by kernel_rfl
def ir35 : AFn := ⟨143, 2, [.c 4 5 true], .seq (.rg [Io 4 (.alloc [.int .i64 0, .int .i64 0, .str [], .sl .nil 5 [], .sl .nil 6 []])])
 (.seq (.rg [Im 10 0, Io 11 (.call 45 [(.t 10)]), Io 5 (.alloc [.int .i64 0, .str []]), ⟨none, none, .st 2 (.t 5) (.t 11), []⟩])
 (.seq (.seq (.rg [If 12 0 5, Il 13 1 12])
 (.block 0 (.seq (.seq (.rg [Iei 15 13 3, Im 14 15])
 (.cond (.t 14) .skip (.rg [Iei 16 13 4, Im 14 16])))
 (.cond (.t 14) (.seq (.rg [Im 17 0, Ink 18 17, If 19 1 18, Il 20 1 19, Iai 21 20 1, Ink 22 17, If 23 1 22, ⟨none, none, .st 1 (.t 23) (.t 21), []⟩])
 (.seq (.rg [Imv 6 0, Imb 7 false])
 (.seq (.seq (.rg [If 24 0 5, Il 25 1 24, Iei 26 25 3])
 (.cond (.t 26) (.rg [If 28 1 5, Il 29 1 28, Io 30 (.call 89 [(.t 29)]), Im 27 30, Iex 31 27 0, Iex 32 27 1, Im 6 31, Im 7 32]) .skip))
 (.seq (.seq (.rg [Im 33 7])
 (.cond (.t 33) (.seq (.rg [Im 34 6, Io 35 (.call 90 [(.t 34)]), ⟨none, none, .st 5 (.t 4) (.t 35), []⟩])
 .ret) .skip))
 (.seq (.rg [If 36 1 5, Il 37 1 36, Io 38 (.bld [.int .i64 0, .int .i64 0, .str [], .sl .nil 5 [], .sl .nil 6 []] [(0, 1, (.k (.int .i64 3))), (2, 1, (.t 37))]), ⟨none, none, .st 5 (.t 4) (.t 38), []⟩])
 .ret))))) (.seq (.rg [Iei 40 13 5, Im 39 40])
 (.cond (.t 39) (.seq (.rg [Im 41 0, Ink 42 41, If 43 1 42, Il 44 1 43, Iai 45 44 1, Ink 46 41, If 47 1 46, ⟨none, none, .st 1 (.t 47) (.t 45), []⟩])
 (.seq (.rg [If 48 1 5, Il 49 1 48, Io 50 (.call 91 [(.t 49)]), ⟨none, none, .st 5 (.t 4) (.t 50), []⟩])
 .ret)) (.seq (.rg [Iei 52 13 2, Im 51 52])
 (.cond (.t 51) (.seq (.rg [Im 53 0, Ink 54 53, If 55 1 54, Il 56 1 55, Iai 57 56 1, Ink 58 53, If 59 1 58, ⟨none, none, .st 1 (.t 59) (.t 57), []⟩])
 (.seq (.seq (.rg [If 60 1 5, Il 61 1 60])
 (.block 1 (.seq (.rg [Io 63 (.bs .eql (.t 61) (.k (.str [110, 117, 108, 108]))), Im 62 63])
 (.cond (.t 62) (.seq (.rg [Io 64 (.bld [.int .i64 0, .int .i64 0, .str [], .sl .nil 5 [], .sl .nil 6 []] []), ⟨none, none, .st 5 (.t 4) (.t 64), []⟩])
 .ret) (.seq (.rg [Io 66 (.bs .eql (.t 61) (.k (.str [116, 114, 117, 101]))), Im 65 66])
 (.cond (.t 65) (.seq (.rg [Io 67 (.bld [.int .i64 0, .int .i64 0, .str [], .sl .nil 5 [], .sl .nil 6 []] [(0, 1, (.k (.int .i64 1))), (1, 1, (.k (.int .i64 1)))]), ⟨none, none, .st 5 (.t 4) (.t 67), []⟩])
 .ret) (.seq (.rg [Io 69 (.bs .eql (.t 61) (.k (.str [102, 97, 108, 115, 101]))), Im 68 69])
 (.cond (.t 68) (.seq (.rg [Io 70 (.bld [.int .i64 0, .int .i64 0, .str [], .sl .nil 5 [], .sl .nil 6 []] [(0, 1, (.k (.int .i64 1)))]), ⟨none, none, .st 5 (.t 4) (.t 70), []⟩])
 .ret) .skip))))))))
 (.seq (.rg [If 71 1 5, Il 72 1 71, Io 73 (.bld [.int .i64 0, .int .i64 0, .str [], .sl .nil 5 [], .sl .nil 6 []] [(0, 1, (.k (.int .i64 5))), (2, 1, (.t 72))]), ⟨none, none, .st 5 (.t 4) (.t 73), []⟩])
 .ret))) .skip))))))))
 (.seq (.block 2 (.seq (.rg [Im 75 0, Io 76 (.call 92 [(.t 75), (.k (.str [36]))]), Im 77 76, Jm 78 77 1, Jt 79 77 (.not (.t 78)), Ipf 80 77 79, Im 74 80])
 (.cond (.t 74) (.seq (.rg [Im 81 0, Io 82 (.call 93 [(.t 81), (.k (.str [36]))])])
 (.seq (.rg [Im 83 0, Io 84 (.call 46 [(.t 83)]), Io 85 (.bld [.int .i64 0, .int .i64 0, .str [], .sl .nil 5 [], .sl .nil 6 []] [(0, 1, (.k (.int .i64 8))), (2, 1, (.t 84))]), ⟨none, none, .st 5 (.t 4) (.t 85), []⟩])
 .ret)) (.seq (.rg [Im 87 0, Io 88 (.call 92 [(.t 87), (.k (.str [91]))]), Im 86 88])
 (.cond (.t 86) (.seq (.rg [Io 89 (.bld [.int .i64 0, .int .i64 0, .str [], .sl .nil 5 [], .sl .nil 6 []] [(0, 1, (.k (.int .i64 6)))]), Io 8 (.alloc [.int .i64 0, .int .i64 0, .str [], .sl .nil 5 [], .sl .nil 6 []]), ⟨none, none, .st 5 (.t 8) (.t 89), []⟩])
 (.seq (.rg [Im 90 0, Io 91 (.call 94 [(.t 90), (.k (.str [91]))])])
 (.seq (.block 3 (.loop [0, 1, 4, 8] (.seq (.seq (.rg [Im 92 0, Ink 93 92, If 94 3 93, Il 95 1 94, Iei 96 95 0, Im 97 96, Jm 98 97 0, Jt 99 97 (.call 92 [(.t 98), (.k (.str [93]))]), Jt 100 97 (.not (.t 99)), Ipf 101 97 100])
 (.cond (.t 101) .skip (.exit 3)))
 (.block 4 (.reg [0, 1, 2, 3, 4, 5, 6, 7, 8] [If 102 3 8, Il 103 1 102, Im 104 0, Im 105 1, ⟨some 106, none, .call 35 [(.t 104), (.t 105)], [1]⟩, Io 107 (.bls 5 1 [.int .i64 0, .int .i64 0, .str [], .sl .nil 5 [], .sl .nil 6 []] [(0, (.t 106))]), Iap 108 5 80 103 107, If 109 3 8, ⟨none, none, .st 1 (.t 109) (.t 108), []⟩])))))
 (.seq (.rg [Im 110 0, Io 111 (.call 95 [(.t 110), (.k (.str [93]))])])
 (.seq (.rg [Ilb 112 5 8, ⟨none, none, .st 5 (.t 4) (.t 112), []⟩])
 .ret))))) (.seq (.rg [Im 114 0, Io 115 (.call 92 [(.t 114), (.k (.str [123]))]), Im 113 115])
 (.cond (.t 113) (.seq (.rg [Im 116 0, Io 117 (.call 94 [(.t 116), (.k (.str [123]))])])
 (.seq (.rg [Io 118 (.bld [.int .i64 0, .int .i64 0, .str [], .sl .nil 5 [], .sl .nil 6 []] [(0, 1, (.k (.int .i64 7)))]), Io 9 (.alloc [.int .i64 0, .int .i64 0, .str [], .sl .nil 5 [], .sl .nil 6 []]), ⟨none, none, .st 5 (.t 9) (.t 118), []⟩])
 (.seq (.block 5 (.loop [0, 1, 4, 9] (.seq (.seq (.rg [Im 119 0, Ink 120 119, If 121 3 120, Il 122 1 121, Iei 123 122 0, Im 124 123, Jm 125 124 0, Jt 126 124 (.call 92 [(.t 125), (.k (.str [125]))]), Jt 127 124 (.not (.t 126)), Ipf 128 124 127])
 (.cond (.t 128) .skip (.exit 5)))
 (.block 6 (.reg [0, 1, 2, 3, 4, 5, 6, 7, 8] [If 129 4 9, Il 130 1 129, Im 131 0, Im 132 1, ⟨some 133, none, .call 96 [(.t 131), (.t 132)], [1]⟩, Io 134 (.bls 6 1 [.str [], .int .i64 0, .int .i64 0, .str [], .sl .nil 5 [], .sl .nil 6 []] [(0, (.t 133))]), Iap 135 6 96 130 134, If 136 4 9, ⟨none, none, .st 1 (.t 136) (.t 135), []⟩])))))
 (.seq (.rg [Im 137 0, Io 138 (.call 95 [(.t 137), (.k (.str [125]))])])
 (.seq (.rg [Ilb 139 5 9, ⟨none, none, .st 5 (.t 4) (.t 139), []⟩])
 .ret))))) .skip)))))))
 (.seq (.rg [Im 140 0, Io 141 (.call 50 [(.t 140), (.k (.int .i64 2))])])
 (.seq (.rg [Io 142 (.bld [.int .i64 0, .int .i64 0, .str [], .sl .nil 5 [], .sl .nil 6 []] []), ⟨none, none, .st 5 (.t 4) (.t 142), []⟩])
 .ret)))))⟩
theorem ck35:chkFn Tryz.prog 35 ir35=true:=by kernel_rfl
def ir36 : AFn := ⟨14, 1, [], .seq (.reg [0, 1, 2, 3, 4, 5, 6, 7, 8, 9] [Im 2 0, Ink 3 2, If 4 1 3, Il 5 1 4, Im 6 0, Ink 7 6, If 8 0 7, Il 9 1 8, Iln 10 9, Ilt 11 5 10])
 (.cond (.t 11) (.rg [Im 12 0, Io 13 (.call 50 [(.t 12), (.k (.int .i64 2))])]) .skip)⟩
theorem ck36:chkFn Tryz.prog 36 ir36=true:=by kernel_rfl
def ir37:AFn:=⟨5,2,[],.rg [Im 3 0,Io 4 (.call 38 [(.t 3)]),⟨none,none,.st 3 (.t 1) (.t 4),[]⟩]⟩
theorem ck37:chkFn Tryz.prog 37 ir37=true:=by kernel_rfl
def ir38 : AFn := ⟨44, 1, [.c 2 3 true], .seq (.rg [Io 2 (.alloc [.str [], .int .i64 0, .int .i64 0])])
 (.seq (.rg [Imv 3 0])
 (.seq (.block 0 (.loop [0, 2, 3] (.seq (.seq (.rg [Im 6 0, Io 7 (.call 97 [(.t 6), (.k (.str [91]))])])
 (.cond (.t 7) .skip (.exit 0)))
 (.block 1 (.seq (.seq (.rg [Im 8 3, Iei 9 8 4])
 (.cond (.t 9) (.rg [Im 10 0, Io 11 (.call 75 [(.t 10), (.k (.int .i64 4))])]) .skip))
 (.seq (.rg [Im 12 0, Ink 13 12, If 14 1 13, Il 15 1 14, Iai 16 15 1, Ink 17 12, If 18 1 17, ⟨none, none, .st 1 (.t 18) (.t 16), []⟩])
 (.rg [Im 19 3, Iai 20 19 1, Im 3 20])))))))
 (.seq (.rg [Im 21 0, Io 22 (.call 85 [(.t 21)]), Im 23 3, Io 24 (.bld [.str [], .int .i64 0, .int .i64 0] [(0, 1, (.t 22)), (1, 1, (.t 23))]), Io 4 (.alloc [.str [], .int .i64 0, .int .i64 0]), ⟨none, none, .st 3 (.t 4) (.t 24), []⟩])
 (.seq (.seq (.rg [Im 25 3, Im 5 25])
 (.block 2 (.loop [0, 2, 3, 4, 5] (.seq (.seq (.rg [Im 26 5, Io 27 (.bi .geq .i64 (.t 26) (.k (.int .i64 0)))])
 (.cond (.t 27) .skip (.exit 2)))
 (.seq (.block 3 (.seq (.seq (.rg [Im 30 5, Im 31 3, Ilt 32 30 31])
 (.cond (.t 32) (.rg [Im 33 0, Io 34 (.call 84 [(.t 33), (.k (.str [93]))])]) .skip))
 (.seq (.rg [Im 35 0, Io 36 (.call 98 [(.t 35), (.k (.str [33]))])])
 (.cond (.t 36) (.reg [0, 1, 2, 3, 4, 5, 6] [If 37 2 4, Il 38 1 37, Im 39 5, Io 40 (.shf .shl (.k (.int .i64 1)) (.t 39)), Io 41 (.bi .or .i64 (.t 38) (.t 40)), If 42 2 4, ⟨none, none, .st 1 (.t 42) (.t 41), []⟩]) .skip))))
 (.rg [Im 28 5, Isi 29 28 1, Im 5 29]))))))
 (.seq (.rg [Ilb 43 3 4, ⟨none, none, .st 3 (.t 2) (.t 43), []⟩])
 .ret)))))⟩
theorem ck38:chkFn Tryz.prog 38 ir38=true:=by kernel_rfl
def ir39 : AFn := ⟨42, 2, [.c 4 3 true], .seq (.rg [Io 4 (.alloc [.str [], .int .i64 0, .int .i64 0])])
 (.seq (.rg [Io 6 (.bld [.str [], .int .i64 0, .int .i64 0] []), Io 5 (.alloc [.str [], .int .i64 0, .int .i64 0]), ⟨none, none, .st 3 (.t 5) (.t 6), []⟩])
 (.seq (.seq (.rg [Im 7 0, Io 8 (.call 92 [(.t 7), (.k (.str [91]))])])
 (.cond (.t 8) (.seq (.seq (.rg [Im 9 1, Io 10 (.bi .geq .i64 (.t 9) (.k (.int .i64 4)))])
 (.cond (.t 10) (.seq (.rg [Im 11 0, Io 12 (.call 50 [(.t 11), (.k (.int .i64 4))])])
 (.seq (.rg [Ilb 13 3 5, ⟨none, none, .st 3 (.t 4) (.t 13), []⟩])
 .ret)) .skip))
 (.seq (.rg [Im 14 0, Io 15 (.call 93 [(.t 14), (.k (.str [91]))])])
 (.seq (.rg [Im 16 0, Im 17 1, Iai 18 17 1, Io 19 (.call 39 [(.t 16), (.t 18)]), ⟨none, none, .st 3 (.t 5) (.t 19), []⟩])
 (.seq (.rg [Im 20 0, Io 21 (.call 93 [(.t 20), (.k (.str [93]))])])
 (.rg [If 22 1 5, Il 23 1 22, Iai 24 23 1, If 25 2 5, Il 26 1 25, Io 27 (.shf .shl (.t 26) (.k (.int .u64 1))), If 28 1 5, ⟨none, none, .st 1 (.t 28) (.t 24), []⟩, If 29 2 5, ⟨none, none, .st 1 (.t 29) (.t 27), []⟩]))))) (.rg [Im 30 0, Io 31 (.call 46 [(.t 30)]), If 32 0 5, ⟨none, none, .st 1 (.t 32) (.t 31), []⟩])))
 (.seq (.seq (.rg [Im 33 0, Io 34 (.call 92 [(.t 33), (.k (.str [33]))])])
 (.cond (.t 34) (.seq (.rg [Im 35 0, Io 36 (.call 93 [(.t 35), (.k (.str [33]))])])
 (.rg [If 37 2 5, Il 38 1 37, Io 39 (.bi .or .i64 (.t 38) (.k (.int .i64 1))), If 40 2 5, ⟨none, none, .st 1 (.t 40) (.t 39), []⟩])) .skip))
 (.seq (.rg [Ilb 41 3 5, ⟨none, none, .st 3 (.t 4) (.t 41), []⟩])
 .ret))))⟩
theorem ck39:chkFn Tryz.prog 39 ir39=true:=by kernel_rfl
def ir40 : AFn := ⟨42, 2, [.t 4], .seq (.rg [Imb 4 false])
 (.seq (.seq (.rg [Im 6 0, Iln 7 6, Im 8 1, Iln 9 8, Io 10 (.bi .neq .i64 (.t 7) (.t 9))])
 (.cond (.t 10) (.seq (.rg [Imb 4 false])
 .ret) .skip))
 (.seq (.seq (.rg [Imv 5 0])
 (.block 0 (.loop [0, 1, 5] (.seq (.seq (.rg [Im 11 5, Im 12 0, Iln 13 12, Ilt 14 11 13])
 (.cond (.t 14) .skip (.exit 0)))
 (.seq (.block 1 (.seq (.reg [0, 1, 2, 3, 4, 5, 6, 7, 8, 9, 10, 11, 12, 13, 14, 15, 16, 17, 18, 19, 20, 21, 22, 23, 24] [Im 17 0, Im 18 5, Iia 19 6 17 18, If 20 0 19, Il 21 1 20, Im 22 1, Im 23 5, Iia 24 6 22 23, If 25 0 24, Il 26 1 25, Io 27 (.bs .neq (.t 21) (.t 26)), Im 28 27, Fm 29 28 0, Fm 30 28 5, Jf 31 28 (.ia 6 (.t 29) (.t 30)), Fa 32 28 1 31, Jf 33 28 (.ld 5 true (.t 32)), Fm 34 28 1, Fm 35 28 5, Jf 36 28 (.ia 6 (.t 34) (.t 35)), Fa 37 28 1 36, Jf 38 28 (.ld 5 true (.t 37)), Jf 39 28 (.call 15 [(.t 33), (.t 38)]), Jf 40 28 (.not (.t 39)), Ipt 41 28 40])
 (.cond (.t 41) (.seq (.rg [Imb 4 false])
 .ret) .skip)))
 (.rg [Im 15 5, Iai 16 15 1, Im 5 16]))))))
 (.seq (.rg [Imb 4 true])
 .ret)))⟩
theorem ck40:chkFn Tryz.prog 40 ir40=true:=by kernel_rfl
def ir43 : AFn := ⟨13, 1, [.t 2], .seq (.rg [Imb 2 false])
 (.seq (.reg [0, 1, 2, 3, 4, 5, 6, 7, 8, 9, 10] [Im 3 0, Ink 4 3, If 5 1 4, Il 6 1 5, Im 7 0, Ink 8 7, If 9 0 8, Il 10 1 9, Iln 11 10, Ilt 12 6 11, Im 2 12])
 .ret)⟩
theorem ck43:chkFn Tryz.prog 43 ir43=true:=by kernel_rfl
def ir45 : AFn := ⟨31, 1, [.c 2 2 true], .seq (.rg [Io 2 (.alloc [.int .i64 0, .str []])])
 (.seq (.seq (.reg [0, 1, 2, 3, 4, 5, 6, 7, 8, 9, 10, 11, 12, 13, 14, 15, 16] [Im 3 0, Ink 4 3, If 5 3 4, Il 6 1 5, Io 7 (.bi .neq .i64 (.t 6) (.k (.int .i64 0))), Im 8 7, Fm 9 8 0, Jf 10 8 (.nilchk (.t 9)), Fa 11 8 1 10, Fl 12 8 1 11, Fm 13 8 0, Jf 14 8 (.nilchk (.t 13)), Fa 15 8 0 14, Fl 16 8 1 15, Jf 17 8 (.len (.t 16)), Jf 18 8 (.bi .geq .i64 (.t 12) (.t 17)), Ipt 19 8 18])
 (.cond (.t 19) (.seq (.rg [Io 20 (.bld [.int .i64 0, .str []] []), ⟨none, none, .st 2 (.t 2) (.t 20), []⟩])
 .ret) .skip))
 (.seq (.reg [0, 1, 2, 3, 4, 5, 6, 7, 8, 9, 10] [Im 21 0, Ink 22 21, If 23 0 22, Il 24 1 23, Im 25 0, Ink 26 25, If 27 1 26, Il 28 1 27, Iia 29 2 24 28, Ilb 30 2 29, ⟨none, none, .st 2 (.t 2) (.t 30), []⟩])
 .ret))⟩
theorem ck45:chkFn Tryz.prog 45 ir45=true:=by kernel_rfl
def ir46 : AFn := ⟨20, 1, [.t 2], .seq (.rg [Io 2 (.mv (.k (.str [])))])
 (.seq (.rg [Im 4 0, Io 5 (.call 45 [(.t 4)]), Io 3 (.alloc [.int .i64 0, .str []]), ⟨none, none, .st 2 (.t 3) (.t 5), []⟩])
 (.seq (.seq (.rg [If 6 0 3, Il 7 1 6, Io 8 (.bi .neq .i64 (.t 7) (.k (.int .i64 2)))])
 (.cond (.t 8) (.seq (.rg [Im 9 0, Io 10 (.call 50 [(.t 9), (.k (.int .i64 2))])])
 (.seq (.rg [Io 2 (.mv (.k (.str [])))])
 .ret)) .skip))
 (.seq (.rg [Im 11 0, Ink 12 11, If 13 1 12, Il 14 1 13, Iai 15 14 1, Ink 16 11, If 17 1 16, ⟨none, none, .st 1 (.t 17) (.t 15), []⟩])
 (.seq (.rg [If 18 1 3, Il 19 1 18, Im 2 19])
 .ret))))⟩
theorem ck46:chkFn Tryz.prog 46 ir46=true:=by kernel_rfl
def ir50 : AFn := ⟨13, 2, [], .seq (.rg [Im 4 0, Ink 5 4, If 6 3 5, Il 7 1 6, Iei 8 7 0])
 (.cond (.t 8) (.rg [Im 9 0, Im 10 1, Ink 11 9, If 12 3 11, ⟨none, none, .st 1 (.t 12) (.t 10), []⟩]) .skip)⟩
theorem ck50:chkFn Tryz.prog 50 ir50=true:=by kernel_rfl
def ir58 : AFn := ⟨25, 1, [.t 2], .seq (.rg [Imb 2 false])
 (.scope (.seq .skip
 (.seq (.seq (.rg [Imv 3 0])
 (.block 0 (.loop [0, 3] (.seq (.seq (.rg [Im 6 3, Im 7 0, Ils 8 7, Ilt 9 6 8])
 (.cond (.t 9) .skip (.exit 0)))
 (.block 1 (.seq (.seq (.rg [Im 11 0, Im 12 3, Io 13 (.call 115 [(.t 11), (.t 12)]), Im 10 13, Iex 14 10 0, Iex 15 10 1, Im 4 14, Im 5 15])
 (.seq (.rg [Im 16 5, Igi 17 16 0, Im 18 17, Jm 19 18 4, Jt 20 18 (.call 116 [(.t 19)]), Ipf 21 18 20])
 (.cond (.t 21) (.seq (.rg [Im 22 3, Im 23 5, Iad 24 22 23, Im 3 24])
 (.exit 1)) .skip)))
 (.seq (.rg [Imb 2 false])
 .ret)))))))
 (.seq (.rg [Imb 2 true])
 .ret))))⟩
theorem ck58:chkFn Tryz.prog 58 ir58=true:=by kernel_rfl
def ir59 : AFn := ⟨39, 1, [.t 2], .seq (.rg [Imv 2 0])
 (.seq (.seq (.rg [Im 5 0, Io 6 (.ixs (.t 5) (.k (.int .i64 0))), Im 3 6])
 (.block 0 (.seq (.rg [Im 8 3, Io 9 (.bi .eql .u8 (.t 8) (.k (.int .u8 9))), Im 10 9, Fm 11 10 3, Jf 12 10 (.bi .eql .u8 (.t 11) (.k (.int .u8 10))), Ipt 13 10 12, Im 14 13, Fm 15 14 3, Jf 16 14 (.bi .eql .u8 (.t 15) (.k (.int .u8 13))), Ipt 17 14 16, Im 18 17, Fm 19 18 3, Jf 20 18 (.bi .eql .u8 (.t 19) (.k (.int .u8 32))), Ipt 21 18 20, Im 22 21, Fm 23 22 3, Jf 24 22 (.bi .eql .u8 (.t 23) (.k (.int .u8 44))), Ipt 25 22 24, Im 7 25])
 (.cond (.t 7) (.seq (.rg [Imv 2 1])
 .ret) (.seq (.rg [Im 27 0, Io 28 (.call 117 [(.t 27), (.k (.str [239, 187, 191]))]), Im 26 28])
 (.cond (.t 26) (.seq (.rg [Imv 2 3])
 .ret) (.seq (.rg [Im 30 3, Io 31 (.bi .eql .u8 (.t 30) (.k (.int .u8 35))), Im 29 31])
 (.cond (.t 29) (.seq (.seq (.rg [Im 32 0, Io 33 (.call 118 [(.t 32), (.k (.str [13, 10]))]), Im 4 33])
 (.seq (.rg [Im 34 4, Io 35 (.bi .geq .i64 (.t 34) (.k (.int .i64 0)))])
 (.cond (.t 35) (.seq (.rg [Im 36 4, Im 2 36])
 .ret) .skip)))
 (.seq (.rg [Im 37 0, Ils 38 37, Im 2 38])
 .ret)) .skip))))))))
 (.seq (.rg [Imv 2 0])
 .ret))⟩
theorem ck59:chkFn Tryz.prog 59 ir59=true:=by kernel_rfl
def ir60 : AFn := ⟨91, 1, [.c 2 2 true, .t 3], .seq (.rg [Io 2 (.alloc [.int .i64 0, .str []]), Imv 3 0])
 (.seq (.rg [Im 12 0, Io 13 (.ixs (.t 12) (.k (.int .i64 0))), Im 4 13])
 (.seq (.block 0 (.seq (.rg [Im 15 0, Io 16 (.call 117 [(.t 15), (.k (.str [34, 34, 34]))]), Im 14 16])
 (.cond (.t 14) (.seq (.rg [Im 18 0, Io 19 (.call 119 [(.t 18)]), Im 17 19, Iex 20 17 0, Iex 21 17 1, Im 5 20, Im 6 21])
 (.seq (.rg [Im 22 5, Io 23 (.bld [.int .i64 0, .str []] [(0, 1, (.k (.int .i64 5))), (1, 1, (.t 22))]), Im 24 6, ⟨none, none, .st 2 (.t 2) (.t 23), []⟩, Im 3 24])
 .ret)) (.seq (.rg [Im 26 4, Io 27 (.bi .eql .u8 (.t 26) (.k (.int .u8 34))), Im 25 27])
 (.cond (.t 25) (.seq (.rg [Im 29 0, Io 30 (.call 120 [(.t 29), (.k (.clo 121 [] []))]), Im 28 30, Iex 31 28 0, Iex 32 28 1, Im 7 31, Im 8 32])
 (.seq (.rg [Im 33 7, Io 34 (.bld [.int .i64 0, .str []] [(0, 1, (.k (.int .i64 5))), (1, 1, (.t 33))]), Im 35 8, ⟨none, none, .st 2 (.t 2) (.t 34), []⟩, Im 3 35])
 .ret)) (.seq (.rg [Im 37 0, Io 38 (.call 117 [(.t 37), (.k (.str [46, 46, 46]))]), Im 36 38])
 (.cond (.t 36) (.seq (.rg [Io 39 (.bld [.int .i64 0, .str []] [(0, 1, (.k (.int .i64 1))), (1, 1, (.k (.str [46, 46, 46])))]), ⟨none, none, .st 2 (.t 2) (.t 39), []⟩, Imv 3 3])
 .ret) (.seq (.rg [Im 41 4, Io 42 (.call 122 [(.k (.str [33, 36, 38, 40, 41, 58, 61, 64, 91, 93, 123, 124, 125])), (.t 41)]), Io 43 (.bi .geq .i64 (.t 42) (.k (.int .i64 0))), Im 40 43])
 (.cond (.t 40) (.seq (.rg [Im 44 0, Io 45 (.sls (.t 44) none (some (.k (.int .i64 1)))), Io 46 (.bld [.int .i64 0, .str []] [(0, 1, (.k (.int .i64 1))), (1, 1, (.t 45))]), ⟨none, none, .st 2 (.t 2) (.t 46), []⟩, Imv 3 1])
 .ret) (.seq (.rg [Im 48 4, Io 49 (.call 123 [(.t 48)]), Im 47 49])
 (.cond (.t 47) (.seq (.rg [Im 50 0, Io 51 (.call 124 [(.t 50)]), Im 9 51])
 (.seq (.rg [Im 52 0, Im 53 9, Io 54 (.sls (.t 52) none (some (.t 53))), Io 55 (.bld [.int .i64 0, .str []] [(0, 1, (.k (.int .i64 2))), (1, 1, (.t 54))]), Im 56 9, ⟨none, none, .st 2 (.t 2) (.t 55), []⟩, Im 3 56])
 .ret)) .skip)))))))))))
 (.seq (.rg [Im 58 0, Io 59 (.call 125 [(.t 58)]), Im 57 59, Iex 60 57 0, Iex 61 57 1, Im 10 60, Im 11 61])
 (.seq (.seq (.rg [Im 62 10, Im 63 0, Ils 64 63, Ilt 65 62 64, Im 66 65, Jm 67 66 0, Jm 68 66 10, Jt 69 66 (.ixs (.t 67) (.t 68)), Jt 70 66 (.call 123 [(.t 69)]), Jm 71 66 70, Fm 72 71 0, Fm 73 71 10, Jf 74 71 (.ixs (.t 72) (.t 73)), Jf 75 71 (.call 126 [(.t 74)]), Jt 76 66 (.pick (.t 71) (.k (.bool true)) (.t 75)), Jm 77 66 76, Fm 78 77 0, Fm 79 77 10, Jf 80 77 (.ixs (.t 78) (.t 79)), Jf 81 77 (.bi .eql .u8 (.t 80) (.k (.int .u8 46))), Jt 82 66 (.pick (.t 77) (.k (.bool true)) (.t 81)), Ipf 83 66 82])
 (.cond (.t 83) (.seq (.rg [Io 84 (.bld [.int .i64 0, .str []] []), ⟨none, none, .st 2 (.t 2) (.t 84), []⟩, Imv 3 0])
 .ret) .skip))
 (.seq (.rg [Im 85 11, Im 86 0, Im 87 10, Io 88 (.sls (.t 86) none (some (.t 87))), Io 89 (.bld [.int .i64 0, .str []] [(0, 1, (.t 85)), (1, 1, (.t 88))]), Im 90 10, ⟨none, none, .st 2 (.t 2) (.t 89), []⟩, Im 3 90])
 .ret)))))⟩
theorem ck60:chkFn Tryz.prog 60 ir60=true:=by kernel_rfl
def ir72 : AFn := ⟨9, 2, [], .seq (.rg [Im 3 0, Io 4 (.call 73 [(.t 3), (.t 1)])])
 (.block 0 (.loop [0, 1] (.seq (.seq (.rg [Im 5 0, Io 6 (.call 43 [(.t 5)])])
 (.cond (.t 6) .skip (.exit 0)))
 (.block 1 (.rg [Im 7 0, Io 8 (.call 73 [(.t 7), (.t 1)])])))))⟩
theorem ck72:chkFn Tryz.prog 72 ir72=true:=by kernel_rfl
def ir73 : AFn := ⟨63, 2, [], .block 0 (.seq (.rg [Im 7 0, Io 8 (.call 97 [(.t 7), (.k (.str [123]))]), Im 6 8])
 (.cond (.t 6) (.reg [0, 1, 2, 3, 4, 5, 6, 7, 8, 9, 10, 11, 12] [Im 9 1, Im 10 1, Ink 11 10, If 12 0 11, Il 13 1 12, Im 14 0, ⟨some 15, none, .call 148 [(.t 14)], [4]⟩, Io 16 (.bld [.int .i64 0, .str [], .sl .nil 10 [], .sl .nil 2 [], .sl .nil 7 []] [(4, 1, (.t 15))]), Io 17 (.bls 5 1 [.int .i64 0, .str [], .sl .nil 10 [], .sl .nil 2 [], .sl .nil 7 []] [(0, (.t 16))]), Iap 18 5 96 13 17, Ink 19 9, If 20 0 19, ⟨none, none, .st 1 (.t 20) (.t 18), []⟩]) (.seq (.rg [Im 22 0, Io 23 (.call 100 [(.t 22), (.k (.str [113, 117, 101, 114, 121]))]), Im 21 23])
 (.cond (.t 21) (.reg [0, 1, 2, 3, 4, 5, 6, 7, 8, 9, 10, 11] [Im 24 1, Im 25 1, Ink 26 25, If 27 0 26, Il 28 1 27, Im 29 0, ⟨some 30, none, .call 149 [(.t 29), (.k (.int .i64 0))], [4]⟩, Io 31 (.bls 5 1 [.int .i64 0, .str [], .sl .nil 10 [], .sl .nil 2 [], .sl .nil 7 []] [(0, (.t 30))]), Iap 32 5 96 28 31, Ink 33 24, If 34 0 33, ⟨none, none, .st 1 (.t 34) (.t 32), []⟩]) (.seq (.rg [Im 36 0, Io 37 (.call 100 [(.t 36), (.k (.str [109, 117, 116, 97, 116, 105, 111, 110]))]), Im 35 37])
 (.cond (.t 35) (.reg [0, 1, 2, 3, 4, 5, 6, 7, 8, 9, 10, 11] [Im 38 1, Im 39 1, Ink 40 39, If 41 0 40, Il 42 1 41, Im 43 0, ⟨some 44, none, .call 149 [(.t 43), (.k (.int .i64 1))], [4]⟩, Io 45 (.bls 5 1 [.int .i64 0, .str [], .sl .nil 10 [], .sl .nil 2 [], .sl .nil 7 []] [(0, (.t 44))]), Iap 46 5 96 42 45, Ink 47 38, If 48 0 47, ⟨none, none, .st 1 (.t 48) (.t 46), []⟩]) (.seq (.rg [Im 50 0, Io 51 (.call 100 [(.t 50), (.k (.str [102, 114, 97, 103, 109, 101, 110, 116]))]), Im 49 51])
 (.cond (.t 49) (.reg [0, 1, 2, 3, 4, 5, 6, 7, 8, 9, 10, 11] [Im 52 1, Im 53 1, Ink 54 53, If 55 1 54, Il 56 1 55, Im 57 0, ⟨some 58, none, .call 150 [(.t 57)], [4]⟩, Io 59 (.bls 4 1 [.str [], .str [], .sl .nil 2 [], .sl .nil 7 []] [(0, (.t 58))]), Iap 60 4 80 56 59, Ink 61 52, If 62 1 61, ⟨none, none, .st 1 (.t 62) (.t 60), []⟩]) (.rg [Im 4 0, Io 5 (.call 75 [(.t 4), (.k (.int .i64 2))])])))))))))⟩
theorem ck73:chkFn Tryz.prog 73 ir73=true:=by kernel_rfl
def ir75:AFn:=⟨7,2,[],.rg [Im 4 1,Io 5 (.bld [.int .i64 0] [(0,1,(.t 4))]),Io 6 (.mki 120 (.t 5)),⟨none,none,.pan (.t 6),[]⟩]⟩
theorem ck75:chkFn Tryz.prog 75 ir75=true:=by kernel_rfl
def ir76 : AFn := ⟨17, 1, [.c 2 2 true], .seq (.rg [Io 2 (.alloc [.int .i64 0, .str []])])
 (.seq (.seq (.rg [Im 3 0, Io 4 (.call 43 [(.t 3)]), Ing 5 4])
 (.cond (.t 5) (.seq (.rg [Io 6 (.bld [.int .i64 0, .str []] []), ⟨none, none, .st 2 (.t 2) (.t 6), []⟩])
 .ret) .skip))
 (.seq (.reg [0, 1, 2, 3, 4, 5, 6, 7, 8, 9, 10] [Im 7 0, Ink 8 7, If 9 0 8, Il 10 1 9, Im 11 0, Ink 12 11, If 13 1 12, Il 14 1 13, Iia 15 2 10 14, Ilb 16 2 15, ⟨none, none, .st 2 (.t 2) (.t 16), []⟩])
 .ret))⟩
theorem ck76:chkFn Tryz.prog 76 ir76=true:=by kernel_rfl
def ir77 : AFn := ⟨15, 1, [.c 2 5 true], .seq (.rg [Io 2 (.alloc [.int .i64 0, .int .i64 0, .str [], .sl .nil 5 [], .sl .nil 6 []])])
 (.seq (.seq (.rg [Im 3 0])
 (.block 0 (.seq (.rg [Io 5 (.bs .eql (.t 3) (.k (.str [110, 117, 108, 108]))), Im 4 5])
 (.cond (.t 4) (.seq (.rg [Io 6 (.bld [.int .i64 0, .int .i64 0, .str [], .sl .nil 5 [], .sl .nil 6 []] []), ⟨none, none, .st 5 (.t 2) (.t 6), []⟩])
 .ret) (.seq (.rg [Io 8 (.bs .eql (.t 3) (.k (.str [116, 114, 117, 101]))), Im 7 8])
 (.cond (.t 7) (.seq (.rg [Io 9 (.bld [.int .i64 0, .int .i64 0, .str [], .sl .nil 5 [], .sl .nil 6 []] [(0, 1, (.k (.int .i64 1))), (1, 1, (.k (.int .i64 1)))]), ⟨none, none, .st 5 (.t 2) (.t 9), []⟩])
 .ret) (.seq (.rg [Io 11 (.bs .eql (.t 3) (.k (.str [102, 97, 108, 115, 101]))), Im 10 11])
 (.cond (.t 10) (.seq (.rg [Io 12 (.bld [.int .i64 0, .int .i64 0, .str [], .sl .nil 5 [], .sl .nil 6 []] [(0, 1, (.k (.int .i64 1)))]), ⟨none, none, .st 5 (.t 2) (.t 12), []⟩])
 .ret) .skip))))))))
 (.seq (.rg [Im 13 0, Io 14 (.bld [.int .i64 0, .int .i64 0, .str [], .sl .nil 5 [], .sl .nil 6 []] [(0, 1, (.k (.int .i64 5))), (2, 1, (.t 13))]), ⟨none, none, .st 5 (.t 2) (.t 14), []⟩])
 .ret))⟩
theorem ck77:chkFn Tryz.prog 77 ir77=true:=by kernel_rfl
def ir78 : AFn := ⟨19, 1, [.t 2, .t 3], .seq (.rg [Imv 2 0, Imb 3 false])
 (.seq (.rg [Im 7 0, Io 8 (.call 151 [(.t 7), (.k (.int .i64 10)), (.k (.int .i64 64))]), Im 6 8, Iex 9 6 0, Iex 10 6 1, Im 4 9, Im 5 10])
 (.seq (.rg [Im 11 4, Im 12 5, Io 13 (.ifnil false (.t 12)), Im 14 13, Jm 15 14 0, Jt 16 14 (.call 129 [(.t 15)]), Jt 17 14 (.bi .eql .i64 (.t 16) (.k (.int .i64 3))), Ipf 18 14 17, Im 2 11, Im 3 18])
 .ret))⟩
theorem ck78:chkFn Tryz.prog 78 ir78=true:=by kernel_rfl
def ir79 : AFn := ⟨5, 1, [.c 2 5 true], .seq (.rg [Io 2 (.alloc [.int .i64 0, .int .i64 0, .str [], .sl .nil 5 [], .sl .nil 6 []])])
 (.seq (.rg [Im 3 0, Io 4 (.bld [.int .i64 0, .int .i64 0, .str [], .sl .nil 5 [], .sl .nil 6 []] [(0, 1, (.k (.int .i64 2))), (1, 1, (.t 3))]), ⟨none, none, .st 5 (.t 2) (.t 4), []⟩])
 .ret)⟩
theorem ck79:chkFn Tryz.prog 79 ir79=true:=by kernel_rfl
def ir80 : AFn := ⟨5, 1, [.c 2 5 true], .seq (.rg [Io 2 (.alloc [.int .i64 0, .int .i64 0, .str [], .sl .nil 5 [], .sl .nil 6 []])])
 (.seq (.rg [Im 3 0, Io 4 (.bld [.int .i64 0, .int .i64 0, .str [], .sl .nil 5 [], .sl .nil 6 []] [(0, 1, (.k (.int .i64 4))), (2, 1, (.t 3))]), ⟨none, none, .st 5 (.t 2) (.t 4), []⟩])
 .ret)⟩
theorem ck80:chkFn Tryz.prog 80 ir80=true:=by kernel_rfl
def ir81 : AFn := ⟨28, 2, [.t 4], .seq (.rg [Imb 4 false])
 (.seq (.seq (.rg [Im 5 0, Im 6 1, Io 7 (.call 97 [(.t 5), (.t 6)]), Im 8 7, Jm 9 8 0, Jt 10 8 (.nilchk (.t 9)), Ja 11 8 2 10, Jl 12 8 1 11, Jt 13 8 (.bi .geq .i64 (.t 12) (.k (.int .i64 16))), Ipf 14 8 13])
 (.cond (.t 14) (.rg [Im 15 0, Io 16 (.call 75 [(.t 15), (.k (.int .i64 4))])]) .skip))
 (.seq (.seq (.rg [Im 17 0, Im 18 1, Io 19 (.call 98 [(.t 17), (.t 18)]), Ing 20 19])
 (.cond (.t 20) (.seq (.rg [Imb 4 false])
 .ret) .skip))
 (.seq (.rg [Im 21 0, Ink 22 21, If 23 2 22, Il 24 1 23, Iai 25 24 1, Ink 26 21, If 27 2 26, ⟨none, none, .st 1 (.t 27) (.t 25), []⟩])
 (.seq (.rg [Imb 4 true])
 .ret))))⟩
theorem ck81:chkFn Tryz.prog 81 ir81=true:=by kernel_rfl
def ir82 : AFn := ⟨16, 2, [.t 4], .seq (.rg [Imb 4 false])
 (.seq (.seq (.rg [Im 5 0, Im 6 1, Io 7 (.call 98 [(.t 5), (.t 6)]), Ing 8 7])
 (.cond (.t 8) (.seq (.rg [Imb 4 false])
 .ret) .skip))
 (.seq (.rg [Im 9 0, Ink 10 9, If 11 2 10, Il 12 1 11, Isi 13 12 1, Ink 14 9, If 15 2 14, ⟨none, none, .st 1 (.t 15) (.t 13), []⟩])
 (.seq (.rg [Imb 4 true])
 .ret)))⟩
theorem ck82:chkFn Tryz.prog 82 ir82=true:=by kernel_rfl
def ir83 : AFn := ⟨15, 2, [.c 4 6 true], .seq (.rg [Io 4 (.alloc [.str [], .int .i64 0, .int .i64 0, .str [], .sl .nil 5 [], .sl .nil 6 []])])
 (.seq (.rg [Im 6 0, Io 7 (.call 85 [(.t 6)]), Im 5 7])
 (.seq (.rg [Im 8 0, Io 9 (.call 84 [(.t 8), (.k (.str [58]))])])
 (.seq (.rg [Im 10 5, Im 11 0, Im 12 1, Io 13 (.call 33 [(.t 11), (.t 12)]), Io 14 (.bld [.str [], .int .i64 0, .int .i64 0, .str [], .sl .nil 5 [], .sl .nil 6 []] [(0, 1, (.t 10)), (1, 5, (.t 13))]), ⟨none, none, .st 6 (.t 4) (.t 14), []⟩])
 .ret)))⟩
theorem ck83:chkFn Tryz.prog 83 ir83=true:=by kernel_rfl
def ir84 : AFn := ⟨10, 2, [], .seq (.rg [Im 4 0, Im 5 1, Io 6 (.call 98 [(.t 4), (.t 5)]), Ing 7 6])
 (.cond (.t 7) (.rg [Im 8 0, Io 9 (.call 75 [(.t 8), (.k (.int .i64 2))])]) .skip)⟩
theorem ck84:chkFn Tryz.prog 84 ir84=true:=by kernel_rfl
def ir85 : AFn := ⟨20, 1, [.t 2], .seq (.rg [Io 2 (.mv (.k (.str [])))])
 (.seq (.rg [Im 4 0, Io 5 (.call 76 [(.t 4)]), Io 3 (.alloc [.int .i64 0, .str []]), ⟨none, none, .st 2 (.t 3) (.t 5), []⟩])
 (.seq (.seq (.rg [If 6 0 3, Il 7 1 6, Io 8 (.bi .neq .i64 (.t 7) (.k (.int .i64 2)))])
 (.cond (.t 8) (.rg [Im 9 0, Io 10 (.call 75 [(.t 9), (.k (.int .i64 2))])]) .skip))
 (.seq (.rg [Im 11 0, Ink 12 11, If 13 1 12, Il 14 1 13, Iai 15 14 1, Ink 16 11, If 17 1 16, ⟨none, none, .st 1 (.t 17) (.t 15), []⟩])
 (.seq (.rg [If 18 1 3, Il 19 1 18, Im 2 19])
 .ret))))⟩
theorem ck85:chkFn Tryz.prog 85 ir85=true:=by kernel_rfl
def ir86 : AFn := ⟨51, 1, [.t 2], .seq (.rg [Imb 2 false])
 (.seq (.rg [Im 7 0, Io 8 (.call 152 [(.t 7)]), Im 6 8, Iex 9 6 0, Iex 10 6 1, Im 3 9, Im 4 10])
 (.seq (.seq (.rg [Imv 5 0])
 (.block 0 (.loop [3, 4, 5] (.seq (.seq (.rg [Im 11 5, Im 12 3, Iln 13 12, Ilt 14 11 13])
 (.cond (.t 14) .skip (.exit 0)))
 (.seq (.block 1 (.seq (.rg [Im 17 3, Im 18 5, Iia 19 1 17 18, Il 20 1 19, Io 21 (.bi .lss .i64 (.t 20) (.k (.int .i64 32))), Im 22 21, Jm 23 22 3, Jm 24 22 5, Jt 25 22 (.ia 1 (.t 23) (.t 24)), Jl 26 22 1 25, Jt 27 22 (.bi .neq .i64 (.t 26) (.k (.int .i64 9))), Ipf 28 22 27, Im 29 28, Jm 30 29 3, Jm 31 29 5, Jt 32 29 (.ia 1 (.t 30) (.t 31)), Jl 33 29 1 32, Jt 34 29 (.bi .neq .i64 (.t 33) (.k (.int .i64 10))), Ipf 35 29 34, Im 36 35, Jm 37 36 3, Jm 38 36 5, Jt 39 36 (.ia 1 (.t 37) (.t 38)), Jl 40 36 1 39, Jt 41 36 (.bi .neq .i64 (.t 40) (.k (.int .i64 13))), Ipf 42 36 41, Im 43 42, Fm 44 43 3, Fm 45 43 5, Jf 46 43 (.ia 1 (.t 44) (.t 45)), Fl 47 43 1 46, Jf 48 43 (.bi .gtr .i64 (.t 47) (.k (.int .i64 65535))), Ipt 49 43 48])
 (.cond (.t 49) (.seq (.rg [Imb 2 false])
 .ret) .skip)))
 (.rg [Im 15 5, Iai 16 15 1, Im 5 16]))))))
 (.seq (.rg [Im 50 4, Im 2 50])
 .ret)))⟩
theorem ck86:chkFn Tryz.prog 86 ir86=true:=by kernel_rfl
def ir87 : AFn := ⟨71, 2, [.t 4], .seq (.rg [Imv 4 0])
 (.seq (.block 0 (.loop [0, 1] (.seq (.seq (.rg [Im 5 1, Im 6 0, Ils 7 6, Ilt 8 5 7])
 (.cond (.t 8) .skip (.exit 0)))
 (.block 1 (.block 2 (.seq (.rg [Im 11 0, Im 12 1, Io 13 (.ixs (.t 11) (.t 12)), Io 14 (.bi .eql .u8 (.t 13) (.k (.int .u8 9))), Im 15 14, Fm 16 15 0, Fm 17 15 1, Jf 18 15 (.ixs (.t 16) (.t 17)), Jf 19 15 (.bi .eql .u8 (.t 18) (.k (.int .u8 10))), Ipt 20 15 19, Im 21 20, Fm 22 21 0, Fm 23 21 1, Jf 24 21 (.ixs (.t 22) (.t 23)), Jf 25 21 (.bi .eql .u8 (.t 24) (.k (.int .u8 13))), Ipt 26 21 25, Im 27 26, Fm 28 27 0, Fm 29 27 1, Jf 30 27 (.ixs (.t 28) (.t 29)), Jf 31 27 (.bi .eql .u8 (.t 30) (.k (.int .u8 32))), Ipt 32 27 31, Im 33 32, Fm 34 33 0, Fm 35 33 1, Jf 36 33 (.ixs (.t 34) (.t 35)), Jf 37 33 (.bi .eql .u8 (.t 36) (.k (.int .u8 44))), Ipt 38 33 37, Im 10 38])
 (.cond (.t 10) (.rg [Im 39 1, Iai 40 39 1, Im 1 40]) (.seq (.rg [Im 42 0, Im 43 1, Io 44 (.call 153 [(.t 42), (.t 43), (.k (.str [239, 187, 191]))]), Im 41 44])
 (.cond (.t 41) (.rg [Im 45 1, Iai 46 45 3, Im 1 46]) (.seq (.rg [Im 48 0, Im 49 1, Io 50 (.ixs (.t 48) (.t 49)), Io 51 (.bi .eql .u8 (.t 50) (.k (.int .u8 35))), Im 47 51])
 (.cond (.t 47) (.block 3 (.loop [0, 1] (.seq (.seq (.rg [Im 52 1, Im 53 0, Ils 54 53, Ilt 55 52 54, Im 56 55, Jm 57 56 0, Jm 58 56 1, Jt 59 56 (.ixs (.t 57) (.t 58)), Jt 60 56 (.bi .neq .u8 (.t 59) (.k (.int .u8 10))), Ipf 61 56 60, Im 62 61, Jm 63 62 0, Jm 64 62 1, Jt 65 62 (.ixs (.t 63) (.t 64)), Jt 66 62 (.bi .neq .u8 (.t 65) (.k (.int .u8 13))), Ipf 67 62 66])
 (.cond (.t 67) .skip (.exit 3)))
 (.block 4 (.rg [Im 68 1, Iai 69 68 1, Im 1 69]))))) (.seq (.rg [Im 9 1, Im 4 9])
 .ret))))))))))))
 (.seq (.rg [Im 70 1, Im 4 70])
 .ret))⟩
theorem ck87:chkFn Tryz.prog 87 ir87=true:=by kernel_rfl
def ir88 : AFn := ⟨141, 2, [.c 4 2 true, .t 5, .t 6], .seq (.rg [Io 4 (.alloc [.int .i64 0, .str []]), Imv 5 0, Imb 6 false])
 (.seq (.rg [Io 18 (.bld [.int .i64 0, .str []] []), Io 7 (.alloc [.int .i64 0, .str []]), ⟨none, none, .st 2 (.t 7) (.t 18), []⟩])
 (.seq (.seq (.rg [Im 19 0, Im 20 1, Io 21 (.call 153 [(.t 19), (.t 20), (.k (.str [46, 46, 46]))])])
 (.cond (.t 21) (.seq (.rg [Io 22 (.bld [.int .i64 0, .str []] [(0, 1, (.k (.int .i64 1))), (1, 1, (.k (.str [46, 46, 46])))]), Im 23 1, Iai 24 23 3, ⟨none, none, .st 2 (.t 4) (.t 22), []⟩, Im 5 24, Imb 6 true])
 .ret) .skip))
 (.seq (.seq (.rg [Im 25 0, Im 26 1, Io 27 (.ixs (.t 25) (.t 26)), Io 28 (.call 154 [(.k (.str [33, 36, 38, 40, 41, 58, 61, 64, 91, 93, 123, 124, 125])), (.t 27)]), Io 29 (.bi .geq .i64 (.t 28) (.k (.int .i64 0)))])
 (.cond (.t 29) (.seq (.rg [Im 30 0, Im 31 1, Im 32 1, Iai 33 32 1, Io 34 (.sls (.t 30) (some (.t 31)) (some (.t 33))), Io 35 (.bld [.int .i64 0, .str []] [(0, 1, (.k (.int .i64 1))), (1, 1, (.t 34))]), Im 36 1, Iai 37 36 1, ⟨none, none, .st 2 (.t 4) (.t 35), []⟩, Im 5 37, Imb 6 true])
 .ret) .skip))
 (.seq (.seq (.rg [Im 38 0, Im 39 1, Io 40 (.call 153 [(.t 38), (.t 39), (.k (.str [34, 34, 34]))])])
 (.cond (.t 40) (.seq (.rg [Im 42 0, Im 43 1, Iai 44 43 3, Io 45 (.call 155 [(.t 42), (.t 44)]), Im 41 45, Iex 46 41 0, Iex 47 41 1, Iex 48 41 2, Im 8 46, Im 9 47, Im 10 48])
 (.seq (.rg [Im 49 8, Io 50 (.bld [.int .i64 0, .str []] [(0, 1, (.k (.int .i64 5))), (1, 1, (.t 49))]), Im 51 9, Im 52 10, ⟨none, none, .st 2 (.t 4) (.t 50), []⟩, Im 5 51, Im 6 52])
 .ret)) .skip))
 (.seq (.seq (.rg [Im 53 0, Im 54 1, Io 55 (.ixs (.t 53) (.t 54)), Io 56 (.bi .eql .u8 (.t 55) (.k (.int .u8 34)))])
 (.cond (.t 56) (.seq (.rg [Im 58 0, Im 59 1, Iai 60 59 1, Io 61 (.call 156 [(.t 58), (.t 60)]), Im 57 61, Iex 62 57 0, Iex 63 57 1, Iex 64 57 2, Im 11 62, Im 12 63, Im 13 64])
 (.seq (.rg [Im 65 11, Io 66 (.bld [.int .i64 0, .str []] [(0, 1, (.k (.int .i64 5))), (1, 1, (.t 65))]), Im 67 12, Im 68 13, ⟨none, none, .st 2 (.t 4) (.t 66), []⟩, Im 5 67, Im 6 68])
 .ret)) .skip))
 (.seq (.seq (.rg [Im 69 0, Im 70 1, Io 71 (.ixs (.t 69) (.t 70)), Io 72 (.call 146 [(.t 71)])])
 (.cond (.t 72) (.seq (.rg [Im 73 1, Im 14 73])
 (.seq (.block 0 (.loop [0, 1, 4, 14] (.seq (.seq (.rg [Im 74 14, Im 75 0, Ils 76 75, Ilt 77 74 76, Im 78 77, Jm 79 78 0, Jm 80 78 14, Jt 81 78 (.ixs (.t 79) (.t 80)), Jt 82 78 (.call 146 [(.t 81)]), Jm 83 78 82, Fm 84 83 0, Fm 85 83 14, Jf 86 83 (.ixs (.t 84) (.t 85)), Jf 87 83 (.call 147 [(.t 86)]), Jt 88 78 (.pick (.t 83) (.k (.bool true)) (.t 87)), Ipf 89 78 88])
 (.cond (.t 89) .skip (.exit 0)))
 (.block 1 (.rg [Im 90 14, Iai 91 90 1, Im 14 91])))))
 (.seq (.rg [Im 92 0, Im 93 1, Im 94 14, Io 95 (.sls (.t 92) (some (.t 93)) (some (.t 94))), Io 96 (.bld [.int .i64 0, .str []] [(0, 1, (.k (.int .i64 2))), (1, 1, (.t 95))]), Im 97 14, ⟨none, none, .st 2 (.t 4) (.t 96), []⟩, Im 5 97, Imb 6 true])
 .ret))) .skip))
 (.seq (.rg [Im 99 0, Im 100 1, Io 101 (.sls (.t 99) (some (.t 100)) none), Io 102 (.call 157 [(.t 101)]), Im 98 102, Iex 103 98 0, Iex 104 98 1, Im 15 103, Im 16 104])
 (.seq (.seq (.rg [Im 105 15, Iei 106 105 0])
 (.cond (.t 106) (.seq (.rg [Ilb 107 2 7, ⟨none, none, .st 2 (.t 4) (.t 107), []⟩, Imv 5 0, Imb 6 false])
 .ret) .skip))
 (.seq (.rg [Im 108 1, Im 109 15, Iad 110 108 109, Im 17 110])
 (.seq (.seq (.rg [Im 111 17, Im 112 0, Ils 113 112, Ilt 114 111 113, Im 115 114, Jm 116 115 0, Jm 117 115 17, Jt 118 115 (.ixs (.t 116) (.t 117)), Jt 119 115 (.call 146 [(.t 118)]), Jm 120 115 119, Fm 121 120 0, Fm 122 120 17, Jf 123 120 (.ixs (.t 121) (.t 122)), Jf 124 120 (.call 147 [(.t 123)]), Jt 125 115 (.pick (.t 120) (.k (.bool true)) (.t 124)), Jm 126 115 125, Fm 127 126 0, Fm 128 126 17, Jf 129 126 (.ixs (.t 127) (.t 128)), Jf 130 126 (.bi .eql .u8 (.t 129) (.k (.int .u8 46))), Jt 131 115 (.pick (.t 126) (.k (.bool true)) (.t 130)), Ipf 132 115 131])
 (.cond (.t 132) (.seq (.rg [Ilb 133 2 7, ⟨none, none, .st 2 (.t 4) (.t 133), []⟩, Imv 5 0, Imb 6 false])
 .ret) .skip))
 (.seq (.rg [Im 134 16, Im 135 0, Im 136 1, Im 137 17, Io 138 (.sls (.t 135) (some (.t 136)) (some (.t 137))), Io 139 (.bld [.int .i64 0, .str []] [(0, 1, (.t 134)), (1, 1, (.t 138))]), Im 140 17, ⟨none, none, .st 2 (.t 4) (.t 139), []⟩, Im 5 140, Imb 6 true])
 .ret)))))))))))⟩
theorem ck88:chkFn Tryz.prog 88 ir88=true:=by kernel_rfl
def ir89 : AFn := ⟨41, 1, [.t 2, .t 3], .seq (.rg [Imv 2 0, Imb 3 false])
 (.seq (.rg [Imv 4 0, Imb 5 false])
 (.join [0, 4, 5] (.seq (.rg [Im 8 0, Io 9 (.bs .neq (.t 8) (.k (.str []))), Im 10 9, Jm 11 10 0, Jt 12 10 (.ixs (.t 11) (.k (.int .i64 0))), Jt 13 10 (.bi .eql .u8 (.t 12) (.k (.int .u8 45))), Ipf 14 10 13])
 (.cond (.t 14) (.rg [Imv 4 1, Imb 5 true]) .skip))
 (.seq (.rg [Imv 6 0])
 (.seq (.block 0 (.loop [0, 4, 5, 6] (.seq (.seq (.rg [Im 15 4, Im 16 0, Ils 17 16, Ilt 18 15 17])
 (.cond (.t 18) .skip (.exit 0)))
 (.seq (.block 1 (.seq (.rg [Im 21 0, Im 22 4, Io 23 (.ixs (.t 21) (.t 22)), Io 24 (.bi .sub .u8 (.t 23) (.k (.int .u8 48))), Io 25 (.cvi .i64 (.t 24)), Im 7 25])
 (.seq (.seq (.rg [Im 26 6, Im 27 7, Io 28 (.bi .add .i64 (.k (.int .i64 (-9223372036854775808))) (.t 27)), Io 29 (.bi .quo .i64 (.t 28) (.k (.int .i64 10))), Ilt 30 26 29])
 (.cond (.t 30) (.seq (.rg [Imv 2 0, Imb 3 false])
 .ret) .skip))
 (.rg [Im 31 6, Io 32 (.bi .mul .i64 (.k (.int .i64 10)) (.t 31)), Im 33 7, Io 34 (.bi .sub .i64 (.t 32) (.t 33)), Im 6 34]))))
 (.rg [Im 19 4, Iai 20 19 1, Im 4 20])))))
 (.seq (.seq (.rg [Im 35 5])
 (.cond (.t 35) (.seq (.rg [Im 36 6, Im 2 36, Imb 3 true])
 .ret) .skip))
 (.seq (.seq (.rg [Im 37 6, Io 38 (.bi .eql .i64 (.t 37) (.k (.int .i64 (-9223372036854775808))))])
 (.cond (.t 38) (.seq (.rg [Imv 2 0, Imb 3 false])
 .ret) .skip))
 (.seq (.rg [Im 39 6, Io 40 (.ineg (.t 39)), Im 2 40, Imb 3 true])
 .ret)))))))⟩
theorem ck89:chkFn Tryz.prog 89 ir89=true:=by kernel_rfl
def ir90 : AFn := ⟨5, 1, [.c 2 5 true], .seq (.rg [Io 2 (.alloc [.int .i64 0, .int .i64 0, .str [], .sl .nil 5 [], .sl .nil 6 []])])
 (.seq (.rg [Im 3 0, Io 4 (.bld [.int .i64 0, .int .i64 0, .str [], .sl .nil 5 [], .sl .nil 6 []] [(0, 1, (.k (.int .i64 2))), (1, 1, (.t 3))]), ⟨none, none, .st 5 (.t 2) (.t 4), []⟩])
 .ret)⟩
theorem ck90:chkFn Tryz.prog 90 ir90=true:=by kernel_rfl
def ir91 : AFn := ⟨5, 1, [.c 2 5 true], .seq (.rg [Io 2 (.alloc [.int .i64 0, .int .i64 0, .str [], .sl .nil 5 [], .sl .nil 6 []])])
 (.seq (.rg [Im 3 0, Io 4 (.bld [.int .i64 0, .int .i64 0, .str [], .sl .nil 5 [], .sl .nil 6 []] [(0, 1, (.k (.int .i64 4))), (2, 1, (.t 3))]), ⟨none, none, .st 5 (.t 2) (.t 4), []⟩])
 .ret)⟩
theorem ck91:chkFn Tryz.prog 91 ir91=true:=by kernel_rfl
def ir92 : AFn := ⟨17, 2, [.t 4], .seq (.rg [Imb 4 false])
 (.seq (.rg [Im 6 0, Io 7 (.call 45 [(.t 6)]), Io 5 (.alloc [.int .i64 0, .str []]), ⟨none, none, .st 2 (.t 5) (.t 7), []⟩])
 (.seq (.rg [If 8 0 5, Il 9 1 8, Iei 10 9 1, Im 11 10, Ja 12 11 1 5, Jl 13 11 1 12, Jm 14 11 1, Jt 15 11 (.bs .eql (.t 13) (.t 14)), Ipf 16 11 15, Im 4 16])
 .ret))⟩
theorem ck92:chkFn Tryz.prog 92 ir92=true:=by kernel_rfl
def ir93 : AFn := ⟨17, 2, [], .seq (.seq (.rg [Im 4 0, Im 5 1, Io 6 (.call 92 [(.t 4), (.t 5)]), Ing 7 6])
 (.cond (.t 7) (.seq (.rg [Im 8 0, Io 9 (.call 50 [(.t 8), (.k (.int .i64 2))])])
 .ret) .skip))
 (.rg [Im 10 0, Ink 11 10, If 12 1 11, Il 13 1 12, Iai 14 13 1, Ink 15 10, If 16 1 15, ⟨none, none, .st 1 (.t 16) (.t 14), []⟩])⟩
theorem ck93:chkFn Tryz.prog 93 ir93=true:=by kernel_rfl
def ir94 : AFn := ⟨26, 2, [], .seq (.seq (.rg [Im 4 0, Im 5 1, Io 6 (.call 92 [(.t 4), (.t 5)]), Im 7 6, Jm 8 7 0, Jt 9 7 (.nilchk (.t 8)), Ja 10 7 2 9, Jl 11 7 1 10, Jt 12 7 (.bi .geq .i64 (.t 11) (.k (.int .i64 16))), Ipf 13 7 12])
 (.cond (.t 13) (.seq (.rg [Im 14 0, Io 15 (.call 50 [(.t 14), (.k (.int .i64 4))])])
 .ret) .skip))
 (.seq (.rg [Im 16 0, Im 17 1, Io 18 (.call 93 [(.t 16), (.t 17)])])
 (.rg [Im 19 0, Ink 20 19, If 21 2 20, Il 22 1 21, Iai 23 22 1, Ink 24 19, If 25 2 24, ⟨none, none, .st 1 (.t 25) (.t 23), []⟩]))⟩
theorem ck94:chkFn Tryz.prog 94 ir94=true:=by kernel_rfl
def ir95 : AFn := ⟨14, 2, [], .seq (.rg [Im 4 0, Im 5 1, Io 6 (.call 93 [(.t 4), (.t 5)])])
 (.rg [Im 7 0, Ink 8 7, If 9 2 8, Il 10 1 9, Isi 11 10 1, Ink 12 7, If 13 2 12, ⟨none, none, .st 1 (.t 13) (.t 11), []⟩])⟩
theorem ck95:chkFn Tryz.prog 95 ir95=true:=by kernel_rfl
def ir96 : AFn := ⟨16, 2, [.c 4 6 true], .seq (.rg [Io 4 (.alloc [.str [], .int .i64 0, .int .i64 0, .str [], .sl .nil 5 [], .sl .nil 6 []])])
 (.seq (.rg [Im 6 0, Io 7 (.call 46 [(.t 6)]), Io 8 (.bld [.str [], .int .i64 0, .int .i64 0, .str [], .sl .nil 5 [], .sl .nil 6 []] [(0, 1, (.t 7))]), Io 5 (.alloc [.str [], .int .i64 0, .int .i64 0, .str [], .sl .nil 5 [], .sl .nil 6 []]), ⟨none, none, .st 6 (.t 5) (.t 8), []⟩])
 (.seq (.rg [Im 9 0, Io 10 (.call 93 [(.t 9), (.k (.str [58]))])])
 (.seq (.rg [Im 11 0, Im 12 1, Io 13 (.call 35 [(.t 11), (.t 12)]), If 14 1 5, ⟨none, none, .st 5 (.t 14) (.t 13), []⟩])
 (.seq (.rg [Ilb 15 6 5, ⟨none, none, .st 6 (.t 4) (.t 15), []⟩])
 .ret))))⟩
theorem ck96:chkFn Tryz.prog 96 ir96=true:=by kernel_rfl
def ir97 : AFn := ⟨10, 2, [.t 4], .seq (.rg [Imb 4 false])
 (.seq (.rg [Im 5 0, Io 6 (.call 76 [(.t 5)]), Im 7 1, Io 8 (.bld [.int .i64 0, .str []] [(0, 1, (.k (.int .i64 1))), (1, 1, (.t 7))]), Io 9 (.eqa false [(.i .i64), .s] (.t 6) (.t 8)), Im 4 9])
 .ret)⟩
theorem ck97:chkFn Tryz.prog 97 ir97=true:=by kernel_rfl
def ir98 : AFn := ⟨18, 2, [.t 4], .seq (.rg [Imb 4 false])
 (.seq (.rg [Im 6 0, Im 7 1, Io 8 (.call 97 [(.t 6), (.t 7)]), Im 5 8])
 (.seq (.seq (.rg [Im 9 5])
 (.cond (.t 9) (.rg [Im 10 0, Ink 11 10, If 12 1 11, Il 13 1 12, Iai 14 13 1, Ink 15 10, If 16 1 15, ⟨none, none, .st 1 (.t 16) (.t 14), []⟩]) .skip))
 (.seq (.rg [Im 17 5, Im 4 17])
 .ret)))⟩
theorem ck98:chkFn Tryz.prog 98 ir98=true:=by kernel_rfl
def ir100 : AFn := ⟨18, 2, [.t 4], .seq (.rg [Imb 4 false])
 (.seq (.rg [Im 6 0, Im 7 1, Io 8 (.call 158 [(.t 6), (.t 7)]), Im 5 8])
 (.seq (.seq (.rg [Im 9 5])
 (.cond (.t 9) (.rg [Im 10 0, Ink 11 10, If 12 1 11, Il 13 1 12, Iai 14 13 1, Ink 15 10, If 16 1 15, ⟨none, none, .st 1 (.t 16) (.t 14), []⟩]) .skip))
 (.seq (.rg [Im 17 5, Im 4 17])
 .ret)))⟩
theorem ck100:chkFn Tryz.prog 100 ir100=true:=by kernel_rfl
def ir115 : AFn := ⟨32, 2, [.t 4, .t 5], .seq (.rg [Imv 4 0, Imv 5 0])
 (.seq (.seq (.rg [Im 8 1, Io 9 (.bi .lss .i64 (.t 8) (.k (.int .i64 0))), Im 10 9, Fm 11 10 1, Fm 12 10 0, Jf 13 10 (.lens (.t 12)), Jf 14 10 (.bi .geq .i64 (.t 11) (.t 13)), Ipt 15 10 14])
 (.cond (.t 15) (.seq (.rg [Imv 4 0, Imv 5 0])
 .ret) .skip))
 (.seq (.rg [Im 17 0, Im 18 1, Io 19 (.sls (.t 17) (some (.t 18)) none), Io 20 (.call 169 [(.t 19)]), Im 16 20, Iex 21 16 0, Iex 22 16 1, Im 6 21, Im 7 22])
 (.seq (.seq (.rg [Im 23 6, Io 24 (.bi .eql .i32 (.t 23) (.k (.int .i32 65533))), Im 25 24, Jm 26 25 7, Jt 27 25 (.bi .lss .i64 (.t 26) (.k (.int .i64 2))), Ipf 28 25 27])
 (.cond (.t 28) (.seq (.rg [Imv 4 0, Imv 5 0])
 .ret) .skip))
 (.seq (.rg [Im 29 6, Io 30 (.cvi .i64 (.t 29)), Im 31 7, Im 4 30, Im 5 31])
 .ret))))⟩
theorem ck115:chkFn Tryz.prog 115 ir115=true:=by kernel_rfl
def ir116 : AFn := ⟨21, 1, [.t 2], .seq (.rg [Imb 2 false])
 (.seq (.rg [Im 3 0, Iei 4 3 9, Im 5 4, Fm 6 5 0, Jf 7 5 (.bi .eql .i64 (.t 6) (.k (.int .i64 10))), Ipt 8 5 7, Im 9 8, Fm 10 9 0, Jf 11 9 (.bi .eql .i64 (.t 10) (.k (.int .i64 13))), Ipt 12 9 11, Im 13 12, Fm 14 13 0, Jf 15 13 (.bi .geq .i64 (.t 14) (.k (.int .i64 32))), Fm 16 13 15, Jm 17 16 0, Jt 18 16 (.bi .leq .i64 (.t 17) (.k (.int .i64 65535))), Jf 19 13 (.pick (.t 16) (.t 18) (.k (.bool false))), Ipt 20 13 19, Im 2 20])
 .ret)⟩
theorem ck116:chkFn Tryz.prog 116 ir116=true:=by kernel_rfl
def ir119 : AFn := ⟨38, 1, [.t 2, .t 3], .seq (.rg [Io 2 (.mv (.k (.str []))), Imv 3 0])
 (.scope (.seq (.rg [Io 4 (.mv (.k (.sl .nil 1 [])))])
 (.seq (.rg [Imv 5 3])
 (.seq .skip
 (.seq (.block 0 (.loop [0, 4, 5] (.block 1 (.seq (.block 2 (.seq (.rg [Im 7 5, Im 8 0, Ils 9 8, Io 10 (.bi .geq .i64 (.t 7) (.t 9)), Im 6 10])
 (.cond (.t 6) (.seq (.rg [Io 2 (.mv (.k (.str []))), Imv 3 0])
 .ret) (.seq (.rg [Im 12 0, Im 13 5, Io 14 (.sls (.t 12) (some (.t 13)) none), Io 15 (.call 117 [(.t 14), (.k (.str [34, 34, 34]))]), Im 11 15])
 (.cond (.t 11) (.exit 0) (.seq (.rg [Im 17 0, Im 18 5, Io 19 (.sls (.t 17) (some (.t 18)) none), Io 20 (.call 117 [(.t 19), (.k (.str [92, 34, 34, 34]))]), Im 16 20])
 (.cond (.t 16) (.seq (.rg [Im 21 4, Io 22 (.apps (.t 21) (.k (.str [34, 34, 34]))), Im 4 22])
 (.seq (.rg [Im 23 5, Iai 24 23 4, Im 5 24])
 (.exit 1))) .skip)))))))
 (.seq (.rg [Im 25 4, Im 26 0, Im 27 5, Io 28 (.ixs (.t 26) (.t 27)), Io 29 (.bls 1 1 [.int .u8 0] [(0, (.t 28))]), Iap 30 1 1 25 29, Im 4 30])
 (.rg [Im 31 5, Iai 32 31 1, Im 5 32]))))))
 (.seq (.rg [Im 33 4, Io 34 (.cvb2s (.t 33)), Io 35 (.call 175 [(.t 34)]), Im 36 5, Iai 37 36 3, Im 2 35, Im 3 37])
 .ret))))))⟩
theorem ck119:chkFn Tryz.prog 119 ir119=true:=by kernel_rfl
def ir120 : AFn := ⟨75, 2, [.t 4, .t 5], .seq (.rg [Io 4 (.mv (.k (.str []))), Imv 5 0])
 (.scope (.seq (.rg [Io 9 (.bld [.sl .nil 1 [], .sl .nil 1 [], .bool false] [(2, 1, (.k (.bool true)))]), Io 10 (.box (.t 9)), Im 6 10])
 (.seq (.rg [Imv 7 1])
 (.seq .skip
 (.seq (.block 0 (.loop [0, 1, 6, 7] (.block 1 (.seq (.block 2 (.seq (.rg [Im 12 7, Im 13 0, Ils 14 13, Io 15 (.bi .geq .i64 (.t 12) (.t 14)), Im 11 15])
 (.cond (.t 11) (.seq (.rg [Io 4 (.mv (.k (.str []))), Imv 5 0])
 .ret) (.seq (.rg [Im 17 0, Im 18 7, Io 19 (.ixs (.t 17) (.t 18)), Io 20 (.bi .eql .u8 (.t 19) (.k (.int .u8 34))), Im 16 20])
 (.cond (.t 16) (.exit 0) (.seq (.rg [Im 22 0, Im 23 7, Io 24 (.ixs (.t 22) (.t 23)), Io 25 (.bi .eql .u8 (.t 24) (.k (.int .u8 92))), Im 21 25])
 (.cond (.t 21) (.seq (.rg [Im 26 6, Im 27 0, Im 28 7, Iai 29 28 1, Io 30 (.sls (.t 27) (some (.t 29)) none), Io 31 (.call 176 [(.t 26), (.t 30)]), Im 8 31])
 (.seq (.seq (.rg [Im 32 8, Iei 33 32 0])
 (.cond (.t 33) (.seq (.rg [Io 4 (.mv (.k (.str []))), Imv 5 0])
 .ret) .skip))
 (.seq (.rg [Im 34 7, Im 35 8, Io 36 (.bi .add .i64 (.k (.int .i64 1)) (.t 35)), Iad 37 34 36, Im 7 37])
 (.exit 1)))) (.seq (.rg [Im 39 1, Im 40 0, Im 41 7, Io 42 (.ixs (.t 40) (.t 41)), Io 43 (.callv (.t 39) [(.t 42)]), Ing 44 43, Im 38 44])
 (.cond (.t 38) (.seq (.rg [Io 4 (.mv (.k (.str []))), Imv 5 0])
 .ret) .skip)))))))))
 (.seq (.rg [Im 45 6, Io 46 (.call 177 [(.t 45)])])
 (.seq (.reg [0, 1, 2, 3, 4, 5, 6, 7, 8, 9, 10, 11, 12] [Im 47 6, Im 48 6, Ink 49 48, If 50 0 49, Il 51 1 50, Im 52 0, Im 53 7, Io 54 (.ixs (.t 52) (.t 53)), Io 55 (.bls 1 1 [.int .u8 0] [(0, (.t 54))]), Iap 56 1 1 51 55, Ink 57 47, If 58 0 57, ⟨none, none, .st 1 (.t 58) (.t 56), []⟩])
 (.rg [Im 59 7, Iai 60 59 1, Im 7 60])))))))
 (.seq (.rg [Im 61 6, Io 62 (.call 177 [(.t 61)])])
 (.seq (.seq (.rg [Im 63 6, Ink 64 63, If 65 2 64, Il 66 1 65, Ing 67 66])
 (.cond (.t 67) (.seq (.rg [Io 4 (.mv (.k (.str []))), Imv 5 0])
 .ret) .skip))
 (.seq (.rg [Im 68 6, Ink 69 68, If 70 0 69, Il 71 1 70, Io 72 (.cvb2s (.t 71)), Im 73 7, Iai 74 73 1, Im 4 72, Im 5 74])
 .ret))))))))⟩
theorem ck120:chkFn Tryz.prog 120 ir120=true:=by kernel_rfl
def ir121 : AFn := ⟨9, 1, [.t 2], .seq (.rg [Imb 2 false])
 (.seq (.rg [Im 3 0, Io 4 (.bi .neq .u8 (.t 3) (.k (.int .u8 10))), Im 5 4, Jm 6 5 0, Jt 7 5 (.bi .neq .u8 (.t 6) (.k (.int .u8 13))), Ipf 8 5 7, Im 2 8])
 .ret)⟩
theorem ck121:chkFn Tryz.prog 121 ir121=true:=by kernel_rfl
def ir123 : AFn := ⟨21, 1, [.t 2], .seq (.rg [Imb 2 false])
 (.seq (.rg [Im 3 0, Io 4 (.bi .geq .u8 (.t 3) (.k (.int .u8 97))), Im 5 4, Jm 6 5 0, Jt 7 5 (.bi .leq .u8 (.t 6) (.k (.int .u8 122))), Ipf 8 5 7, Im 9 8, Fm 10 9 0, Jf 11 9 (.bi .geq .u8 (.t 10) (.k (.int .u8 65))), Fm 12 9 11, Jm 13 12 0, Jt 14 12 (.bi .leq .u8 (.t 13) (.k (.int .u8 90))), Jf 15 9 (.pick (.t 12) (.t 14) (.k (.bool false))), Ipt 16 9 15, Im 17 16, Fm 18 17 0, Jf 19 17 (.bi .eql .u8 (.t 18) (.k (.int .u8 95))), Ipt 20 17 19, Im 2 20])
 .ret)⟩
theorem ck123:chkFn Tryz.prog 123 ir123=true:=by kernel_rfl
def ir124 : AFn := ⟨27, 1, [.t 2], .seq (.rg [Imv 2 0])
 (.seq (.rg [Imv 3 0])
 (.seq (.block 0 (.loop [0, 3] (.seq (.seq (.rg [Im 4 3, Im 5 0, Ils 6 5, Ilt 7 4 6, Im 8 7, Jm 9 8 0, Jm 10 8 3, Jt 11 8 (.ixs (.t 9) (.t 10)), Jt 12 8 (.call 123 [(.t 11)]), Jm 13 8 12, Fm 14 13 3, Jf 15 13 (.bi .gtr .i64 (.t 14) (.k (.int .i64 0))), Fm 16 13 15, Jm 17 16 0, Jm 18 16 3, Jt 19 16 (.ixs (.t 17) (.t 18)), Jt 20 16 (.call 126 [(.t 19)]), Jf 21 13 (.pick (.t 16) (.t 20) (.k (.bool false))), Jt 22 8 (.pick (.t 13) (.k (.bool true)) (.t 21)), Ipf 23 8 22])
 (.cond (.t 23) .skip (.exit 0)))
 (.block 1 (.rg [Im 24 3, Iai 25 24 1, Im 3 25])))))
 (.seq (.rg [Im 26 3, Im 2 26])
 .ret)))⟩
theorem ck124:chkFn Tryz.prog 124 ir124=true:=by kernel_rfl
def ir125 : AFn := ⟨38, 1, [.t 2, .t 3], .seq (.rg [Imv 2 0, Imv 3 0])
 (.seq (.rg [Im 8 0, Io 9 (.call 179 [(.t 8)]), Im 4 9])
 (.seq (.seq (.rg [Im 10 4, Iei 11 10 0])
 (.cond (.t 11) (.seq (.rg [Imv 2 0, Imv 3 0])
 .ret) .skip))
 (.seq (.rg [Imv 5 3])
 (.seq (.seq (.rg [Im 12 0, Im 13 4, Io 14 (.sls (.t 12) (some (.t 13)) none), Io 15 (.call 117 [(.t 14), (.k (.str [46]))])])
 (.cond (.t 15) (.seq (.rg [Im 16 0, Im 17 4, Iai 18 17 1, Io 19 (.sls (.t 16) (some (.t 18)) none), Io 20 (.call 180 [(.t 19)]), Im 6 20])
 (.seq (.rg [Im 21 6, Igi 22 21 0])
 (.cond (.t 22) (.rg [Im 23 4, Iai 24 23 1, Im 25 6, Iad 26 24 25, Im 4 26, Imv 5 4]) .skip))) .skip))
 (.seq (.seq (.rg [Im 27 0, Im 28 4, Io 29 (.sls (.t 27) (some (.t 28)) none), Io 30 (.call 181 [(.t 29)]), Im 7 30])
 (.seq (.rg [Im 31 7, Igi 32 31 0])
 (.cond (.t 32) (.rg [Im 33 4, Im 34 7, Iad 35 33 34, Im 4 35, Imv 5 4]) .skip)))
 (.seq (.rg [Im 36 4, Im 37 5, Im 2 36, Im 3 37])
 .ret))))))⟩
theorem ck125:chkFn Tryz.prog 125 ir125=true:=by kernel_rfl
def ir126 : AFn := ⟨9, 1, [.t 2], .seq (.rg [Imb 2 false])
 (.seq (.rg [Im 3 0, Io 4 (.bi .geq .u8 (.t 3) (.k (.int .u8 48))), Im 5 4, Jm 6 5 0, Jt 7 5 (.bi .leq .u8 (.t 6) (.k (.int .u8 57))), Ipf 8 5 7, Im 2 8])
 .ret)⟩
theorem ck126:chkFn Tryz.prog 126 ir126=true:=by kernel_rfl
def ir129 : AFn := ⟨15, 1, [.t 2], .seq (.rg [Imv 2 0])
 (.seq (.rg [Im 6 0, Io 7 (.call 125 [(.t 6)]), Im 5 7, Iex 8 5 0, Iex 9 5 1, Im 3 8, Im 4 9])
 (.seq (.seq (.rg [Im 10 3, Im 11 0, Ils 12 11, Io 13 (.bi .neq .i64 (.t 10) (.t 12))])
 (.cond (.t 13) (.seq (.rg [Imv 2 0])
 .ret) .skip))
 (.seq (.rg [Im 14 4, Im 2 14])
 .ret)))⟩
theorem ck129:chkFn Tryz.prog 129 ir129=true:=by kernel_rfl
def ir146 : AFn := ⟨21, 1, [.t 2], .seq (.rg [Imb 2 false])
 (.seq (.rg [Im 3 0, Io 4 (.bi .geq .u8 (.t 3) (.k (.int .u8 97))), Im 5 4, Jm 6 5 0, Jt 7 5 (.bi .leq .u8 (.t 6) (.k (.int .u8 122))), Ipf 8 5 7, Im 9 8, Fm 10 9 0, Jf 11 9 (.bi .geq .u8 (.t 10) (.k (.int .u8 65))), Fm 12 9 11, Jm 13 12 0, Jt 14 12 (.bi .leq .u8 (.t 13) (.k (.int .u8 90))), Jf 15 9 (.pick (.t 12) (.t 14) (.k (.bool false))), Ipt 16 9 15, Im 17 16, Fm 18 17 0, Jf 19 17 (.bi .eql .u8 (.t 18) (.k (.int .u8 95))), Ipt 20 17 19, Im 2 20])
 .ret)⟩
theorem ck146:chkFn Tryz.prog 146 ir146=true:=by kernel_rfl
def ir147 : AFn := ⟨9, 1, [.t 2], .seq (.rg [Imb 2 false])
 (.seq (.rg [Im 3 0, Io 4 (.bi .geq .u8 (.t 3) (.k (.int .u8 48))), Im 5 4, Jm 6 5 0, Jt 7 5 (.bi .leq .u8 (.t 6) (.k (.int .u8 57))), Ipf 8 5 7, Im 2 8])
 .ret)⟩
theorem ck147:chkFn Tryz.prog 147 ir147=true:=by kernel_rfl
def ir148 : AFn := ⟨21, 1, [.t 2], .seq (.rg [Io 2 (.mv (.k (.sl .nil 7 [])))])
 (.seq (.seq (.rg [Im 4 0, Io 5 (.call 81 [(.t 4), (.k (.str [123]))]), Ing 6 5])
 (.cond (.t 6) (.rg [Im 7 0, Io 8 (.call 75 [(.t 7), (.k (.int .i64 2))])]) .skip))
 (.seq (.rg [Im 9 0, Io 10 (.call 194 [(.t 9)]), Io 11 (.bls 7 1 [.int .i64 0, .str [], .str [], .sl .nil 6 [], .sl .nil 2 [], .str [], .sl .nil 7 []] [(0, (.t 10))]), Im 3 11])
 (.seq (.block 0 (.loop [0, 3] (.seq (.seq (.rg [Im 12 0, Io 13 (.call 82 [(.t 12), (.k (.str [125]))]), Ing 14 13])
 (.cond (.t 14) .skip (.exit 0)))
 (.block 1 (.rg [Im 15 3, Im 16 0, Io 17 (.call 194 [(.t 16)]), Io 18 (.bls 7 1 [.int .i64 0, .str [], .str [], .sl .nil 6 [], .sl .nil 2 [], .str [], .sl .nil 7 []] [(0, (.t 17))]), Iap 19 7 128 15 18, Im 3 19])))))
 (.seq (.rg [Im 20 3, Im 2 20])
 .ret))))⟩
theorem ck148:chkFn Tryz.prog 148 ir148=true:=by kernel_rfl
def ir149 : AFn := ⟨41, 2, [.c 4 5 true], .seq (.rg [Io 4 (.alloc [.int .i64 0, .str [], .sl .nil 10 [], .sl .nil 2 [], .sl .nil 7 []])])
 (.seq (.rg [Im 6 1, Io 7 (.bld [.int .i64 0, .str [], .sl .nil 10 [], .sl .nil 2 [], .sl .nil 7 []] [(0, 1, (.t 6))]), Io 5 (.alloc [.int .i64 0, .str [], .sl .nil 10 [], .sl .nil 2 [], .sl .nil 7 []]), ⟨none, none, .st 5 (.t 5) (.t 7), []⟩])
 (.seq (.seq (.rg [Im 8 0, Io 9 (.call 76 [(.t 8)]), Io 10 (.fld 0 1 false (.t 9)), Iei 11 10 2])
 (.cond (.t 11) (.rg [Im 12 0, Io 13 (.call 85 [(.t 12)]), If 14 1 5, ⟨none, none, .st 1 (.t 14) (.t 13), []⟩]) .skip))
 (.seq (.seq (.rg [Im 15 0, Io 16 (.call 98 [(.t 15), (.k (.str [40]))])])
 (.cond (.t 16) (.seq (.reg [0, 1, 2, 3, 4, 5, 6, 7] [If 17 2 5, Il 18 1 17, Im 19 0, ⟨some 20, none, .call 195 [(.t 19)], [1]⟩, Io 21 (.bls 10 1 [.str [], .str [], .int .i64 0, .int .i64 0, .bool false, .int .i64 0, .int .i64 0, .str [], .sl .nil 5 [], .sl .nil 6 []] [(0, (.t 20))]), Iap 22 10 136 18 21, If 23 2 5, ⟨none, none, .st 1 (.t 23) (.t 22), []⟩])
 (.block 0 (.loop [0, 4, 5] (.seq (.seq (.rg [Im 24 0, Io 25 (.call 98 [(.t 24), (.k (.str [41]))]), Ing 26 25])
 (.cond (.t 26) .skip (.exit 0)))
 (.block 1 (.reg [0, 1, 2, 3, 4, 5, 6, 7] [If 27 2 5, Il 28 1 27, Im 29 0, ⟨some 30, none, .call 195 [(.t 29)], [1]⟩, Io 31 (.bls 10 1 [.str [], .str [], .int .i64 0, .int .i64 0, .bool false, .int .i64 0, .int .i64 0, .str [], .sl .nil 5 [], .sl .nil 6 []] [(0, (.t 30))]), Iap 32 10 136 28 31, If 33 2 5, ⟨none, none, .st 1 (.t 33) (.t 32), []⟩])))))) .skip))
 (.seq (.rg [Im 34 0, Io 35 (.call 196 [(.t 34), (.k (.bool true))]), If 36 3 5, ⟨none, none, .st 1 (.t 36) (.t 35), []⟩])
 (.seq (.rg [Im 37 0, Io 38 (.call 148 [(.t 37)]), If 39 4 5, ⟨none, none, .st 1 (.t 39) (.t 38), []⟩])
 (.seq (.rg [Ilb 40 5 5, ⟨none, none, .st 5 (.t 4) (.t 40), []⟩])
 .ret))))))⟩
theorem ck149:chkFn Tryz.prog 149 ir149=true:=by kernel_rfl
def ir150 : AFn := ⟨22, 1, [.c 2 4 true], .seq (.rg [Io 2 (.alloc [.str [], .str [], .sl .nil 2 [], .sl .nil 7 []])])
 (.seq (.rg [Im 4 0, Io 5 (.call 197 [(.t 4)]), Io 6 (.bld [.str [], .str [], .sl .nil 2 [], .sl .nil 7 []] [(0, 1, (.t 5))]), Io 3 (.alloc [.str [], .str [], .sl .nil 2 [], .sl .nil 7 []]), ⟨none, none, .st 4 (.t 3) (.t 6), []⟩])
 (.seq (.seq (.rg [Im 7 0, Io 8 (.call 100 [(.t 7), (.k (.str [111, 110]))]), Ing 9 8])
 (.cond (.t 9) (.rg [Im 10 0, Io 11 (.call 75 [(.t 10), (.k (.int .i64 2))])]) .skip))
 (.seq (.rg [Im 12 0, Io 13 (.call 85 [(.t 12)]), If 14 1 3, ⟨none, none, .st 1 (.t 14) (.t 13), []⟩])
 (.seq (.rg [Im 15 0, Io 16 (.call 196 [(.t 15), (.k (.bool true))]), If 17 2 3, ⟨none, none, .st 1 (.t 17) (.t 16), []⟩])
 (.seq (.rg [Im 18 0, Io 19 (.call 148 [(.t 18)]), If 20 3 3, ⟨none, none, .st 1 (.t 20) (.t 19), []⟩])
 (.seq (.rg [Ilb 21 4 3, ⟨none, none, .st 4 (.t 2) (.t 21), []⟩])
 .ret))))))⟩
theorem ck150:chkFn Tryz.prog 150 ir150=true:=by kernel_rfl
def ir152 : AFn := ⟨28, 1, [.t 2, .t 3], .seq (.rg [Io 2 (.mv (.k (.sl .nil 1 []))), Imb 3 false])
 (.seq (.rg [Io 4 (.mv (.k (.sl .nil 1 [])))])
 (.seq (.seq (.rg [Imv 5 0])
 (.block 0 (.loop [0, 4, 5] (.seq (.seq (.rg [Im 8 5, Im 9 0, Ils 10 9, Ilt 11 8 10])
 (.cond (.t 11) .skip (.exit 0)))
 (.block 1 (.seq (.rg [Im 13 0, Im 14 5, Io 15 (.call 200 [(.t 13), (.t 14)]), Im 12 15, Iex 16 12 0, Iex 17 12 1, Im 6 16, Im 7 17])
 (.seq (.seq (.rg [Im 18 7, Iei 19 18 0])
 (.cond (.t 19) (.seq (.rg [Io 2 (.mv (.k (.sl .nil 1 []))), Imb 3 false])
 .ret) .skip))
 (.seq (.rg [Im 20 4, Im 21 6, Io 22 (.bls 1 1 [.int .i64 0] [(0, (.t 21))]), Iap 23 1 8 20 22, Im 4 23])
 (.rg [Im 24 5, Im 25 7, Iad 26 24 25, Im 5 26])))))))))
 (.seq (.rg [Im 27 4, Im 2 27, Imb 3 true])
 .ret)))⟩
theorem ck152:chkFn Tryz.prog 152 ir152=true:=by kernel_rfl
def ir153 : AFn := ⟨25, 3, [.t 6], .seq (.rg [Imb 6 false])
 (.seq (.rg [Im 7 1, Im 8 0, Ils 9 8, Im 10 2, Ils 11 10, Io 12 (.bi .sub .i64 (.t 9) (.t 11)), Io 13 (.bi .leq .i64 (.t 7) (.t 12)), Im 14 13, Jm 15 14 0, Jm 16 14 1, Jm 17 14 1, Jm 18 14 2, Jt 19 14 (.lens (.t 18)), Jt 20 14 (.bi .add .i64 (.t 17) (.t 19)), Jt 21 14 (.sls (.t 15) (some (.t 16)) (some (.t 20))), Jm 22 14 2, Jt 23 14 (.bs .eql (.t 21) (.t 22)), Ipf 24 14 23, Im 6 24])
 .ret)⟩
theorem ck153:chkFn Tryz.prog 153 ir153=true:=by kernel_rfl
def ir154 : AFn := ⟨18, 2, [.t 4], .seq (.rg [Imv 4 0])
 (.seq (.seq (.rg [Imv 5 0])
 (.block 0 (.loop [0, 1, 5] (.seq (.seq (.rg [Im 6 5, Im 7 0, Ils 8 7, Ilt 9 6 8])
 (.cond (.t 9) .skip (.exit 0)))
 (.seq (.block 1 (.seq (.rg [Im 12 0, Im 13 5, Io 14 (.ixs (.t 12) (.t 13)), Im 15 1, Io 16 (.bi .eql .u8 (.t 14) (.t 15))])
 (.cond (.t 16) (.seq (.rg [Im 17 5, Im 4 17])
 .ret) .skip)))
 (.rg [Im 10 5, Iai 11 10 1, Im 5 11]))))))
 (.seq (.rg [Io 4 (.mv (.k (.int .i64 (-1))))])
 .ret))⟩
theorem ck154:chkFn Tryz.prog 154 ir154=true:=by kernel_rfl
def ir155 : AFn := ⟨35, 2, [.t 4, .t 5, .t 6], .seq (.rg [Io 4 (.mv (.k (.str []))), Imv 5 0, Imb 6 false])
 (.seq (.rg [Io 7 (.mv (.k (.str [])))])
 (.seq (.block 0 (.loop [0, 1, 7] (.seq (.seq (.rg [Im 8 1, Im 9 0, Ils 10 9, Ilt 11 8 10])
 (.cond (.t 11) .skip (.exit 0)))
 (.block 1 (.seq (.seq (.rg [Im 12 0, Im 13 1, Io 14 (.call 153 [(.t 12), (.t 13), (.k (.str [34, 34, 34]))])])
 (.cond (.t 14) (.seq (.rg [Im 15 7, Io 16 (.call 201 [(.t 15)]), Im 17 1, Iai 18 17 3, Im 4 16, Im 5 18, Imb 6 true])
 .ret) .skip))
 (.seq (.seq (.rg [Im 19 0, Im 20 1, Io 21 (.call 153 [(.t 19), (.t 20), (.k (.str [92, 34, 34, 34]))])])
 (.cond (.t 21) (.seq (.rg [Im 22 7, Io 23 (.bs .add (.t 22) (.k (.str [34, 34, 34]))), Im 24 1, Iai 25 24 4, Im 7 23, Im 1 25])
 (.exit 1)) .skip))
 (.rg [Im 26 7, Im 27 0, Im 28 1, Im 29 1, Iai 30 29 1, Io 31 (.sls (.t 27) (some (.t 28)) (some (.t 30))), Io 32 (.bs .add (.t 26) (.t 31)), Im 33 1, Iai 34 33 1, Im 7 32, Im 1 34])))))))
 (.seq (.rg [Io 4 (.mv (.k (.str []))), Imv 5 0, Imb 6 false])
 .ret)))⟩
theorem ck155:chkFn Tryz.prog 155 ir155=true:=by kernel_rfl
def ir156 : AFn := ⟨114, 2, [.t 4, .t 5, .t 6], .seq (.rg [Io 4 (.mv (.k (.str []))), Imv 5 0, Imb 6 false])
 (.seq (.rg [Io 7 (.mv (.k (.str [])))])
 (.seq (.rg [Io 8 (.mv (.k (.sl .nil 1 [])))])
 (.block 0 (.loop [0, 1, 7, 8] (.block 1 (.seq (.seq (.rg [Im 15 1, Im 16 0, Ils 17 16, Io 18 (.bi .geq .i64 (.t 15) (.t 17))])
 (.cond (.t 18) (.seq (.rg [Io 4 (.mv (.k (.str []))), Imv 5 0, Imb 6 false])
 .ret) .skip))
 (.seq (.seq (.rg [Im 19 0, Im 20 1, Io 21 (.ixs (.t 19) (.t 20)), Io 22 (.bi .eql .u8 (.t 21) (.k (.int .u8 92))), Im 23 22, Jm 24 23 1, Jt 25 23 (.bi .add .i64 (.t 24) (.k (.int .i64 1))), Jm 26 23 0, Jt 27 23 (.lens (.t 26)), Jt 28 23 (.bi .lss .i64 (.t 25) (.t 27)), Ipf 29 23 28, Im 30 29, Jm 31 30 0, Jm 32 30 1, Jt 33 30 (.bi .add .i64 (.t 32) (.k (.int .i64 1))), Jt 34 30 (.ixs (.t 31) (.t 33)), Jt 35 30 (.bi .eql .u8 (.t 34) (.k (.int .u8 117))), Ipf 36 30 35])
 (.cond (.t 36) (.seq (.rg [Im 37 0, Im 38 1, Iai 39 38 2, Io 40 (.call 202 [(.t 37), (.t 39)]), Im 9 40])
 (.seq (.seq (.rg [Im 41 9, Io 42 (.bi .lss .i64 (.t 41) (.k (.int .i64 0)))])
 (.cond (.t 42) (.seq (.rg [Io 4 (.mv (.k (.str []))), Imv 5 0, Imb 6 false])
 .ret) .skip))
 (.seq (.rg [Im 43 8, Im 44 9, Io 45 (.bls 1 1 [.int .i64 0] [(0, (.t 44))]), Iap 46 1 8 43 45, Im 47 1, Iai 48 47 6, Im 8 46, Im 1 48])
 (.exit 1)))) .skip))
 (.seq (.rg [Im 50 8, Io 51 (.call 203 [(.t 50)]), Im 49 51, Iex 52 49 0, Iex 53 49 1, Im 10 52, Im 11 53])
 (.seq (.seq (.rg [Im 54 11, Ing 55 54])
 (.cond (.t 55) (.seq (.rg [Io 4 (.mv (.k (.str []))), Imv 5 0, Imb 6 false])
 .ret) .skip))
 (.seq (.rg [Im 56 7, Im 57 10, Io 58 (.bs .add (.t 56) (.t 57)), Im 7 58, Io 8 (.mv (.k (.sl .nil 1 [])))])
 (.seq (.seq (.rg [Im 59 0, Im 60 1, Io 61 (.ixs (.t 59) (.t 60)), Io 62 (.bi .eql .u8 (.t 61) (.k (.int .u8 34)))])
 (.cond (.t 62) (.seq (.rg [Im 63 7, Im 64 1, Iai 65 64 1, Im 4 63, Im 5 65, Imb 6 true])
 .ret) .skip))
 (.seq (.seq (.rg [Im 66 0, Im 67 1, Io 68 (.ixs (.t 66) (.t 67)), Io 69 (.bi .eql .u8 (.t 68) (.k (.int .u8 10))), Im 70 69, Fm 71 70 0, Fm 72 70 1, Jf 73 70 (.ixs (.t 71) (.t 72)), Jf 74 70 (.bi .eql .u8 (.t 73) (.k (.int .u8 13))), Ipt 75 70 74])
 (.cond (.t 75) (.seq (.rg [Io 4 (.mv (.k (.str []))), Imv 5 0, Imb 6 false])
 .ret) .skip))
 (.seq (.seq (.rg [Im 76 0, Im 77 1, Io 78 (.ixs (.t 76) (.t 77)), Io 79 (.bi .neq .u8 (.t 78) (.k (.int .u8 92)))])
 (.cond (.t 79) (.seq (.rg [Im 81 0, Im 82 1, Io 83 (.call 200 [(.t 81), (.t 82)]), Im 80 83, Iex 84 80 0, Iex 85 80 1, Im 12 84, Im 13 85])
 (.seq (.rg [Im 86 7, Im 87 12, Io 88 (.call 204 [(.t 87)]), Io 89 (.bs .add (.t 86) (.t 88)), Im 90 1, Im 91 13, Io 92 (.mm true (.t 91) [(.k (.int .i64 1))]), Iad 93 90 92, Im 7 89, Im 1 93])
 (.exit 1))) .skip))
 (.seq (.seq (.rg [Im 94 1, Iai 95 94 1, Im 96 0, Ils 97 96, Io 98 (.bi .geq .i64 (.t 95) (.t 97))])
 (.cond (.t 98) (.seq (.rg [Io 4 (.mv (.k (.str []))), Imv 5 0, Imb 6 false])
 .ret) .skip))
 (.seq (.rg [Im 99 0, Im 100 1, Iai 101 100 1, Io 102 (.ixs (.t 99) (.t 101)), Io 103 (.call 154 [(.k (.str [34, 92, 47, 98, 102, 110, 114, 116])), (.t 102)]), Im 14 103])
 (.seq (.seq (.rg [Im 104 14, Io 105 (.bi .lss .i64 (.t 104) (.k (.int .i64 0)))])
 (.cond (.t 105) (.seq (.rg [Io 4 (.mv (.k (.str []))), Imv 5 0, Imb 6 false])
 .ret) .skip))
 (.rg [Im 106 7, Im 107 14, Io 108 (.ixs (.k (.str [34, 92, 47, 8, 12, 10, 13, 9])) (.t 107)), Io 109 (.bls 1 1 [.int .u8 0] [(0, (.t 108))]), Io 110 (.cvb2s (.t 109)), Io 111 (.bs .add (.t 106) (.t 110)), Im 112 1, Iai 113 112 2, Im 7 111, Im 1 113])))))))))))))))))⟩
theorem ck156:chkFn Tryz.prog 156 ir156=true:=by kernel_rfl
def ir157 : AFn := ⟨103, 1, [.t 2, .t 3], .seq (.rg [Imv 2 0, Imv 3 0])
 (.seq (.rg [Imv 4 0])
 (.join [0, 4] (.seq (.rg [Im 8 4, Im 9 0, Ils 10 9, Ilt 11 8 10, Im 12 11, Jm 13 12 0, Jm 14 12 4, Jt 15 12 (.ixs (.t 13) (.t 14)), Jt 16 12 (.bi .eql .u8 (.t 15) (.k (.int .u8 45))), Ipf 17 12 16])
 (.cond (.t 17) (.rg [Im 18 4, Iai 19 18 1, Im 4 19]) .skip))
 (.seq (.rg [Im 20 0, Im 21 4, Io 22 (.call 205 [(.t 20), (.t 21)]), Im 5 22])
 (.seq (.seq (.rg [Im 23 5, Iei 24 23 0])
 (.cond (.t 24) (.seq (.rg [Imv 2 0, Imv 3 0])
 .ret) .skip))
 (.join [0, 4, 5] (.seq (.rg [Im 25 0, Im 26 4, Io 27 (.ixs (.t 25) (.t 26)), Io 28 (.bi .eql .u8 (.t 27) (.k (.int .u8 48)))])
 (.cond (.t 28) (.rg [Imv 5 1]) .skip))
 (.seq (.rg [Im 29 4, Im 30 5, Iad 31 29 30, Im 4 31, Imv 6 3])
 (.join [0, 4, 6] (.seq (.rg [Im 32 4, Im 33 0, Ils 34 33, Ilt 35 32 34, Im 36 35, Jm 37 36 0, Jm 38 36 4, Jt 39 36 (.ixs (.t 37) (.t 38)), Jt 40 36 (.bi .eql .u8 (.t 39) (.k (.int .u8 46))), Ipf 41 36 40, Im 42 41, Jm 43 42 0, Jm 44 42 4, Jt 45 42 (.bi .add .i64 (.t 44) (.k (.int .i64 1))), Jt 46 42 (.call 205 [(.t 43), (.t 45)]), Jt 47 42 (.bi .gtr .i64 (.t 46) (.k (.int .i64 0))), Ipf 48 42 47])
 (.cond (.t 48) (.rg [Im 49 4, Iai 50 49 1, Im 51 0, Im 52 4, Iai 53 52 1, Io 54 (.call 205 [(.t 51), (.t 53)]), Iad 55 50 54, Im 4 55, Imv 6 4]) .skip))
 (.join [4, 6] (.seq (.rg [Im 56 4, Im 57 0, Ils 58 57, Ilt 59 56 58, Im 60 59, Jm 61 60 0, Jm 62 60 4, Jt 63 60 (.ixs (.t 61) (.t 62)), Jt 64 60 (.bi .eql .u8 (.t 63) (.k (.int .u8 101))), Jm 65 60 64, Fm 66 65 0, Fm 67 65 4, Jf 68 65 (.ixs (.t 66) (.t 67)), Jf 69 65 (.bi .eql .u8 (.t 68) (.k (.int .u8 69))), Jt 70 60 (.pick (.t 65) (.k (.bool true)) (.t 69)), Ipf 71 60 70])
 (.cond (.t 71) (.seq (.rg [Im 72 4, Iai 73 72 1, Im 7 73])
 (.join [0, 4, 6, 7] (.seq (.rg [Im 74 7, Im 75 0, Ils 76 75, Ilt 77 74 76, Im 78 77, Jm 79 78 0, Jm 80 78 7, Jt 81 78 (.ixs (.t 79) (.t 80)), Jt 82 78 (.bi .eql .u8 (.t 81) (.k (.int .u8 43))), Jm 83 78 82, Fm 84 83 0, Fm 85 83 7, Jf 86 83 (.ixs (.t 84) (.t 85)), Jf 87 83 (.bi .eql .u8 (.t 86) (.k (.int .u8 45))), Jt 88 78 (.pick (.t 83) (.k (.bool true)) (.t 87)), Ipf 89 78 88])
 (.cond (.t 89) (.rg [Im 90 7, Iai 91 90 1, Im 7 91]) .skip))
 (.seq (.rg [Im 92 0, Im 93 7, Io 94 (.call 205 [(.t 92), (.t 93)]), Igi 95 94 0])
 (.cond (.t 95) (.rg [Im 96 7, Im 97 0, Im 98 7, Io 99 (.call 205 [(.t 97), (.t 98)]), Iad 100 96 99, Im 4 100, Imv 6 4]) .skip)))) .skip))
 (.seq (.rg [Im 101 4, Im 102 6, Im 2 101, Im 3 102])
 .ret)))))))))⟩
theorem ck157:chkFn Tryz.prog 157 ir157=true:=by kernel_rfl
def ir158 : AFn := ⟨10, 2, [.t 4], .seq (.rg [Imb 4 false])
 (.seq (.rg [Im 5 0, Io 6 (.call 76 [(.t 5)]), Im 7 1, Io 8 (.bld [.int .i64 0, .str []] [(0, 1, (.k (.int .i64 2))), (1, 1, (.t 7))]), Io 9 (.eqa false [(.i .i64), .s] (.t 6) (.t 8)), Im 4 9])
 .ret)⟩
theorem ck158:chkFn Tryz.prog 158 ir158=true:=by kernel_rfl
def ir175 : AFn := ⟨63, 1, [.t 2], .seq (.rg [Io 2 (.mv (.k (.str [])))])
 (.seq (.rg [Im 6 0, Io 7 (.call 216 [(.t 6)]), Im 3 7])
 (.seq (.seq (.rg [Im 8 3, Io 9 (.call 217 [(.t 8)]), Im 4 9])
 (.seq (.rg [Im 10 4, Igi 11 10 0])
 (.cond (.t 11) (.seq (.rg [Imv 5 1])
 (.block 0 (.loop [3, 4, 5] (.seq (.seq (.rg [Im 12 5, Im 13 3, Iln 14 13, Ilt 15 12 14])
 (.cond (.t 15) .skip (.exit 0)))
 (.seq (.block 1 (.reg [0, 1, 2, 3, 4, 5, 6, 7, 8, 9, 10, 11, 12, 13, 14, 15] [Im 18 3, Im 19 5, Im 20 3, Im 21 5, Iia 22 1 20 21, Il 23 1 22, Im 24 4, Im 25 3, Im 26 5, Iia 27 1 25 26, Il 28 1 27, Ils 29 28, Io 30 (.mm false (.t 24) [(.t 29)]), Io 31 (.sls (.t 23) (some (.t 30)) none), Iia 32 1 18 19, ⟨none, none, .st 1 (.t 32) (.t 31), []⟩]))
 (.rg [Im 16 5, Iai 17 16 1, Im 5 17])))))) .skip)))
 (.seq (.block 2 (.loop [3] (.seq (.seq (.rg [Im 33 3, Iln 34 33, Igi 35 34 0, Im 36 35, Jm 37 36 3, Jt 38 36 (.ia 1 (.t 37) (.k (.int .i64 0))), Jl 39 36 1 38, Jt 40 36 (.call 218 [(.t 39)]), Ipf 41 36 40])
 (.cond (.t 41) .skip (.exit 2)))
 (.block 3 (.rg [Im 42 3, Io 43 (.sll 1 (.t 42) (some (.k (.int .i64 1))) none none), Im 3 43])))))
 (.seq (.block 4 (.loop [3] (.seq (.seq (.rg [Im 44 3, Iln 45 44, Igi 46 45 0, Im 47 46, Jm 48 47 3, Jm 49 47 3, Jt 50 47 (.len (.t 49)), Jt 51 47 (.bi .sub .i64 (.t 50) (.k (.int .i64 1))), Jt 52 47 (.ia 1 (.t 48) (.t 51)), Jl 53 47 1 52, Jt 54 47 (.call 218 [(.t 53)]), Ipf 55 47 54])
 (.cond (.t 55) .skip (.exit 4)))
 (.block 5 (.rg [Im 56 3, Im 57 3, Iln 58 57, Isi 59 58 1, Io 60 (.sll 1 (.t 56) none (some (.t 59)) none), Im 3 60])))))
 (.seq (.rg [Io 61 (.frz 1 (.t 3)), Io 62 (.call 63 [(.t 61), (.k (.str [10]))]), Im 2 62])
 .ret)))))⟩
theorem ck175:chkFn Tryz.prog 175 ir175=true:=by kernel_rfl
def ir176 : AFn := ⟨48, 2, [.t 4], .seq (.rg [Imv 4 0])
 (.seq (.seq (.rg [Im 8 1, Io 9 (.call 117 [(.t 8), (.k (.str [117]))])])
 (.cond (.t 9) (.seq (.rg [Im 11 1, Io 12 (.sls (.t 11) (some (.k (.int .i64 1))) none), Io 13 (.call 219 [(.t 12)]), Im 10 13, Iex 14 10 0, Iex 15 10 1, Im 5 14, Im 6 15])
 (.seq (.seq (.rg [Im 16 6, Ing 17 16])
 (.cond (.t 17) (.seq (.rg [Imv 4 0])
 .ret) .skip))
 (.seq (.rg [Im 18 0, Im 19 0, Ink 20 19, If 21 1 20, Il 22 1 21, Im 23 5, Io 24 (.bls 1 1 [.int .i64 0] [(0, (.t 23))]), Iap 25 1 8 22 24, Ink 26 18, If 27 1 26, ⟨none, none, .st 1 (.t 27) (.t 25), []⟩])
 (.seq (.rg [Imv 4 5])
 .ret)))) .skip))
 (.seq (.seq (.rg [Im 28 1, Io 29 (.bs .eql (.t 28) (.k (.str [])))])
 (.cond (.t 29) (.seq (.rg [Imv 4 0])
 .ret) .skip))
 (.seq (.rg [Im 30 1, Io 31 (.ixs (.t 30) (.k (.int .i64 0))), Io 32 (.call 122 [(.k (.str [34, 92, 47, 98, 102, 110, 114, 116])), (.t 31)]), Im 7 32])
 (.seq (.seq (.rg [Im 33 7, Io 34 (.bi .lss .i64 (.t 33) (.k (.int .i64 0)))])
 (.cond (.t 34) (.seq (.rg [Imv 4 0])
 .ret) .skip))
 (.seq (.rg [Im 35 0, Io 36 (.call 177 [(.t 35)])])
 (.seq (.reg [0, 1, 2, 3, 4, 5, 6, 7, 8, 9, 10, 11] [Im 37 0, Im 38 0, Ink 39 38, If 40 0 39, Il 41 1 40, Im 42 7, Io 43 (.ixs (.k (.str [34, 92, 47, 8, 12, 10, 13, 9])) (.t 42)), Io 44 (.bls 1 1 [.int .u8 0] [(0, (.t 43))]), Iap 45 1 1 41 44, Ink 46 37, If 47 0 46, ⟨none, none, .st 1 (.t 47) (.t 45), []⟩])
 (.seq (.rg [Imv 4 1])
 .ret)))))))⟩
theorem ck176:chkFn Tryz.prog 176 ir176=true:=by kernel_rfl
def ir177 : AFn := ⟨34, 1, [], .seq (.rg [Im 5 0, Ink 6 5, If 7 1 6, Il 8 1 7, Io 9 (.call 220 [(.t 8)]), Im 4 9, Iex 10 4 0, Iex 11 4 1, Im 2 10, Im 3 11])
 (.reg [0, 1, 2, 3, 4, 5, 6, 7, 9, 10, 11, 12, 8, 13, 14, 15, 16, 17, 18, 19, 20, 21, 22, 23, 24] [Im 12 0, Im 13 0, Im 14 0, Im 15 0, Ink 16 15, If 17 0 16, Il 18 1 17, Im 19 2, Im 21 0, Ink 22 21, If 23 2 22, Il 24 1 23, ⟨some 20, none, .apps (.t 18) (.t 19), [11]⟩, Im 25 24, Jm 26 25 3, Ipf 27 25 26, Ink 28 12, If 29 0 28, ⟨none, none, .st 1 (.t 29) (.t 20), []⟩, Ink 30 13, If 31 1 30, ⟨none, none, .st 1 (.t 31) (.k (.sl .nil 1 [])), []⟩, Ink 32 14, If 33 2 32, ⟨none, none, .st 1 (.t 33) (.t 27), []⟩])⟩
theorem ck177:chkFn Tryz.prog 177 ir177=true:=by kernel_rfl
def ir179 : AFn := ⟨24, 1, [.t 2], .seq (.rg [Imv 2 0])
 (.seq (.rg [Imv 3 0])
 (.seq (.seq (.rg [Im 5 0, Io 6 (.call 117 [(.t 5), (.k (.str [45]))])])
 (.cond (.t 6) (.rg [Imv 3 1]) .skip))
 (.seq (.rg [Im 7 0, Im 8 3, Io 9 (.sls (.t 7) (some (.t 8)) none), Io 10 (.call 180 [(.t 9)]), Im 4 10])
 (.seq (.block 0 (.seq (.rg [Im 12 4, Iei 13 12 0, Im 11 13])
 (.cond (.t 11) (.seq (.rg [Imv 2 0])
 .ret) (.seq (.rg [Im 15 0, Im 16 3, Io 17 (.ixs (.t 15) (.t 16)), Io 18 (.bi .eql .u8 (.t 17) (.k (.int .u8 48))), Im 14 18])
 (.cond (.t 14) (.seq (.rg [Im 19 3, Iai 20 19 1, Im 2 20])
 .ret) .skip)))))
 (.seq (.rg [Im 21 3, Im 22 4, Iad 23 21 22, Im 2 23])
 .ret)))))⟩
theorem ck179:chkFn Tryz.prog 179 ir179=true:=by kernel_rfl
def ir180 : AFn := ⟨17, 1, [.t 2], .seq (.rg [Imv 2 0])
 (.seq (.rg [Imv 3 0])
 (.seq (.block 0 (.loop [0, 3] (.seq (.seq (.rg [Im 4 3, Im 5 0, Ils 6 5, Ilt 7 4 6, Im 8 7, Jm 9 8 0, Jm 10 8 3, Jt 11 8 (.ixs (.t 9) (.t 10)), Jt 12 8 (.call 126 [(.t 11)]), Ipf 13 8 12])
 (.cond (.t 13) .skip (.exit 0)))
 (.block 1 (.rg [Im 14 3, Iai 15 14 1, Im 3 15])))))
 (.seq (.rg [Im 16 3, Im 2 16])
 .ret)))⟩
theorem ck180:chkFn Tryz.prog 180 ir180=true:=by kernel_rfl
def ir181 : AFn := ⟨39, 1, [.t 2], .seq (.rg [Imv 2 0])
 (.seq (.seq (.rg [Im 5 0, Io 6 (.bs .eql (.t 5) (.k (.str []))), Im 7 6, Fm 8 7 0, Jf 9 7 (.ixs (.t 8) (.k (.int .i64 0))), Jf 10 7 (.bi .neq .u8 (.t 9) (.k (.int .u8 101))), Fm 11 7 10, Jm 12 11 0, Jt 13 11 (.ixs (.t 12) (.k (.int .i64 0))), Jt 14 11 (.bi .neq .u8 (.t 13) (.k (.int .u8 69))), Jf 15 7 (.pick (.t 11) (.t 14) (.k (.bool false))), Ipt 16 7 15])
 (.cond (.t 16) (.seq (.rg [Imv 2 0])
 .ret) .skip))
 (.seq (.rg [Imv 3 1])
 (.seq (.seq (.rg [Im 17 0, Ils 18 17, Igi 19 18 1, Im 20 19, Jm 21 20 0, Jt 22 20 (.ixs (.t 21) (.k (.int .i64 1))), Jt 23 20 (.bi .eql .u8 (.t 22) (.k (.int .u8 43))), Jm 24 20 23, Fm 25 24 0, Jf 26 24 (.ixs (.t 25) (.k (.int .i64 1))), Jf 27 24 (.bi .eql .u8 (.t 26) (.k (.int .u8 45))), Jt 28 20 (.pick (.t 24) (.k (.bool true)) (.t 27)), Ipf 29 20 28])
 (.cond (.t 29) (.rg [Imv 3 2]) .skip))
 (.seq (.rg [Im 30 0, Im 31 3, Io 32 (.sls (.t 30) (some (.t 31)) none), Io 33 (.call 180 [(.t 32)]), Im 4 33])
 (.seq (.seq (.rg [Im 34 4, Iei 35 34 0])
 (.cond (.t 35) (.seq (.rg [Imv 2 0])
 .ret) .skip))
 (.seq (.rg [Im 36 3, Im 37 4, Iad 38 36 37, Im 2 38])
 .ret))))))⟩
theorem ck181:chkFn Tryz.prog 181 ir181=true:=by kernel_rfl
def ir194 : AFn := ⟨31, 1, [.c 2 7 true], .seq (.rg [Io 2 (.alloc [.int .i64 0, .str [], .str [], .sl .nil 6 [], .sl .nil 2 [], .str [], .sl .nil 7 []])])
 (.seq (.seq (.rg [Im 4 0, Io 5 (.call 98 [(.t 4), (.k (.str [46, 46, 46]))])])
 (.cond (.t 5) (.seq (.rg [Im 6 0, Io 7 (.call 232 [(.t 6)]), ⟨none, none, .st 7 (.t 2) (.t 7), []⟩])
 .ret) .skip))
 (.seq (.rg [Im 8 0, Io 9 (.call 85 [(.t 8)]), Io 10 (.bld [.int .i64 0, .str [], .str [], .sl .nil 6 [], .sl .nil 2 [], .str [], .sl .nil 7 []] [(2, 1, (.t 9))]), Io 3 (.alloc [.int .i64 0, .str [], .str [], .sl .nil 6 [], .sl .nil 2 [], .str [], .sl .nil 7 []]), ⟨none, none, .st 7 (.t 3) (.t 10), []⟩])
 (.seq (.seq (.rg [Im 11 0, Io 12 (.call 98 [(.t 11), (.k (.str [58]))])])
 (.cond (.t 12) (.reg [0, 1, 2, 4, 3, 5, 6, 7] [If 13 2 3, Il 14 1 13, Im 15 0, If 17 1 3, ⟨some 16, none, .call 85 [(.t 15)], [1]⟩, ⟨none, none, .st 1 (.t 17) (.t 14), []⟩, If 18 2 3, ⟨none, none, .st 1 (.t 18) (.t 16), []⟩]) .skip))
 (.seq (.rg [Im 19 0, Io 20 (.call 233 [(.t 19), (.k (.bool false))]), If 21 3 3, ⟨none, none, .st 1 (.t 21) (.t 20), []⟩])
 (.seq (.rg [Im 22 0, Io 23 (.call 196 [(.t 22), (.k (.bool false))]), If 24 4 3, ⟨none, none, .st 1 (.t 24) (.t 23), []⟩])
 (.seq (.seq (.rg [Im 25 0, Io 26 (.call 97 [(.t 25), (.k (.str [123]))])])
 (.cond (.t 26) (.rg [Im 27 0, Io 28 (.call 148 [(.t 27)]), If 29 6 3, ⟨none, none, .st 1 (.t 29) (.t 28), []⟩]) .skip))
 (.seq (.rg [Ilb 30 7 3, ⟨none, none, .st 7 (.t 2) (.t 30), []⟩])
 .ret)))))))⟩
theorem ck194:chkFn Tryz.prog 194 ir194=true:=by kernel_rfl
def ir195 : AFn := ⟨21, 1, [.c 2 10 true], .seq (.rg [Io 2 (.alloc [.str [], .str [], .int .i64 0, .int .i64 0, .bool false, .int .i64 0, .int .i64 0, .str [], .sl .nil 5 [], .sl .nil 6 []])])
 (.seq (.rg [Im 4 0, Io 5 (.call 84 [(.t 4), (.k (.str [36]))])])
 (.seq (.rg [Im 6 0, Io 7 (.call 85 [(.t 6)]), Io 8 (.bld [.str [], .str [], .int .i64 0, .int .i64 0, .bool false, .int .i64 0, .int .i64 0, .str [], .sl .nil 5 [], .sl .nil 6 []] [(0, 1, (.t 7))]), Io 3 (.alloc [.str [], .str [], .int .i64 0, .int .i64 0, .bool false, .int .i64 0, .int .i64 0, .str [], .sl .nil 5 [], .sl .nil 6 []]), ⟨none, none, .st 10 (.t 3) (.t 8), []⟩])
 (.seq (.rg [Im 9 0, Io 10 (.call 84 [(.t 9), (.k (.str [58]))])])
 (.seq (.rg [Im 11 0, Io 12 (.call 38 [(.t 11)]), If 13 1 3, ⟨none, none, .st 3 (.t 13) (.t 12), []⟩])
 (.seq (.seq (.rg [Im 14 0, Io 15 (.call 98 [(.t 14), (.k (.str [61]))])])
 (.cond (.t 15) (.rg [Im 16 0, Io 17 (.call 33 [(.t 16), (.k (.bool true))]), If 18 4 3, ⟨none, none, .st 1 (.t 18) (.k (.bool true)), []⟩, If 19 5 3, ⟨none, none, .st 5 (.t 19) (.t 17), []⟩]) .skip))
 (.seq (.rg [Ilb 20 10 3, ⟨none, none, .st 10 (.t 2) (.t 20), []⟩])
 .ret))))))⟩
theorem ck195:chkFn Tryz.prog 195 ir195=true:=by kernel_rfl
def ir196 : AFn := ⟨18, 2, [.t 4], .seq (.rg [Io 4 (.mv (.k (.sl .nil 2 [])))])
 (.seq (.rg [Io 5 (.mv (.k (.sl .nil 2 [])))])
 (.seq (.block 0 (.loop [0, 1, 5] (.seq (.seq (.rg [Im 6 0, Io 7 (.call 98 [(.t 6), (.k (.str [64]))])])
 (.cond (.t 7) .skip (.exit 0)))
 (.block 1 (.rg [Im 8 5, Im 9 0, Io 10 (.call 85 [(.t 9)]), Im 11 0, Im 12 1, Io 13 (.call 233 [(.t 11), (.t 12)]), Io 14 (.bld [.str [], .sl .nil 6 []] [(0, 1, (.t 10)), (1, 1, (.t 13))]), Io 15 (.bls 2 1 [.str [], .sl .nil 6 []] [(0, (.t 14))]), Iap 16 2 40 8 15, Im 5 16])))))
 (.seq (.rg [Im 17 5, Im 4 17])
 .ret)))⟩
theorem ck196:chkFn Tryz.prog 196 ir196=true:=by kernel_rfl
def ir197 : AFn := ⟨9, 1, [.t 2], .seq (.rg [Io 2 (.mv (.k (.str [])))])
 (.seq (.seq (.rg [Im 3 0, Io 4 (.call 158 [(.t 3), (.k (.str [111, 110]))])])
 (.cond (.t 4) (.rg [Im 5 0, Io 6 (.call 75 [(.t 5), (.k (.int .i64 2))])]) .skip))
 (.seq (.rg [Im 7 0, Io 8 (.call 85 [(.t 7)]), Im 2 8])
 .ret))⟩
theorem ck197:chkFn Tryz.prog 197 ir197=true:=by kernel_rfl
def ir200 : AFn := ⟨98, 2, [.t 4, .t 5], .seq (.rg [Imv 4 0, Imv 5 0])
 (.seq (.seq (.rg [Im 11 1, Io 12 (.bi .lss .i64 (.t 11) (.k (.int .i64 0))), Im 13 12, Fm 14 13 1, Fm 15 13 0, Jf 16 13 (.lens (.t 15)), Jf 17 13 (.bi .geq .i64 (.t 14) (.t 16)), Ipt 18 13 17])
 (.cond (.t 18) (.seq (.rg [Imv 4 0, Imv 5 0])
 .ret) .skip))
 (.seq (.rg [Im 19 0, Im 20 1, Io 21 (.ixs (.t 19) (.t 20)), Io 22 (.cvi .i64 (.t 21)), Im 6 22])
 (.seq (.seq (.rg [Im 23 6, Io 24 (.bi .lss .i64 (.t 23) (.k (.int .i64 128)))])
 (.cond (.t 24) (.seq (.rg [Im 25 6, Im 4 25, Imv 5 1])
 .ret) .skip))
 (.seq (.rg [Imv 7 0, Imv 8 0])
 (.join [0, 1, 6, 7, 8] (.block 0 (.seq (.rg [Im 27 6, Io 28 (.bi .geq .i64 (.t 27) (.k (.int .i64 194))), Im 29 28, Jm 30 29 6, Jt 31 29 (.bi .lss .i64 (.t 30) (.k (.int .i64 224))), Ipf 32 29 31, Im 26 32])
 (.cond (.t 26) (.rg [Im 33 6, Io 34 (.bi .and .i64 (.t 33) (.k (.int .i64 31))), Imv 7 2, Imv 8 128, Im 6 34]) (.seq (.rg [Im 36 6, Io 37 (.bi .geq .i64 (.t 36) (.k (.int .i64 224))), Im 38 37, Jm 39 38 6, Jt 40 38 (.bi .lss .i64 (.t 39) (.k (.int .i64 240))), Ipf 41 38 40, Im 35 41])
 (.cond (.t 35) (.rg [Im 42 6, Io 43 (.bi .and .i64 (.t 42) (.k (.int .i64 15))), Imv 7 3, Imv 8 2048, Im 6 43]) (.seq (.rg [Im 45 6, Io 46 (.bi .geq .i64 (.t 45) (.k (.int .i64 240))), Im 47 46, Jm 48 47 6, Jt 49 47 (.bi .lss .i64 (.t 48) (.k (.int .i64 245))), Ipf 50 47 49, Im 44 50])
 (.cond (.t 44) (.rg [Im 51 6, Io 52 (.bi .and .i64 (.t 51) (.k (.int .i64 7))), Imv 7 4, Imv 8 65536, Im 6 52]) (.seq (.rg [Imv 4 0, Imv 5 0])
 .ret))))))))
 (.seq (.seq (.rg [Im 53 7, Im 54 0, Ils 55 54, Im 56 1, Io 57 (.bi .sub .i64 (.t 55) (.t 56)), Io 58 (.bi .gtr .i64 (.t 53) (.t 57))])
 (.cond (.t 58) (.seq (.rg [Imv 4 0, Imv 5 0])
 .ret) .skip))
 (.seq (.seq (.rg [Imv 9 1])
 (.block 1 (.loop [0, 1, 6, 7, 8, 9] (.seq (.seq (.rg [Im 59 9, Im 60 7, Ilt 61 59 60])
 (.cond (.t 61) .skip (.exit 1)))
 (.seq (.block 2 (.seq (.rg [Im 64 0, Im 65 1, Im 66 9, Iad 67 65 66, Io 68 (.ixs (.t 64) (.t 67)), Io 69 (.cvi .i64 (.t 68)), Im 10 69])
 (.seq (.seq (.rg [Im 70 10, Io 71 (.bi .lss .i64 (.t 70) (.k (.int .i64 128))), Im 72 71, Fm 73 72 10, Jf 74 72 (.bi .gtr .i64 (.t 73) (.k (.int .i64 191))), Ipt 75 72 74])
 (.cond (.t 75) (.seq (.rg [Imv 4 0, Imv 5 0])
 .ret) .skip))
 (.rg [Im 76 6, Io 77 (.shf .shl (.t 76) (.k (.int .u64 6))), Im 78 10, Io 79 (.bi .and .i64 (.t 78) (.k (.int .i64 63))), Io 80 (.bi .or .i64 (.t 77) (.t 79)), Im 6 80]))))
 (.rg [Im 62 9, Iai 63 62 1, Im 9 63]))))))
 (.seq (.seq (.rg [Im 81 6, Im 82 8, Ilt 83 81 82, Im 84 83, Fm 85 84 6, Jf 86 84 (.bi .gtr .i64 (.t 85) (.k (.int .i64 1114111))), Ipt 87 84 86, Im 88 87, Fm 89 88 6, Jf 90 88 (.bi .geq .i64 (.t 89) (.k (.int .i64 55296))), Fm 91 88 90, Jm 92 91 6, Jt 93 91 (.bi .lss .i64 (.t 92) (.k (.int .i64 57344))), Jf 94 88 (.pick (.t 91) (.t 93) (.k (.bool false))), Ipt 95 88 94])
 (.cond (.t 95) (.seq (.rg [Imv 4 0, Imv 5 0])
 .ret) .skip))
 (.seq (.rg [Im 96 6, Im 97 7, Im 4 96, Im 5 97])
 .ret)))))))))⟩
theorem ck200:chkFn Tryz.prog 200 ir200=true:=by kernel_rfl
def ir201 : AFn := ⟨81, 1, [.t 2], .seq (.rg [Io 2 (.mv (.k (.str [])))])
 (.seq (.rg [Im 10 0, Io 11 (.call 239 [(.t 10)]), Im 3 11])
 (.seq (.rg [Im 12 3, Io 13 (.call 240 [(.t 12)]), Io 14 (.mm true (.t 13) [(.k (.int .i64 0))]), Im 4 14])
 (.seq (.seq (.rg [Imv 5 1])
 (.block 0 (.loop [3, 4, 5] (.seq (.seq (.rg [Im 15 5, Im 16 3, Iln 17 16, Ilt 18 15 17])
 (.cond (.t 18) .skip (.exit 0)))
 (.seq (.block 1 (.reg [0, 1, 2, 3, 4, 5, 6, 7, 8, 9, 10, 11, 12, 13, 14, 15] [Im 21 3, Im 22 5, Im 23 3, Im 24 5, Iia 25 1 23 24, Il 26 1 25, Im 27 4, Im 28 3, Im 29 5, Iia 30 1 28 29, Il 31 1 30, Ils 32 31, Io 33 (.mm false (.t 27) [(.t 32)]), Io 34 (.sls (.t 26) (some (.t 33)) none), Iia 35 1 21 22, ⟨none, none, .st 1 (.t 35) (.t 34), []⟩]))
 (.rg [Im 19 5, Iai 20 19 1, Im 5 20]))))))
 (.seq (.rg [Im 36 3, Iln 37 36, Imv 6 0, Im 7 37])
 (.seq (.block 2 (.loop [3, 6, 7] (.seq (.seq (.rg [Im 38 6, Im 39 7, Ilt 40 38 39, Im 41 40, Jm 42 41 3, Jm 43 41 6, Jt 44 41 (.ia 1 (.t 42) (.t 43)), Jl 45 41 1 44, Jt 46 41 (.call 241 [(.t 45)]), Ipf 47 41 46])
 (.cond (.t 47) .skip (.exit 2)))
 (.block 3 (.rg [Im 48 6, Iai 49 48 1, Im 6 49])))))
 (.seq (.block 4 (.loop [3, 6, 7] (.seq (.seq (.rg [Im 50 7, Im 51 6, Io 52 (.bi .gtr .i64 (.t 50) (.t 51)), Im 53 52, Jm 54 53 3, Jm 55 53 7, Jt 56 53 (.bi .sub .i64 (.t 55) (.k (.int .i64 1))), Jt 57 53 (.ia 1 (.t 54) (.t 56)), Jl 58 53 1 57, Jt 59 53 (.call 241 [(.t 58)]), Ipf 60 53 59])
 (.cond (.t 60) .skip (.exit 4)))
 (.block 5 (.rg [Im 61 7, Isi 62 61 1, Im 7 62])))))
 (.seq (.rg [Io 8 (.mv (.k (.str [])))])
 (.seq (.seq (.rg [Im 63 6, Im 9 63])
 (.block 6 (.loop [3, 6, 7, 8, 9] (.seq (.seq (.rg [Im 64 9, Im 65 7, Ilt 66 64 65])
 (.cond (.t 66) .skip (.exit 6)))
 (.seq (.block 7 (.seq (.seq (.rg [Im 69 9, Im 70 6, Io 71 (.bi .gtr .i64 (.t 69) (.t 70))])
 (.cond (.t 71) (.rg [Im 72 8, Io 73 (.bs .add (.t 72) (.k (.str [10]))), Im 8 73]) .skip))
 (.rg [Im 74 8, Im 75 3, Im 76 9, Iia 77 1 75 76, Il 78 1 77, Io 79 (.bs .add (.t 74) (.t 78)), Im 8 79])))
 (.rg [Im 67 9, Iai 68 67 1, Im 9 68]))))))
 (.seq (.rg [Im 80 8, Im 2 80])
 .ret)))))))))⟩
theorem ck201:chkFn Tryz.prog 201 ir201=true:=by kernel_rfl
def ir202 : AFn := ⟨61, 2, [.t 4], .seq (.rg [Imv 4 0])
 (.seq (.seq (.rg [Im 8 0, Ils 9 8, Im 10 1, Io 11 (.bi .sub .i64 (.t 9) (.t 10)), Io 12 (.bi .lss .i64 (.t 11) (.k (.int .i64 4)))])
 (.cond (.t 12) (.seq (.rg [Io 4 (.mv (.k (.int .i64 (-1))))])
 .ret) .skip))
 (.seq (.rg [Imv 5 0])
 (.seq (.seq (.rg [Im 13 1, Im 6 13])
 (.block 0 (.loop [0, 1, 5, 6] (.seq (.seq (.rg [Im 14 6, Im 15 1, Iai 16 15 4, Ilt 17 14 16])
 (.cond (.t 17) .skip (.exit 0)))
 (.seq (.block 1 (.seq (.rg [Im 20 0, Im 21 6, Io 22 (.ixs (.t 20) (.t 21)), Im 7 22])
 (.block 2 (.seq (.rg [Im 24 7, Io 25 (.call 147 [(.t 24)]), Im 23 25])
 (.cond (.t 23) (.rg [Im 26 5, Io 27 (.shf .shl (.t 26) (.k (.int .u64 4))), Im 28 7, Io 29 (.bi .sub .u8 (.t 28) (.k (.int .u8 48))), Io 30 (.cvi .i64 (.t 29)), Io 31 (.bi .or .i64 (.t 27) (.t 30)), Im 5 31]) (.seq (.rg [Im 33 7, Io 34 (.bi .geq .u8 (.t 33) (.k (.int .u8 97))), Im 35 34, Jm 36 35 7, Jt 37 35 (.bi .leq .u8 (.t 36) (.k (.int .u8 102))), Ipf 38 35 37, Im 32 38])
 (.cond (.t 32) (.rg [Im 39 5, Io 40 (.shf .shl (.t 39) (.k (.int .u64 4))), Im 41 7, Io 42 (.bi .sub .u8 (.t 41) (.k (.int .u8 97))), Io 43 (.bi .add .u8 (.t 42) (.k (.int .u8 10))), Io 44 (.cvi .i64 (.t 43)), Io 45 (.bi .or .i64 (.t 40) (.t 44)), Im 5 45]) (.seq (.rg [Im 47 7, Io 48 (.bi .geq .u8 (.t 47) (.k (.int .u8 65))), Im 49 48, Jm 50 49 7, Jt 51 49 (.bi .leq .u8 (.t 50) (.k (.int .u8 70))), Ipf 52 49 51, Im 46 52])
 (.cond (.t 46) (.rg [Im 53 5, Io 54 (.shf .shl (.t 53) (.k (.int .u64 4))), Im 55 7, Io 56 (.bi .sub .u8 (.t 55) (.k (.int .u8 65))), Io 57 (.bi .add .u8 (.t 56) (.k (.int .u8 10))), Io 58 (.cvi .i64 (.t 57)), Io 59 (.bi .or .i64 (.t 54) (.t 58)), Im 5 59]) (.seq (.rg [Io 4 (.mv (.k (.int .i64 (-1))))])
 .ret))))))))))
 (.rg [Im 18 6, Iai 19 18 1, Im 6 19]))))))
 (.seq (.rg [Im 60 5, Im 4 60])
 .ret))))⟩
theorem ck202:chkFn Tryz.prog 202 ir202=true:=by kernel_rfl
def ir203 : AFn := ⟨76, 1, [.t 2, .t 3], .seq (.rg [Io 2 (.mv (.k (.str []))), Imb 3 false])
 (.seq (.rg [Io 4 (.mv (.k (.str [])))])
 (.seq (.seq (.rg [Imv 5 0])
 (.block 0 (.loop [0, 4, 5] (.seq (.seq (.rg [Im 7 5, Im 8 0, Iln 9 8, Ilt 10 7 9])
 (.cond (.t 10) .skip (.exit 0)))
 (.seq (.block 1 (.seq (.rg [Im 13 0, Im 14 5, Iia 15 1 13 14, Il 16 1 15, Im 6 16])
 (.seq (.seq (.rg [Im 17 6, Io 18 (.bi .lss .i64 (.t 17) (.k (.int .i64 0))), Im 19 18, Fm 20 19 6, Jf 21 19 (.bi .gtr .i64 (.t 20) (.k (.int .i64 65535))), Ipt 22 19 21, Im 23 22, Fm 24 23 6, Jf 25 23 (.bi .geq .i64 (.t 24) (.k (.int .i64 56320))), Fm 26 23 25, Jm 27 26 6, Jt 28 26 (.bi .lss .i64 (.t 27) (.k (.int .i64 57344))), Jf 29 23 (.pick (.t 26) (.t 28) (.k (.bool false))), Ipt 30 23 29])
 (.cond (.t 30) (.seq (.rg [Io 2 (.mv (.k (.str []))), Imb 3 false])
 .ret) .skip))
 (.seq (.seq (.rg [Im 31 6, Io 32 (.bi .geq .i64 (.t 31) (.k (.int .i64 55296))), Im 33 32, Jm 34 33 6, Jt 35 33 (.bi .lss .i64 (.t 34) (.k (.int .i64 56320))), Ipf 36 33 35])
 (.cond (.t 36) (.seq (.seq (.rg [Im 37 5, Iai 38 37 1, Im 39 0, Iln 40 39, Io 41 (.bi .geq .i64 (.t 38) (.t 40)), Im 42 41, Fm 43 42 0, Fm 44 42 5, Jf 45 42 (.bi .add .i64 (.t 44) (.k (.int .i64 1))), Jf 46 42 (.ia 1 (.t 43) (.t 45)), Fl 47 42 1 46, Jf 48 42 (.bi .lss .i64 (.t 47) (.k (.int .i64 56320))), Ipt 49 42 48, Im 50 49, Fm 51 50 0, Fm 52 50 5, Jf 53 50 (.bi .add .i64 (.t 52) (.k (.int .i64 1))), Jf 54 50 (.ia 1 (.t 51) (.t 53)), Fl 55 50 1 54, Jf 56 50 (.bi .geq .i64 (.t 55) (.k (.int .i64 57344))), Ipt 57 50 56])
 (.cond (.t 57) (.seq (.rg [Io 2 (.mv (.k (.str []))), Imb 3 false])
 .ret) .skip))
 (.seq (.rg [Im 58 6, Isi 59 58 55296, Io 60 (.bi .mul .i64 (.k (.int .i64 1024)) (.t 59)), Io 61 (.bi .add .i64 (.k (.int .i64 65536)) (.t 60)), Im 62 0, Im 63 5, Iai 64 63 1, Iia 65 1 62 64, Il 66 1 65, Iad 67 61 66, Isi 68 67 56320, Im 6 68])
 (.rg [Im 69 5, Iai 70 69 1, Im 5 70]))) .skip))
 (.rg [Im 71 4, Im 72 6, Io 73 (.call 204 [(.t 72)]), Io 74 (.bs .add (.t 71) (.t 73)), Im 4 74])))))
 (.rg [Im 11 5, Iai 12 11 1, Im 5 12]))))))
 (.seq (.rg [Im 75 4, Im 2 75, Imb 3 true])
 .ret)))⟩
theorem ck203:chkFn Tryz.prog 203 ir203=true:=by kernel_rfl
def ir204 : AFn := ⟨61, 1, [.t 2], .seq (.rg [Io 2 (.mv (.k (.str [])))])
 (.seq (.block 0 (.seq (.rg [Im 4 0, Io 5 (.bi .lss .i64 (.t 4) (.k (.int .i64 128))), Im 3 5])
 (.cond (.t 3) (.seq (.rg [Im 6 0, Io 7 (.cvi .u8 (.t 6)), Io 8 (.bls 1 1 [.int .u8 0] [(0, (.t 7))]), Io 9 (.cvb2s (.t 8)), Im 2 9])
 .ret) (.seq (.rg [Im 11 0, Io 12 (.bi .lss .i64 (.t 11) (.k (.int .i64 2048))), Im 10 12])
 (.cond (.t 10) (.seq (.rg [Im 13 0, Io 14 (.shf .shr (.t 13) (.k (.int .u64 6))), Io 15 (.bi .or .i64 (.k (.int .i64 192)) (.t 14)), Io 16 (.cvi .u8 (.t 15)), Im 17 0, Io 18 (.bi .and .i64 (.t 17) (.k (.int .i64 63))), Io 19 (.bi .or .i64 (.k (.int .i64 128)) (.t 18)), Io 20 (.cvi .u8 (.t 19)), Io 21 (.bls 1 2 [.int .u8 0] [(0, (.t 16)), (1, (.t 20))]), Io 22 (.cvb2s (.t 21)), Im 2 22])
 .ret) (.seq (.rg [Im 24 0, Io 25 (.bi .lss .i64 (.t 24) (.k (.int .i64 65536))), Im 23 25])
 (.cond (.t 23) (.seq (.rg [Im 26 0, Io 27 (.shf .shr (.t 26) (.k (.int .u64 12))), Io 28 (.bi .or .i64 (.k (.int .i64 224)) (.t 27)), Io 29 (.cvi .u8 (.t 28)), Im 30 0, Io 31 (.shf .shr (.t 30) (.k (.int .u64 6))), Io 32 (.bi .and .i64 (.t 31) (.k (.int .i64 63))), Io 33 (.bi .or .i64 (.k (.int .i64 128)) (.t 32)), Io 34 (.cvi .u8 (.t 33)), Im 35 0, Io 36 (.bi .and .i64 (.t 35) (.k (.int .i64 63))), Io 37 (.bi .or .i64 (.k (.int .i64 128)) (.t 36)), Io 38 (.cvi .u8 (.t 37)), Io 39 (.bls 1 3 [.int .u8 0] [(0, (.t 29)), (1, (.t 34)), (2, (.t 38))]), Io 40 (.cvb2s (.t 39)), Im 2 40])
 .ret) .skip)))))))
 (.seq (.rg [Im 41 0, Io 42 (.shf .shr (.t 41) (.k (.int .u64 18))), Io 43 (.bi .or .i64 (.k (.int .i64 240)) (.t 42)), Io 44 (.cvi .u8 (.t 43)), Im 45 0, Io 46 (.shf .shr (.t 45) (.k (.int .u64 12))), Io 47 (.bi .and .i64 (.t 46) (.k (.int .i64 63))), Io 48 (.bi .or .i64 (.k (.int .i64 128)) (.t 47)), Io 49 (.cvi .u8 (.t 48)), Im 50 0, Io 51 (.shf .shr (.t 50) (.k (.int .u64 6))), Io 52 (.bi .and .i64 (.t 51) (.k (.int .i64 63))), Io 53 (.bi .or .i64 (.k (.int .i64 128)) (.t 52)), Io 54 (.cvi .u8 (.t 53)), Im 55 0, Io 56 (.bi .and .i64 (.t 55) (.k (.int .i64 63))), Io 57 (.bi .or .i64 (.k (.int .i64 128)) (.t 56)), Io 58 (.cvi .u8 (.t 57)), Io 59 (.bls 1 4 [.int .u8 0] [(0, (.t 44)), (1, (.t 49)), (2, (.t 54)), (3, (.t 58))]), Io 60 (.cvb2s (.t 59)), Im 2 60])
 .ret))⟩
theorem ck204:chkFn Tryz.prog 204 ir204=true:=by kernel_rfl
def ir205 : AFn := ⟨23, 2, [.t 4], .seq (.rg [Imv 4 0])
 (.seq (.rg [Imv 5 0])
 (.seq (.block 0 (.loop [0, 1, 5] (.seq (.seq (.rg [Im 6 1, Im 7 5, Iad 8 6 7, Im 9 0, Ils 10 9, Ilt 11 8 10, Im 12 11, Jm 13 12 0, Jm 14 12 1, Jm 15 12 5, Jt 16 12 (.bi .add .i64 (.t 14) (.t 15)), Jt 17 12 (.ixs (.t 13) (.t 16)), Jt 18 12 (.call 147 [(.t 17)]), Ipf 19 12 18])
 (.cond (.t 19) .skip (.exit 0)))
 (.block 1 (.rg [Im 20 5, Iai 21 20 1, Im 5 21])))))
 (.seq (.rg [Im 22 5, Im 4 22])
 .ret)))⟩
theorem ck205:chkFn Tryz.prog 205 ir205=true:=by kernel_rfl
def ir216 : AFn := ⟨57, 1, [.t 2], .seq (.rg [Io 2 (.mv (.k (.sl .nil 1 [])))])
 (.seq (.rg [Io 3 (.mv (.k (.sl .nil 1 [])))])
 (.seq (.rg [Imv 4 0])
 (.seq (.seq (.rg [Imv 5 0])
 (.block 0 (.loop [0, 3, 4, 5] (.seq (.seq (.rg [Im 6 5, Im 7 0, Ils 8 7, Ilt 9 6 8])
 (.cond (.t 9) .skip (.exit 0)))
 (.seq (.block 1 (.seq (.seq (.rg [Im 12 0, Im 13 5, Io 14 (.ixs (.t 12) (.t 13)), Io 15 (.bi .neq .u8 (.t 14) (.k (.int .u8 10))), Im 16 15, Jm 17 16 0, Jm 18 16 5, Jt 19 16 (.ixs (.t 17) (.t 18)), Jt 20 16 (.bi .neq .u8 (.t 19) (.k (.int .u8 13))), Ipf 21 16 20])
 (.cond (.t 21) (.exit 1) .skip))
 (.seq (.rg [Im 22 3, Im 23 0, Im 24 4, Im 25 5, Io 26 (.sls (.t 23) (some (.t 24)) (some (.t 25))), Io 27 (.bls 1 1 [.str []] [(0, (.t 26))]), Io 28 (.appm 1 16 [.str []] (.t 22) (.t 27)), Im 3 28])
 (.seq (.seq (.rg [Im 29 0, Im 30 5, Io 31 (.ixs (.t 29) (.t 30)), Io 32 (.bi .eql .u8 (.t 31) (.k (.int .u8 13))), Im 33 32, Jm 34 33 5, Jt 35 33 (.bi .add .i64 (.t 34) (.k (.int .i64 1))), Jm 36 33 0, Jt 37 33 (.lens (.t 36)), Jt 38 33 (.bi .lss .i64 (.t 35) (.t 37)), Ipf 39 33 38, Im 40 39, Jm 41 40 0, Jm 42 40 5, Jt 43 40 (.bi .add .i64 (.t 42) (.k (.int .i64 1))), Jt 44 40 (.ixs (.t 41) (.t 43)), Jt 45 40 (.bi .eql .u8 (.t 44) (.k (.int .u8 10))), Ipf 46 40 45])
 (.cond (.t 46) (.rg [Im 47 5, Iai 48 47 1, Im 5 48]) .skip))
 (.rg [Im 49 5, Iai 50 49 1, Im 4 50])))))
 (.rg [Im 10 5, Iai 11 10 1, Im 5 11]))))))
 (.seq (.rg [Im 51 3, Im 52 0, Im 53 4, Io 54 (.sls (.t 52) (some (.t 53)) none), Io 55 (.bls 1 1 [.str []] [(0, (.t 54))]), Io 56 (.appm 1 16 [.str []] (.t 51) (.t 55)), Im 2 56])
 .ret))))⟩
theorem ck216:chkFn Tryz.prog 216 ir216=true:=by kernel_rfl
def ir217 : AFn := ⟨36, 1, [.t 2], .seq (.rg [Imv 2 0])
 (.scope (.seq (.rg [Io 3 (.mv (.k (.int .i64 (-1))))])
 (.seq .skip
 (.seq (.seq (.rg [Im 8 0, Iln 9 8, Imv 10 0])
 (.block 0 (.loop [3, 8, 9, 10] (.seq (.rg [Ilt 11 10 9])
 (.seq (.cond (.t 11) .skip (.exit 0))
 (.seq (.block 1 (.seq (.rg [Im 12 10, Iia 13 1 8 10, Il 14 1 13, Im 4 12, Im 5 14])
 (.seq (.rg [Im 16 5, Io 17 (.call 246 [(.t 16)]), Im 15 17, Iex 18 15 0, Iex 19 15 1, Im 6 18, Im 7 19])
 (.seq (.seq (.rg [Im 20 4, Iei 21 20 0, Im 22 21, Fm 23 22 7, Jf 24 22 (.not (.t 23)), Ipt 25 22 24])
 (.cond (.t 25) (.exit 1) .skip))
 (.seq (.rg [Im 26 3, Io 27 (.bi .lss .i64 (.t 26) (.k (.int .i64 0))), Im 28 27, Fm 29 28 6, Fm 30 28 3, Jf 31 28 (.bi .lss .i64 (.t 29) (.t 30)), Ipt 32 28 31])
 (.cond (.t 32) (.rg [Im 33 6, Im 3 33]) .skip))))))
 (.rg [Iai 34 10 1, Im 10 34])))))))
 (.seq (.rg [Im 35 3, Im 2 35])
 .ret)))))⟩
theorem ck217:chkFn Tryz.prog 217 ir217=true:=by kernel_rfl
def ir218 : AFn := ⟨12, 1, [.t 2], .seq (.rg [Imb 2 false])
 (.seq (.rg [Im 6 0, Io 7 (.call 246 [(.t 6)]), Im 5 7, Iex 8 5 0, Iex 9 5 1, Im 3 8, Im 4 9])
 (.seq (.rg [Im 10 4, Ing 11 10, Im 2 11])
 .ret))⟩
theorem ck218:chkFn Tryz.prog 218 ir218=true:=by kernel_rfl
def ir219 : AFn := ⟨44, 1, [.t 2, .t 3], .seq (.rg [Imv 2 0, Imb 3 false])
 (.seq (.seq (.rg [Im 7 0, Ils 8 7, Io 9 (.bi .lss .i64 (.t 8) (.k (.int .i64 4)))])
 (.cond (.t 9) (.seq (.rg [Imv 2 0, Imb 3 false])
 .ret) .skip))
 (.seq (.rg [Imv 4 0])
 (.seq (.seq (.rg [Imv 10 0])
 (.block 0 (.loop [0, 4, 10] (.seq (.rg [Io 11 (.bi .lss .i64 (.t 10) (.k (.int .i64 4)))])
 (.seq (.cond (.t 11) .skip (.exit 0))
 (.seq (.block 1 (.seq (.rg [Im 12 10, Im 5 12])
 (.seq (.rg [Im 13 0, Im 14 5, Io 15 (.ixs (.t 13) (.t 14)), Io 16 (.bi .or .u8 (.t 15) (.k (.int .u8 32))), Io 17 (.call 122 [(.k (.str [48, 49, 50, 51, 52, 53, 54, 55, 56, 57, 97, 98, 99, 100, 101, 102])), (.t 16)]), Im 6 17])
 (.seq (.seq (.rg [Im 18 6, Io 19 (.bi .lss .i64 (.t 18) (.k (.int .i64 0))), Im 20 19, Fm 21 20 0, Fm 22 20 5, Jf 23 20 (.ixs (.t 21) (.t 22)), Jf 24 20 (.bi .lss .u8 (.t 23) (.k (.int .u8 48))), Ipt 25 20 24, Im 26 25, Fm 27 26 0, Fm 28 26 5, Jf 29 26 (.ixs (.t 27) (.t 28)), Jf 30 26 (.bi .gtr .u8 (.t 29) (.k (.int .u8 57))), Fm 31 26 30, Jm 32 31 0, Jm 33 31 5, Jt 34 31 (.ixs (.t 32) (.t 33)), Jt 35 31 (.bi .lss .u8 (.t 34) (.k (.int .u8 65))), Jf 36 26 (.pick (.t 31) (.t 35) (.k (.bool false))), Ipt 37 26 36])
 (.cond (.t 37) (.seq (.rg [Imv 2 0, Imb 3 false])
 .ret) .skip))
 (.rg [Im 38 4, Io 39 (.bi .mul .i64 (.k (.int .i64 16)) (.t 38)), Im 40 6, Iad 41 39 40, Im 4 41])))))
 (.rg [Iai 42 10 1, Im 10 42])))))))
 (.seq (.rg [Im 43 4, Im 2 43, Imb 3 true])
 .ret))))⟩
theorem ck219:chkFn Tryz.prog 219 ir219=true:=by kernel_rfl
def ir220 : AFn := ⟨75, 1, [.t 2, .t 3], .seq (.rg [Io 2 (.mv (.k (.str []))), Imb 3 false])
 (.seq (.rg [Io 4 (.mv (.k (.sl .nil 1 [])))])
 (.seq (.seq (.rg [Imv 5 0])
 (.block 0 (.loop [0, 4, 5] (.seq (.seq (.rg [Im 7 5, Im 8 0, Iln 9 8, Ilt 10 7 9])
 (.cond (.t 10) .skip (.exit 0)))
 (.seq (.block 1 (.seq (.rg [Im 13 0, Im 14 5, Iia 15 1 13 14, Il 16 1 15, Im 6 16])
 (.seq (.block 2 (.seq (.rg [Im 18 6, Io 19 (.bi .lss .i64 (.t 18) (.k (.int .i64 0))), Im 20 19, Fm 21 20 6, Jf 22 20 (.bi .gtr .i64 (.t 21) (.k (.int .i64 65535))), Ipt 23 20 22, Im 24 23, Fm 25 24 6, Jf 26 24 (.bi .geq .i64 (.t 25) (.k (.int .i64 56320))), Fm 27 24 26, Jm 28 27 6, Jt 29 27 (.bi .leq .i64 (.t 28) (.k (.int .i64 57343))), Jf 30 24 (.pick (.t 27) (.t 29) (.k (.bool false))), Ipt 31 24 30, Im 17 31])
 (.cond (.t 17) (.seq (.rg [Io 2 (.mv (.k (.str []))), Imb 3 false])
 .ret) (.seq (.rg [Im 33 6, Io 34 (.bi .geq .i64 (.t 33) (.k (.int .i64 55296))), Im 35 34, Jm 36 35 6, Jt 37 35 (.bi .lss .i64 (.t 36) (.k (.int .i64 56320))), Ipf 38 35 37, Im 32 38])
 (.cond (.t 32) (.seq (.rg [Im 39 5, Iai 40 39 1, Im 5 40])
 (.seq (.seq (.rg [Im 41 5, Im 42 0, Iln 43 42, Io 44 (.bi .eql .i64 (.t 41) (.t 43)), Im 45 44, Fm 46 45 0, Fm 47 45 5, Jf 48 45 (.ia 1 (.t 46) (.t 47)), Fl 49 45 1 48, Jf 50 45 (.bi .lss .i64 (.t 49) (.k (.int .i64 56320))), Ipt 51 45 50, Im 52 51, Fm 53 52 0, Fm 54 52 5, Jf 55 52 (.ia 1 (.t 53) (.t 54)), Fl 56 52 1 55, Jf 57 52 (.bi .gtr .i64 (.t 56) (.k (.int .i64 57343))), Ipt 58 52 57])
 (.cond (.t 58) (.seq (.rg [Io 2 (.mv (.k (.str []))), Imb 3 false])
 .ret) .skip))
 (.rg [Im 59 6, Isi 60 59 55296, Io 61 (.bi .mul .i64 (.k (.int .i64 1024)) (.t 60)), Io 62 (.bi .add .i64 (.k (.int .i64 65536)) (.t 61)), Im 63 0, Im 64 5, Iia 65 1 63 64, Il 66 1 65, Iad 67 62 66, Isi 68 67 56320, Im 6 68]))) .skip)))))
 (.rg [Im 69 4, Im 70 6, Io 71 (.cvi .i32 (.t 70)), Io 72 (.call 247 [(.t 69), (.t 71)]), Im 4 72]))))
 (.rg [Im 11 5, Iai 12 11 1, Im 5 12]))))))
 (.seq (.rg [Im 73 4, Io 74 (.cvb2s (.t 73)), Im 2 74, Imb 3 true])
 .ret)))⟩
theorem ck220:chkFn Tryz.prog 220 ir220=true:=by kernel_rfl
def ir232 : AFn := ⟨31, 1, [.c 2 7 true], .seq (.rg [Io 2 (.alloc [.int .i64 0, .str [], .str [], .sl .nil 6 [], .sl .nil 2 [], .str [], .sl .nil 7 []])])
 (.seq (.seq (.rg [Im 4 0, Io 5 (.call 76 [(.t 4)]), Io 6 (.fld 0 1 false (.t 5)), Iei 7 6 2, Im 8 7, Jm 9 8 0, Jt 10 8 (.call 158 [(.t 9), (.k (.str [111, 110]))]), Jt 11 8 (.not (.t 10)), Ipf 12 8 11])
 (.cond (.t 12) (.seq (.rg [Im 13 0, Io 14 (.call 85 [(.t 13)]), Im 15 0, Io 16 (.call 196 [(.t 15), (.k (.bool false))]), Io 17 (.bld [.int .i64 0, .str [], .str [], .sl .nil 6 [], .sl .nil 2 [], .str [], .sl .nil 7 []] [(0, 1, (.k (.int .i64 1))), (2, 1, (.t 14)), (4, 1, (.t 16))]), ⟨none, none, .st 7 (.t 2) (.t 17), []⟩])
 .ret) .skip))
 (.seq (.rg [Io 18 (.bld [.int .i64 0, .str [], .str [], .sl .nil 6 [], .sl .nil 2 [], .str [], .sl .nil 7 []] [(0, 1, (.k (.int .i64 2)))]), Io 3 (.alloc [.int .i64 0, .str [], .str [], .sl .nil 6 [], .sl .nil 2 [], .str [], .sl .nil 7 []]), ⟨none, none, .st 7 (.t 3) (.t 18), []⟩])
 (.seq (.seq (.rg [Im 19 0, Io 20 (.call 100 [(.t 19), (.k (.str [111, 110]))])])
 (.cond (.t 20) (.rg [Im 21 0, Io 22 (.call 85 [(.t 21)]), If 23 5 3, ⟨none, none, .st 1 (.t 23) (.t 22), []⟩]) .skip))
 (.seq (.rg [Im 24 0, Io 25 (.call 196 [(.t 24), (.k (.bool false))]), If 26 4 3, ⟨none, none, .st 1 (.t 26) (.t 25), []⟩])
 (.seq (.rg [Im 27 0, Io 28 (.call 148 [(.t 27)]), If 29 6 3, ⟨none, none, .st 1 (.t 29) (.t 28), []⟩])
 (.seq (.rg [Ilb 30 7 3, ⟨none, none, .st 7 (.t 2) (.t 30), []⟩])
 .ret))))))⟩
theorem ck232:chkFn Tryz.prog 232 ir232=true:=by kernel_rfl
def ir233 : AFn := ⟨23, 2, [.t 4], .seq (.rg [Io 4 (.mv (.k (.sl .nil 6 [])))])
 (.seq (.seq (.rg [Im 6 0, Io 7 (.call 98 [(.t 6), (.k (.str [40]))]), Ing 8 7])
 (.cond (.t 8) (.seq (.rg [Io 4 (.mv (.k (.sl .nil 6 [])))])
 .ret) .skip))
 (.seq (.rg [Im 9 0, Im 10 1, Io 11 (.call 83 [(.t 9), (.t 10)]), Io 12 (.bls 6 1 [.str [], .int .i64 0, .int .i64 0, .str [], .sl .nil 5 [], .sl .nil 6 []] [(0, (.t 11))]), Im 5 12])
 (.seq (.block 0 (.loop [0, 1, 5] (.seq (.seq (.rg [Im 13 0, Io 14 (.call 98 [(.t 13), (.k (.str [41]))]), Ing 15 14])
 (.cond (.t 15) .skip (.exit 0)))
 (.block 1 (.rg [Im 16 5, Im 17 0, Im 18 1, Io 19 (.call 83 [(.t 17), (.t 18)]), Io 20 (.bls 6 1 [.str [], .int .i64 0, .int .i64 0, .str [], .sl .nil 5 [], .sl .nil 6 []] [(0, (.t 19))]), Iap 21 6 96 16 20, Im 5 21])))))
 (.seq (.rg [Im 22 5, Im 4 22])
 .ret))))⟩
theorem ck233:chkFn Tryz.prog 233 ir233=true:=by kernel_rfl
def ir239 : AFn := ⟨57, 1, [.t 2], .seq (.rg [Io 2 (.mv (.k (.sl .nil 1 [])))])
 (.seq (.rg [Io 3 (.mv (.k (.sl .nil 1 [])))])
 (.seq (.rg [Imv 4 0])
 (.seq (.seq (.rg [Imv 5 0])
 (.block 0 (.loop [0, 3, 4, 5] (.seq (.seq (.rg [Im 6 5, Im 7 0, Ils 8 7, Ilt 9 6 8])
 (.cond (.t 9) .skip (.exit 0)))
 (.seq (.block 1 (.seq (.seq (.rg [Im 12 0, Im 13 5, Io 14 (.ixs (.t 12) (.t 13)), Io 15 (.bi .neq .u8 (.t 14) (.k (.int .u8 10))), Im 16 15, Jm 17 16 0, Jm 18 16 5, Jt 19 16 (.ixs (.t 17) (.t 18)), Jt 20 16 (.bi .neq .u8 (.t 19) (.k (.int .u8 13))), Ipf 21 16 20])
 (.cond (.t 21) (.exit 1) .skip))
 (.seq (.rg [Im 22 3, Im 23 0, Im 24 4, Im 25 5, Io 26 (.sls (.t 23) (some (.t 24)) (some (.t 25))), Io 27 (.bls 1 1 [.str []] [(0, (.t 26))]), Io 28 (.appm 1 16 [.str []] (.t 22) (.t 27)), Im 3 28])
 (.seq (.seq (.rg [Im 29 0, Im 30 5, Io 31 (.ixs (.t 29) (.t 30)), Io 32 (.bi .eql .u8 (.t 31) (.k (.int .u8 13))), Im 33 32, Jm 34 33 5, Jt 35 33 (.bi .add .i64 (.t 34) (.k (.int .i64 1))), Jm 36 33 0, Jt 37 33 (.lens (.t 36)), Jt 38 33 (.bi .lss .i64 (.t 35) (.t 37)), Ipf 39 33 38, Im 40 39, Jm 41 40 0, Jm 42 40 5, Jt 43 40 (.bi .add .i64 (.t 42) (.k (.int .i64 1))), Jt 44 40 (.ixs (.t 41) (.t 43)), Jt 45 40 (.bi .eql .u8 (.t 44) (.k (.int .u8 10))), Ipf 46 40 45])
 (.cond (.t 46) (.rg [Im 47 5, Iai 48 47 1, Im 5 48]) .skip))
 (.rg [Im 49 5, Iai 50 49 1, Im 4 50])))))
 (.rg [Im 10 5, Iai 11 10 1, Im 5 11]))))))
 (.seq (.rg [Im 51 3, Im 52 0, Im 53 4, Io 54 (.sls (.t 52) (some (.t 53)) none), Io 55 (.bls 1 1 [.str []] [(0, (.t 54))]), Io 56 (.appm 1 16 [.str []] (.t 51) (.t 55)), Im 2 56])
 .ret))))⟩
theorem ck239:chkFn Tryz.prog 239 ir239=true:=by kernel_rfl
def ir240 : AFn := ⟨33, 1, [.t 2], .seq (.rg [Imv 2 0])
 (.seq (.rg [Io 3 (.mv (.k (.int .i64 (-1))))])
 (.seq (.seq (.rg [Imv 4 1])
 (.block 0 (.loop [0, 3, 4] (.seq (.seq (.rg [Im 7 4, Im 8 0, Iln 9 8, Ilt 10 7 9])
 (.cond (.t 10) .skip (.exit 0)))
 (.seq (.block 1 (.seq (.rg [Im 14 0, Im 15 4, Iia 16 1 14 15, Il 17 1 16, Io 18 (.call 260 [(.t 17)]), Im 13 18, Iex 19 13 0, Iex 20 13 1, Im 5 19, Im 6 20])
 (.seq (.rg [Im 21 6, Im 22 21, Jm 23 22 3, Jt 24 22 (.bi .lss .i64 (.t 23) (.k (.int .i64 0))), Jm 25 22 24, Fm 26 25 5, Fm 27 25 3, Jf 28 25 (.bi .lss .i64 (.t 26) (.t 27)), Jt 29 22 (.pick (.t 25) (.k (.bool true)) (.t 28)), Ipf 30 22 29])
 (.cond (.t 30) (.rg [Im 31 5, Im 3 31]) .skip))))
 (.rg [Im 11 4, Iai 12 11 1, Im 4 12]))))))
 (.seq (.rg [Im 32 3, Im 2 32])
 .ret)))⟩
theorem ck240:chkFn Tryz.prog 240 ir240=true:=by kernel_rfl
def ir241 : AFn := ⟨12, 1, [.t 2], .seq (.rg [Imb 2 false])
 (.seq (.rg [Im 6 0, Io 7 (.call 260 [(.t 6)]), Im 5 7, Iex 8 5 0, Iex 9 5 1, Im 3 8, Im 4 9])
 (.seq (.rg [Im 10 4, Ing 11 10, Im 2 11])
 .ret))⟩
theorem ck241:chkFn Tryz.prog 241 ir241=true:=by kernel_rfl
def ir246 : AFn := ⟨24, 1, [.t 2, .t 3], .seq (.rg [Imv 2 0, Imb 3 false])
 (.seq (.seq (.rg [Im 5 0, Ils 6 5, Imv 7 0])
 (.block 0 (.loop [0, 6, 7] (.seq (.rg [Ilt 8 7 6])
 (.seq (.cond (.t 8) .skip (.exit 0))
 (.seq (.block 1 (.seq (.rg [Im 9 7, Im 4 9])
 (.seq (.rg [Im 10 0, Im 11 4, Io 12 (.ixs (.t 10) (.t 11)), Io 13 (.bi .neq .u8 (.t 12) (.k (.int .u8 9))), Im 14 13, Jm 15 14 0, Jm 16 14 4, Jt 17 14 (.ixs (.t 15) (.t 16)), Jt 18 14 (.bi .neq .u8 (.t 17) (.k (.int .u8 32))), Ipf 19 14 18])
 (.cond (.t 19) (.seq (.rg [Im 20 4, Im 2 20, Imb 3 true])
 .ret) .skip))))
 (.rg [Iai 21 7 1, Im 7 21])))))))
 (.seq (.rg [Im 22 0, Ils 23 22, Im 2 23, Imb 3 false])
 .ret))⟩
theorem ck246:chkFn Tryz.prog 246 ir246=true:=by kernel_rfl
def ir247 : AFn := ⟨16, 2, [.t 4], .seq (.rg [Io 4 (.mv (.k (.sl .nil 1 [])))])
 (.seq (.seq (.rg [Im 5 1, Io 6 (.cvi .u32 (.t 5)), Io 7 (.bi .leq .u32 (.t 6) (.k (.int .u32 127)))])
 (.cond (.t 7) (.seq (.rg [Im 8 0, Im 9 1, Io 10 (.cvi .u8 (.t 9)), Io 11 (.bls 1 1 [.int .u8 0] [(0, (.t 10))]), Iap 12 1 1 8 11, Im 4 12])
 .ret) .skip))
 (.seq (.rg [Im 13 0, Im 14 1, Io 15 (.call 268 [(.t 13), (.t 14)]), Im 4 15])
 .ret))⟩
theorem ck247:chkFn Tryz.prog 247 ir247=true:=by kernel_rfl
def ir260 : AFn := ⟨24, 1, [.t 2, .t 3], .seq (.rg [Imv 2 0, Imb 3 false])
 (.seq (.seq (.rg [Imv 4 0])
 (.block 0 (.loop [0, 4] (.seq (.seq (.rg [Im 5 4, Im 6 0, Ils 7 6, Ilt 8 5 7])
 (.cond (.t 8) .skip (.exit 0)))
 (.seq (.block 1 (.seq (.rg [Im 11 0, Im 12 4, Io 13 (.ixs (.t 11) (.t 12)), Io 14 (.bi .neq .u8 (.t 13) (.k (.int .u8 9))), Im 15 14, Jm 16 15 0, Jm 17 15 4, Jt 18 15 (.ixs (.t 16) (.t 17)), Jt 19 15 (.bi .neq .u8 (.t 18) (.k (.int .u8 32))), Ipf 20 15 19])
 (.cond (.t 20) (.seq (.rg [Im 21 4, Im 2 21, Imb 3 true])
 .ret) .skip)))
 (.rg [Im 9 4, Iai 10 9 1, Im 4 10]))))))
 (.seq (.rg [Im 22 0, Ils 23 22, Im 2 23, Imb 3 false])
 .ret))⟩
theorem ck260:chkFn Tryz.prog 260 ir260=true:=by kernel_rfl
def ir268 : AFn := ⟨78, 2, [.t 4], .seq (.rg [Io 4 (.mv (.k (.sl .nil 1 [])))])
 (.seq (.rg [Im 6 1, Io 7 (.cvi .u32 (.t 6)), Im 5 7])
 (.block 0 (.seq (.rg [Im 12 5, Io 13 (.bi .leq .u32 (.t 12) (.k (.int .u32 2047))), Im 11 13])
 (.cond (.t 11) (.seq (.rg [Im 14 0, Im 15 1, Io 16 (.shf .shr (.t 15) (.k (.int .u64 6))), Io 17 (.cvi .u8 (.t 16)), Io 18 (.bi .or .u8 (.k (.int .u8 192)) (.t 17)), Im 19 1, Io 20 (.cvi .u8 (.t 19)), Io 21 (.bi .and .u8 (.t 20) (.k (.int .u8 63))), Io 22 (.bi .or .u8 (.k (.int .u8 128)) (.t 21)), Io 23 (.bls 1 2 [.int .u8 0] [(0, (.t 18)), (1, (.t 22))]), Iap 24 1 1 14 23, Im 4 24])
 .ret) (.seq (.seq (.rg [Im 26 5, Io 27 (.bi .lss .u32 (.t 26) (.k (.int .u32 55296))), Im 25 27])
 (.cond (.t 25) .skip (.rg [Im 28 5, Io 29 (.bi .lss .u32 (.k (.int .u32 57343)) (.t 28)), Im 30 29, Jm 31 30 5, Jt 32 30 (.bi .leq .u32 (.t 31) (.k (.int .u32 65535))), Ipf 33 30 32, Im 25 33])))
 (.cond (.t 25) (.seq (.rg [Im 34 0, Im 35 1, Io 36 (.shf .shr (.t 35) (.k (.int .u64 12))), Io 37 (.cvi .u8 (.t 36)), Io 38 (.bi .or .u8 (.k (.int .u8 224)) (.t 37)), Im 39 1, Io 40 (.shf .shr (.t 39) (.k (.int .u64 6))), Io 41 (.cvi .u8 (.t 40)), Io 42 (.bi .and .u8 (.t 41) (.k (.int .u8 63))), Io 43 (.bi .or .u8 (.k (.int .u8 128)) (.t 42)), Im 44 1, Io 45 (.cvi .u8 (.t 44)), Io 46 (.bi .and .u8 (.t 45) (.k (.int .u8 63))), Io 47 (.bi .or .u8 (.k (.int .u8 128)) (.t 46)), Io 48 (.bls 1 3 [.int .u8 0] [(0, (.t 38)), (1, (.t 43)), (2, (.t 47))]), Iap 49 1 1 34 48, Im 4 49])
 .ret) (.seq (.rg [Im 51 5, Io 52 (.bi .gtr .u32 (.t 51) (.k (.int .u32 65535))), Im 53 52, Jm 54 53 5, Jt 55 53 (.bi .leq .u32 (.t 54) (.k (.int .u32 1114111))), Ipf 56 53 55, Im 50 56])
 (.cond (.t 50) (.seq (.rg [Im 57 0, Im 58 1, Io 59 (.shf .shr (.t 58) (.k (.int .u64 18))), Io 60 (.cvi .u8 (.t 59)), Io 61 (.bi .or .u8 (.k (.int .u8 240)) (.t 60)), Im 62 1, Io 63 (.shf .shr (.t 62) (.k (.int .u64 12))), Io 64 (.cvi .u8 (.t 63)), Io 65 (.bi .and .u8 (.t 64) (.k (.int .u8 63))), Io 66 (.bi .or .u8 (.k (.int .u8 128)) (.t 65)), Im 67 1, Io 68 (.shf .shr (.t 67) (.k (.int .u64 6))), Io 69 (.cvi .u8 (.t 68)), Io 70 (.bi .and .u8 (.t 69) (.k (.int .u8 63))), Io 71 (.bi .or .u8 (.k (.int .u8 128)) (.t 70)), Im 72 1, Io 73 (.cvi .u8 (.t 72)), Io 74 (.bi .and .u8 (.t 73) (.k (.int .u8 63))), Io 75 (.bi .or .u8 (.k (.int .u8 128)) (.t 74)), Io 76 (.bls 1 4 [.int .u8 0] [(0, (.t 61)), (1, (.t 66)), (2, (.t 71)), (3, (.t 75))]), Iap 77 1 1 57 76, Im 4 77])
 .ret) (.seq (.rg [Im 8 0, Io 9 (.bls 1 3 [.int .u8 0] [(0, (.k (.int .u8 239))), (1, (.k (.int .u8 191))), (2, (.k (.int .u8 189)))]), Iap 10 1 1 8 9, Im 4 10])
 .ret)))))))))⟩
theorem ck268:chkFn Tryz.prog 268 ir268=true:=by kernel_rfl
end Go.Proofs.YtaielcdfcgpbiaaGreatDoor
