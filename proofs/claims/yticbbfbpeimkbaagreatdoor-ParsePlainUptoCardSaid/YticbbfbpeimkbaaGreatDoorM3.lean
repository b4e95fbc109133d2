/- Texts joined: Shelf Lib Row Ir Dat Val. -/
import Derived.Shelf.Strings.Builder1
import Derived.Shelf.Strings.Builder2
import Derived.Shelf.Strings.OnBuilder
import Derived.Shelf.Small.Utf8
import Derived.Shelf.Small.Strs
import Derived.Shelf.Small.Wraps
import Derived.Shelf.Strings.BuilderF
import Derived.Shelf.Strings.BuilderK
import Derived.Shelf.Utf8.AppendRune
import Derived.Shelf.Strconv.Itoa0
import Derived.Shelf.Strconv.Itoa1
import Derived.Shelf.LaysM
import Derived.Shelf.Strconv.Itoa2
import Derived.Shelf.Strconv.Itoa3
import Derived.Shelf.Strconv.Itoa4
import Derived.Shelf.Strconv.ParseIntEmpty
import Derived.Shelf.Strconv.Clone
import Derived.Shelf.Strconv.SyntaxError
import Derived.Shelf.LaysC
import Derived.Shelf.Strconv.ToError
import Derived.Shelf.Strconv.Lower
import Derived.Shelf.Strconv.ParseUint10
import Derived.Shelf.Strconv.ParseUint10Empty
import Derived.Shelf.Strconv.ParseUint10Any
import Derived.Shelf.Strconv.ParseInt10
import Derived.Shelf.Strconv.RangeError
import Derived.Shelf.Strconv.ToErrorRange
import Derived.Shelf.Strconv.ParseUintEmpty
import Derived.Shelf.Strconv.ParseUint10b64
import Derived.Shelf.Strconv.ParseUint10b32
import Derived.Shelf.Strconv.ParseUint10b16
import Derived.Shelf.Strconv.ParseUint10b8
import Derived.Shelf.Strconv.ParseUint10At
import Derived.Shelf.Strconv.ParseInt10At64
import Derived.Shelf.Strconv.ParseInt10At32
import Derived.Shelf.Strconv.ParseInt10At16
import Derived.Shelf.Strconv.ParseInt10At8
import Derived.Shelf.Strconv.ParseInt10All
import Derived.Shelf.Strconv.ParseIntPublic10
import Derived.Shelf.Strconv.ErrVarParseInt
import Derived.Shelf.Strings.Search1
import Derived.Shelf.Strings.Search2
import Derived.Shelf.Strings.Search3
import Derived.Shelf.Strings.Shaped
import Derived.Shelf.Strings.Prefix
import Derived.Shelf.Unicode.Decode
import Derived.Shelf.Strings.Runes
import Derived.Shelf.Strings.IndexAny
import Derived.Shelf.Strings.AsciiSet
import Derived.Shelf.Strings.IndexAnyAll
import Derived.Shelf.Bits.Mul64
import Derived.Shelf.Unicode.DecodeSlow
import Derived.Shelf.Unicode.DecodeAny
import Derived.Test.YticbbfbpeimkbaaGreatDoorProg
import Derived.Shelf.Unicode.ValidAny
import Derived.Test.YticbbfbpeimkbaaGreatDoorCards
import Derived.Test.YticbbfbpeimkbaaGreatDoorTie
import Derived.Lib.LaidIn
import Derived.Lib.LaidU8T
import Derived.Lib.LaidTab
import Derived.Deep.DeepHandedRow
import Derived.Deep.DeepWitnessRowRef
import Derived.ProofKit
import Derived.SizedLaws
import Derived.OpenShut
import Derived.Test.YticbbfbpeimkbaaGreatDoorRows
import Derived.Test.YticbbfbpeimkbaaGreatDoorM1
import Derived.Test.YticbbfbpeimkbaaGreatDoorM2
set_option maxRecDepth 100000
set_option linter.unusedSimpArgs false
set_option linter.unusedVariables false
namespace Go.Proofs
open Go.Shelf
def Tryz.lays156_ren:Go.Shelf.Ren:=⟨fun|156=>121|165=>213|166=>214|169=>215|240=>273|241=>274|276=>318|277=>319|n=>n,fun|31=>73|9=>9|3=>3|4=>4|0=>0|20=>20|72=>222|76=>226|70=>220|37=>213|75=>225|127=>259|164=>290|5=>5|80=>137|n=>n,fun|n=>n⟩
theorem Tryz.lays156:Go.Proofs.Lays.n156 Tryz.prog Tryz.lays156_ren:={
 mixed:=by kernel_rfl
 f156:=Tryz.func121.trans (congrArg some (by kernel_rfl))
 f165:=Tryz.func213.trans (congrArg some (by kernel_rfl))
 f166:=Tryz.func214.trans (congrArg some (by kernel_rfl))
 f169:=Tryz.func215.trans (congrArg some (by kernel_rfl))
 f240:=Tryz.func273.trans (congrArg some (by kernel_rfl))
 f241:=Tryz.func274.trans (congrArg some (by kernel_rfl))
 f276:=Tryz.func318.trans (congrArg some (by kernel_rfl))
 f277:=Tryz.func319.trans (congrArg some (by kernel_rfl))
 t0:=Tryz.underlying0
 a0:=Tryz.isAgg0
 z0:=Tryz.sizeOf0
 v0:=Tryz.zeroValue0
 t3:=Tryz.underlying3
 a3:=Tryz.isAgg3
 z3:=Tryz.sizeOf3
 v3:=Tryz.zeroValue3
 t4:=Tryz.underlying4
 a4:=Tryz.isAgg4
 z4:=Tryz.sizeOf4
 v4:=Tryz.zeroValue4
 t9:=Tryz.underlying9
 a9:=Tryz.isAgg9
 z9:=Tryz.sizeOf9
 v9:=Tryz.zeroValue9
 t20:=Tryz.underlying20
 a20:=Tryz.isAgg20
 z20:=Tryz.sizeOf20
 v20:=Tryz.zeroValue20
 t31:=Tryz.underlying73
 a31:=Tryz.isAgg73
 z31:=Tryz.sizeOf73
 v31:=Tryz.zeroValue73
 t37:=Tryz.underlying213
 a37:=Tryz.isAgg213
 z37:=Tryz.sizeOf213
 v37:=Tryz.zeroValue213
 t70:=Tryz.underlying220
 a70:=Tryz.isAgg220
 z70:=Tryz.sizeOf220
 v70:=Tryz.zeroValue220
 t72:=Tryz.underlying222
 a72:=Tryz.isAgg222
 z72:=Tryz.sizeOf222
 v72:=Tryz.zeroValue222
 t75:=Tryz.underlying225
 a75:=Tryz.isAgg225
 z75:=Tryz.sizeOf225
 v75:=Tryz.zeroValue225
 t76:=Tryz.underlying226
 a76:=Tryz.isAgg226
 z76:=Tryz.sizeOf226
 v76:=Tryz.zeroValue226
 t127:=Tryz.underlying259
 a127:=Tryz.isAgg259
 z127:=Tryz.sizeOf259
 v127:=Tryz.zeroValue259
 t164:=Tryz.underlying290
 a164:=Tryz.isAgg290
 z164:=Tryz.sizeOf290
 v164:=Tryz.zeroValue290 }
def Tryz.lays137_ren:Go.Shelf.Ren:=⟨fun|137=>222|217=>283|266=>328|n=>n,fun|9=>9|5=>5|3=>3|n=>n,fun|n=>n⟩
theorem Tryz.lays137:Go.Proofs.Lays.n137 Tryz.prog Tryz.lays137_ren:={
 mixed:=by kernel_rfl
 f137:=Tryz.func222.trans (congrArg some (by kernel_rfl))
 f217:=Tryz.func283.trans (congrArg some (by kernel_rfl))
 f266:=Tryz.func328.trans (congrArg some (by kernel_rfl))
 t3:=Tryz.underlying3
 a3:=Tryz.isAgg3
 z3:=Tryz.sizeOf3
 v3:=Tryz.zeroValue3
 t5:=Tryz.underlying5
 a5:=Tryz.isAgg5
 z5:=Tryz.sizeOf5
 v5:=Tryz.zeroValue5
 t9:=Tryz.underlying9
 a9:=Tryz.isAgg9
 z9:=Tryz.sizeOf9
 v9:=Tryz.zeroValue9 }
def Tryz.laysM173_ren:Go.Shelf.Ren:=⟨fun|173=>206|246=>270|283=>312|284=>313|285=>314|286=>315|129=>340|317=>339|318=>341|319=>342|320=>343|337=>353|338=>354|n=>n,fun|2=>2|3=>3|9=>9|4=>4|171=>285|0=>0|53=>271|37=>213|5=>5|173=>288|212=>309|51=>268|20=>20|213=>310|46=>173|232=>322|233=>323|n=>n,fun|17=>2|18=>6|19=>7|n=>n⟩
theorem Tryz.laysM173:Go.Proofs.LaysM.n173 Tryz.prog Tryz.laysM173_ren:={
 mixed:=by kernel_rfl
 f129:=Tryz.func340.trans (congrArg some (by kernel_rfl))
 f173:=Tryz.func206.trans (congrArg some (by kernel_rfl))
 f246:=Tryz.func270.trans (congrArg some (by kernel_rfl))
 f283:=Tryz.func312.trans (congrArg some (by kernel_rfl))
 f284:=Tryz.func313.trans (congrArg some (by kernel_rfl))
 f285:=Tryz.func314.trans (congrArg some (by kernel_rfl))
 f286:=Tryz.func315.trans (congrArg some (by kernel_rfl))
 f317:=Tryz.func339.trans (congrArg some (by kernel_rfl))
 f318:=Tryz.func341.trans (congrArg some (by kernel_rfl))
 f319:=Tryz.func342.trans (congrArg some (by kernel_rfl))
 f320:=Tryz.func343.trans (congrArg some (by kernel_rfl))
 f337:=Tryz.func353.trans (congrArg some (by kernel_rfl))
 f338:=Tryz.func354.trans (congrArg some (by kernel_rfl))
 t0:=Tryz.underlying0
 a0:=Tryz.isAgg0
 z0:=Tryz.sizeOf0
 v0:=Tryz.zeroValue0
 t2:=Tryz.underlying2
 a2:=Tryz.isAgg2
 z2:=Tryz.sizeOf2
 v2:=Tryz.zeroValue2
 t3:=Tryz.underlying3
 a3:=Tryz.isAgg3
 z3:=Tryz.sizeOf3
 v3:=Tryz.zeroValue3
 t4:=Tryz.underlying4
 a4:=Tryz.isAgg4
 z4:=Tryz.sizeOf4
 v4:=Tryz.zeroValue4
 t5:=Tryz.underlying5
 a5:=Tryz.isAgg5
 z5:=Tryz.sizeOf5
 v5:=Tryz.zeroValue5
 t9:=Tryz.underlying9
 a9:=Tryz.isAgg9
 z9:=Tryz.sizeOf9
 v9:=Tryz.zeroValue9
 t20:=Tryz.underlying20
 a20:=Tryz.isAgg20
 z20:=Tryz.sizeOf20
 v20:=Tryz.zeroValue20
 t37:=Tryz.underlying213
 a37:=Tryz.isAgg213
 z37:=Tryz.sizeOf213
 v37:=Tryz.zeroValue213
 t46:=Tryz.underlying173
 a46:=Tryz.isAgg173
 z46:=Tryz.sizeOf173
 v46:=Tryz.zeroValue173
 t51:=Tryz.underlying268
 a51:=Tryz.isAgg268
 z51:=Tryz.sizeOf268
 v51:=Tryz.zeroValue268
 t53:=Tryz.underlying271
 a53:=Tryz.isAgg271
 z53:=Tryz.sizeOf271
 v53:=Tryz.zeroValue271
 t171:=Tryz.underlying285
 a171:=Tryz.isAgg285
 z171:=Tryz.sizeOf285
 v171:=Tryz.zeroValue285
 t173:=Tryz.underlying288
 a173:=Tryz.isAgg288
 z173:=Tryz.sizeOf288
 v173:=Tryz.zeroValue288
 t212:=Tryz.underlying309
 a212:=Tryz.isAgg309
 z212:=Tryz.sizeOf309
 v212:=Tryz.zeroValue309
 t213:=Tryz.underlying310
 a213:=Tryz.isAgg310
 z213:=Tryz.sizeOf310
 t232:=Tryz.underlying322
 a232:=Tryz.isAgg322
 z232:=Tryz.sizeOf322
 v232:=Tryz.zeroValue322
 t233:=Tryz.underlying323
 a233:=Tryz.isAgg323
 z233:=Tryz.sizeOf323
 v233:=Tryz.zeroValue323
 g17:=by kernel_rfl
 g18:=by kernel_rfl
 g19:=by kernel_rfl
 i0:=by kernel_rfl
 i2:=by kernel_rfl
 i3:=by kernel_rfl
 i4:=by kernel_rfl
 i5:=by kernel_rfl
 i9:=by kernel_rfl
 i20:=by kernel_rfl
 i37:=by kernel_rfl
 i46:=by kernel_rfl
 i51:=by kernel_rfl
 i53:=by kernel_rfl
 i171:=by kernel_rfl
 i173:=by kernel_rfl
 i212:=by kernel_rfl
 i232:=by kernel_rfl
 i233:=by kernel_rfl
 m17:=by kernel_rfl
 m18:=by kernel_rfl
 m19:=by kernel_rfl }
def Tryz.laysC174_ren:Go.Shelf.Ren:=⟨fun|174=>260|247=>306|245=>307|287=>334|279=>335|280=>336|281=>337|282=>338|321=>348|322=>349|316=>350|171=>352|205=>351|243=>357|246=>270|283=>312|284=>313|285=>314|286=>315|129=>340|317=>339|318=>341|319=>342|320=>343|337=>353|338=>354|n=>n,fun|9=>9|3=>3|2=>2|75=>225|85=>254|4=>4|167=>302|5=>5|53=>271|175=>303|46=>173|168=>305|37=>213|0=>0|210=>315|21=>21|127=>259|145=>321|143=>319|171=>285|173=>288|212=>309|51=>268|20=>20|213=>310|232=>322|233=>323|80=>137|n=>n,fun|15=>4|16=>5|17=>2|18=>6|19=>7|n=>n⟩
theorem Tryz.laysC174:Go.Proofs.LaysC.n174 Tryz.prog Tryz.laysC174_ren:={
 mixed:=by kernel_rfl
 f129:=Tryz.func340.trans (congrArg some (by kernel_rfl))
 f171:=Tryz.func352.trans (congrArg some (by kernel_rfl))
 f174:=Tryz.func260.trans (congrArg some (by kernel_rfl))
 f205:=Tryz.func351.trans (congrArg some (by kernel_rfl))
 f243:=Tryz.func357.trans (congrArg some (by kernel_rfl))
 f245:=Tryz.func307.trans (congrArg some (by kernel_rfl))
 f246:=Tryz.func270.trans (congrArg some (by kernel_rfl))
 f247:=Tryz.func306.trans (congrArg some (by kernel_rfl))
 f279:=Tryz.func335.trans (congrArg some (by kernel_rfl))
 f280:=Tryz.func336.trans (congrArg some (by kernel_rfl))
 f281:=Tryz.func337.trans (congrArg some (by kernel_rfl))
 f282:=Tryz.func338.trans (congrArg some (by kernel_rfl))
 f283:=Tryz.func312.trans (congrArg some (by kernel_rfl))
 f284:=Tryz.func313.trans (congrArg some (by kernel_rfl))
 f285:=Tryz.func314.trans (congrArg some (by kernel_rfl))
 f286:=Tryz.func315.trans (congrArg some (by kernel_rfl))
 f287:=Tryz.func334.trans (congrArg some (by kernel_rfl))
 f316:=Tryz.func350.trans (congrArg some (by kernel_rfl))
 f317:=Tryz.func339.trans (congrArg some (by kernel_rfl))
 f318:=Tryz.func341.trans (congrArg some (by kernel_rfl))
 f319:=Tryz.func342.trans (congrArg some (by kernel_rfl))
 f320:=Tryz.func343.trans (congrArg some (by kernel_rfl))
 f321:=Tryz.func348.trans (congrArg some (by kernel_rfl))
 f322:=Tryz.func349.trans (congrArg some (by kernel_rfl))
 f337:=Tryz.func353.trans (congrArg some (by kernel_rfl))
 f338:=Tryz.func354.trans (congrArg some (by kernel_rfl))
 t0:=Tryz.underlying0
 a0:=Tryz.isAgg0
 z0:=Tryz.sizeOf0
 v0:=Tryz.zeroValue0
 t2:=Tryz.underlying2
 a2:=Tryz.isAgg2
 z2:=Tryz.sizeOf2
 v2:=Tryz.zeroValue2
 t3:=Tryz.underlying3
 a3:=Tryz.isAgg3
 z3:=Tryz.sizeOf3
 v3:=Tryz.zeroValue3
 t4:=Tryz.underlying4
 a4:=Tryz.isAgg4
 z4:=Tryz.sizeOf4
 v4:=Tryz.zeroValue4
 t5:=Tryz.underlying5
 a5:=Tryz.isAgg5
 z5:=Tryz.sizeOf5
 v5:=Tryz.zeroValue5
 t9:=Tryz.underlying9
 a9:=Tryz.isAgg9
 z9:=Tryz.sizeOf9
 v9:=Tryz.zeroValue9
 t20:=Tryz.underlying20
 a20:=Tryz.isAgg20
 z20:=Tryz.sizeOf20
 v20:=Tryz.zeroValue20
 t21:=Tryz.underlying21
 a21:=Tryz.isAgg21
 z21:=Tryz.sizeOf21
 v21:=Tryz.zeroValue21
 t37:=Tryz.underlying213
 a37:=Tryz.isAgg213
 z37:=Tryz.sizeOf213
 v37:=Tryz.zeroValue213
 t46:=Tryz.underlying173
 a46:=Tryz.isAgg173
 z46:=Tryz.sizeOf173
 v46:=Tryz.zeroValue173
 t51:=Tryz.underlying268
 a51:=Tryz.isAgg268
 z51:=Tryz.sizeOf268
 v51:=Tryz.zeroValue268
 t53:=Tryz.underlying271
 a53:=Tryz.isAgg271
 z53:=Tryz.sizeOf271
 v53:=Tryz.zeroValue271
 t75:=Tryz.underlying225
 a75:=Tryz.isAgg225
 z75:=Tryz.sizeOf225
 v75:=Tryz.zeroValue225
 t85:=Tryz.underlying254
 a85:=Tryz.isAgg254
 z85:=Tryz.sizeOf254
 v85:=Tryz.zeroValue254
 t127:=Tryz.underlying259
 a127:=Tryz.isAgg259
 z127:=Tryz.sizeOf259
 v127:=Tryz.zeroValue259
 t143:=Tryz.underlying319
 a143:=Tryz.isAgg319
 z143:=Tryz.sizeOf319
 v143:=Tryz.zeroValue319
 t145:=Tryz.underlying321
 a145:=Tryz.isAgg321
 z145:=Tryz.sizeOf321
 v145:=Tryz.zeroValue321
 t167:=Tryz.underlying302
 a167:=Tryz.isAgg302
 z167:=Tryz.sizeOf302
 v167:=Tryz.zeroValue302
 t168:=Tryz.underlying305
 a168:=Tryz.isAgg305
 z168:=Tryz.sizeOf305
 v168:=Tryz.zeroValue305
 t171:=Tryz.underlying285
 a171:=Tryz.isAgg285
 z171:=Tryz.sizeOf285
 v171:=Tryz.zeroValue285
 t173:=Tryz.underlying288
 a173:=Tryz.isAgg288
 z173:=Tryz.sizeOf288
 v173:=Tryz.zeroValue288
 t175:=Tryz.underlying303
 a175:=Tryz.isAgg303
 z175:=Tryz.sizeOf303
 v175:=Tryz.zeroValue303
 t210:=Tryz.underlying315
 a210:=Tryz.isAgg315
 z210:=Tryz.sizeOf315
 v210:=Tryz.zeroValue315
 t212:=Tryz.underlying309
 a212:=Tryz.isAgg309
 z212:=Tryz.sizeOf309
 v212:=Tryz.zeroValue309
 t213:=Tryz.underlying310
 a213:=Tryz.isAgg310
 z213:=Tryz.sizeOf310
 t232:=Tryz.underlying322
 a232:=Tryz.isAgg322
 z232:=Tryz.sizeOf322
 v232:=Tryz.zeroValue322
 t233:=Tryz.underlying323
 a233:=Tryz.isAgg323
 z233:=Tryz.sizeOf323
 v233:=Tryz.zeroValue323
 g15:=by kernel_rfl
 g16:=by kernel_rfl
 g17:=by kernel_rfl
 g18:=by kernel_rfl
 g19:=by kernel_rfl
 t80:=Tryz.underlying137
 a80:=Tryz.isAgg137
 z80:=Tryz.sizeOf137
 v80:=Tryz.zeroValue137
 i0:=by kernel_rfl
 i2:=by kernel_rfl
 i3:=by kernel_rfl
 i4:=by kernel_rfl
 i5:=by kernel_rfl
 i9:=by kernel_rfl
 i20:=by kernel_rfl
 i21:=by kernel_rfl
 i37:=by kernel_rfl
 i46:=by kernel_rfl
 i51:=by kernel_rfl
 i53:=by kernel_rfl
 i75:=by kernel_rfl
 i80:=by kernel_rfl
 i85:=by kernel_rfl
 i127:=by kernel_rfl
 i143:=by kernel_rfl
 i145:=by kernel_rfl
 i167:=by kernel_rfl
 i168:=by kernel_rfl
 i171:=by kernel_rfl
 i173:=by kernel_rfl
 i175:=by kernel_rfl
 i210:=by kernel_rfl
 i212:=by kernel_rfl
 i232:=by kernel_rfl
 i233:=by kernel_rfl
 m15:=by kernel_rfl
 m16:=by kernel_rfl
 m17:=by kernel_rfl
 m18:=by kernel_rfl
 m19:=by kernel_rfl
 c0:=by kernel_rfl
 c2:=by kernel_rfl
 c3:=by kernel_rfl
 c4:=by kernel_rfl
 c5:=by kernel_rfl
 c9:=by kernel_rfl
 c20:=by kernel_rfl
 c21:=by kernel_rfl
 c37:=by kernel_rfl
 c46:=by kernel_rfl
 c51:=by kernel_rfl
 c53:=by kernel_rfl
 c75:=by kernel_rfl
 c80:=by kernel_rfl
 c85:=by kernel_rfl
 c127:=by kernel_rfl
 c143:=by kernel_rfl
 c145:=by kernel_rfl
 c167:=by kernel_rfl
 c168:=by kernel_rfl
 c171:=by kernel_rfl
 c173:=by kernel_rfl
 c175:=by kernel_rfl
 c210:=by kernel_rfl
 c212:=by kernel_rfl
 c213:=by kernel_rfl
 c232:=by kernel_rfl
 c233:=by kernel_rfl }
def Tryz.lays144_ren:Go.Shelf.Ren:=⟨fun|144=>209|143=>271|219=>316|217=>283|225=>322|224=>321|267=>344|266=>328|314=>355|n=>n,fun|9=>9|4=>4|3=>3|5=>5|46=>173|146=>269|51=>268|n=>n,fun|1=>3|n=>n⟩
theorem Tryz.lays144:Go.Proofs.Lays.n144 Tryz.prog Tryz.lays144_ren:={
 mixed:=by kernel_rfl
 f143:=Tryz.func271.trans (congrArg some (by kernel_rfl))
 f144:=Tryz.func209.trans (congrArg some (by kernel_rfl))
 f217:=Tryz.func283.trans (congrArg some (by kernel_rfl))
 f219:=Tryz.func316.trans (congrArg some (by kernel_rfl))
 f224:=Tryz.func321.trans (congrArg some (by kernel_rfl))
 f225:=Tryz.func322.trans (congrArg some (by kernel_rfl))
 f266:=Tryz.func328.trans (congrArg some (by kernel_rfl))
 f267:=Tryz.func344.trans (congrArg some (by kernel_rfl))
 f314:=Tryz.func355.trans (congrArg some (by kernel_rfl))
 t3:=Tryz.underlying3
 a3:=Tryz.isAgg3
 z3:=Tryz.sizeOf3
 v3:=Tryz.zeroValue3
 t4:=Tryz.underlying4
 a4:=Tryz.isAgg4
 z4:=Tryz.sizeOf4
 v4:=Tryz.zeroValue4
 t5:=Tryz.underlying5
 a5:=Tryz.isAgg5
 z5:=Tryz.sizeOf5
 v5:=Tryz.zeroValue5
 t9:=Tryz.underlying9
 a9:=Tryz.isAgg9
 z9:=Tryz.sizeOf9
 v9:=Tryz.zeroValue9
 t46:=Tryz.underlying173
 a46:=Tryz.isAgg173
 z46:=Tryz.sizeOf173
 v46:=Tryz.zeroValue173
 t51:=Tryz.underlying268
 a51:=Tryz.isAgg268
 z51:=Tryz.sizeOf268
 v51:=Tryz.zeroValue268
 t146:=Tryz.underlying269
 a146:=Tryz.isAgg269
 z146:=Tryz.sizeOf269
 v146:=Tryz.zeroValue269
 g1:=by kernel_rfl }
def Tryz.lays99_ren:Go.Shelf.Ren:=⟨fun|99=>217|206=>275|n=>n,fun|9=>9|4=>4|3=>3|n=>n,fun|n=>n⟩
theorem Tryz.lays99:Go.Proofs.Lays.n99 Tryz.prog Tryz.lays99_ren:={
 mixed:=by kernel_rfl
 f99:=Tryz.func217.trans (congrArg some (by kernel_rfl))
 f206:=Tryz.func275.trans (congrArg some (by kernel_rfl))
 t3:=Tryz.underlying3
 a3:=Tryz.isAgg3
 z3:=Tryz.sizeOf3
 v3:=Tryz.zeroValue3
 t4:=Tryz.underlying4
 a4:=Tryz.isAgg4
 z4:=Tryz.sizeOf4
 v4:=Tryz.zeroValue4
 t9:=Tryz.underlying9
 a9:=Tryz.isAgg9
 z9:=Tryz.sizeOf9
 v9:=Tryz.zeroValue9 }
def Tryz.lays153_ren:Go.Shelf.Ren:=⟨fun|153=>218|152=>276|226=>277|227=>278|228=>279|137=>222|119=>320|224=>321|225=>322|217=>283|266=>328|n=>n,fun|9=>9|3=>3|4=>4|5=>5|21=>21|117=>263|116=>262|0=>0|46=>173|124=>295|n=>n,fun|n=>n⟩
theorem Tryz.lays153:Go.Proofs.Lays.n153 Tryz.prog Tryz.lays153_ren:={
 mixed:=by kernel_rfl
 f119:=Tryz.func320.trans (congrArg some (by kernel_rfl))
 f137:=Tryz.func222.trans (congrArg some (by kernel_rfl))
 f152:=Tryz.func276.trans (congrArg some (by kernel_rfl))
 f153:=Tryz.func218.trans (congrArg some (by kernel_rfl))
 f217:=Tryz.func283.trans (congrArg some (by kernel_rfl))
 f224:=Tryz.func321.trans (congrArg some (by kernel_rfl))
 f225:=Tryz.func322.trans (congrArg some (by kernel_rfl))
 f226:=Tryz.func277.trans (congrArg some (by kernel_rfl))
 f227:=Tryz.func278.trans (congrArg some (by kernel_rfl))
 f228:=Tryz.func279.trans (congrArg some (by kernel_rfl))
 f266:=Tryz.func328.trans (congrArg some (by kernel_rfl))
 t0:=Tryz.underlying0
 a0:=Tryz.isAgg0
 z0:=Tryz.sizeOf0
 v0:=Tryz.zeroValue0
 t3:=Tryz.underlying3
 a3:=Tryz.isAgg3
 z3:=Tryz.sizeOf3
 v3:=Tryz.zeroValue3
 t4:=Tryz.underlying4
 a4:=Tryz.isAgg4
 z4:=Tryz.sizeOf4
 v4:=Tryz.zeroValue4
 t5:=Tryz.underlying5
 a5:=Tryz.isAgg5
 z5:=Tryz.sizeOf5
 v5:=Tryz.zeroValue5
 t9:=Tryz.underlying9
 a9:=Tryz.isAgg9
 z9:=Tryz.sizeOf9
 v9:=Tryz.zeroValue9
 t21:=Tryz.underlying21
 a21:=Tryz.isAgg21
 z21:=Tryz.sizeOf21
 v21:=Tryz.zeroValue21
 t46:=Tryz.underlying173
 a46:=Tryz.isAgg173
 z46:=Tryz.sizeOf173
 v46:=Tryz.zeroValue173
 t116:=Tryz.underlying262
 a116:=Tryz.isAgg262
 z116:=Tryz.sizeOf262
 t117:=Tryz.underlying263
 a117:=Tryz.isAgg263
 z117:=Tryz.sizeOf263
 v117:=Tryz.zeroValue263
 t124:=Tryz.underlying295
 a124:=Tryz.isAgg295
 z124:=Tryz.sizeOf295
 v124:=Tryz.zeroValue295 }
def Tryz.lays197_ren:Go.Shelf.Ren:=⟨fun|197=>272|260=>317|n=>n,fun|9=>9|21=>21|3=>3|4=>4|5=>5|105=>257|119=>281|0=>0|46=>173|139=>284|138=>283|n=>n,fun|3=>0|4=>1|n=>n⟩
theorem Tryz.lays197:Go.Proofs.Lays.n197 Tryz.prog Tryz.lays197_ren:={
 mixed:=by kernel_rfl
 f197:=Tryz.func272.trans (congrArg some (by kernel_rfl))
 f260:=Tryz.func317.trans (congrArg some (by kernel_rfl))
 t0:=Tryz.underlying0
 a0:=Tryz.isAgg0
 z0:=Tryz.sizeOf0
 v0:=Tryz.zeroValue0
 t3:=Tryz.underlying3
 a3:=Tryz.isAgg3
 z3:=Tryz.sizeOf3
 v3:=Tryz.zeroValue3
 t4:=Tryz.underlying4
 a4:=Tryz.isAgg4
 z4:=Tryz.sizeOf4
 v4:=Tryz.zeroValue4
 t5:=Tryz.underlying5
 a5:=Tryz.isAgg5
 z5:=Tryz.sizeOf5
 v5:=Tryz.zeroValue5
 t9:=Tryz.underlying9
 a9:=Tryz.isAgg9
 z9:=Tryz.sizeOf9
 v9:=Tryz.zeroValue9
 t21:=Tryz.underlying21
 a21:=Tryz.isAgg21
 z21:=Tryz.sizeOf21
 v21:=Tryz.zeroValue21
 t46:=Tryz.underlying173
 a46:=Tryz.isAgg173
 z46:=Tryz.sizeOf173
 v46:=Tryz.zeroValue173
 t105:=Tryz.underlying257
 a105:=Tryz.isAgg257
 z105:=Tryz.sizeOf257
 v105:=Tryz.zeroValue257
 t119:=Tryz.underlying281
 a119:=Tryz.isAgg281
 z119:=Tryz.sizeOf281
 t138:=Tryz.underlying283
 a138:=Tryz.isAgg283
 z138:=Tryz.sizeOf283
 v138:=Tryz.zeroValue283
 t139:=Tryz.underlying284
 a139:=Tryz.isAgg284
 z139:=Tryz.sizeOf284
 v139:=Tryz.zeroValue284
 g3:=by kernel_rfl
 g4:=by kernel_rfl }
open Go.RowKit in
theorem Tryz.strings_IndexByte (s:ByteArray) (c:Int) (w:World) :
  Calls Tryz.prog 222 #[.string s,.int .u8 c] w fun e w'=>e=.returned (.int .i64 (Lib.indexByte s.data.toList c.toNat.toUInt8))∧w'=w:=Any.strings_IndexByte Tryz.lays137 s c w
open Go.RowKit Go.Sort Go.Lib in
theorem Tryz.strconv_FormatInt_10 (n : Int) (h0 : -9223372036854775808 ≤ n) (h1 : n ≤ 9223372036854775807) (w : World) (htab : Lib.TabIs Tryz.prog w "internal/strconv.uint64pow10" .u64 Lib.pow10Tab) :
  Calls Tryz.prog 206 #[.int .i64 n,.int .i64 10] w fun e w'=>e=.returned (.string ⟨(Lib.itoa n).toArray⟩)∧∃ k os,w'=grow (w.drewN k) os:=Any.strconv_FormatInt_10 Tryz.laysM173 n h0 h1 w htab
open Go.RowKit in
theorem Tryz.strconv_ParseInt_10_at64_ok (s:ByteArray) (hmax:s.size≤9223372036854775806) (v:Int) (h:Lib.parseIntB 64 s.data.toList=.ok v) (w:World) :
  Calls Tryz.prog 260 #[.string s,.int .i64 10,.int .i64 64] w fun e w'=>e=.returned (.tuple #[.int .i64 v,.nilIface])∧(w'=w∨∃ t,w'=Lib.bytesWorld w 5 t):=Any.strconv_ParseInt_10_at64_ok Tryz.laysC174 s hmax v h w
open Go.RowKit in
theorem Tryz.strconv_ParseInt_10_at64_syntax (s:ByteArray) (hlim:s.size≤281474976710656) (h:Lib.parseIntB 64 s.data.toList=Lib.NumEnd.syntax) (ev:Value) (w:World) (hv:w.cell? ⟨4,0,none⟩=some ev) (hev:ev=.nilIface∨∃ te pe,ev=.iface te pe) :
  Calls Tryz.prog 260 #[.string s,.int .i64 10,.int .i64 64] w fun e w'=>∃ N,e=.returned (.tuple #[.int .i64 (0),.iface 305 (.pointer (some ⟨N,0,none⟩))])∧w.heap.size≤N∧w'.heap[N]?=some (.cells #[.string ⟨#[80,97,114,115,101,73,110,116]⟩,.string s,ev] 315 (0,0))∧Below w.heap.size w w':=Any.strconv_ParseInt_10_at64_syntax Tryz.laysC174 s hlim h ev w hv hev
open Go.RowKit in
theorem Tryz.strconv_ParseInt_10_at64_range (s:ByteArray) (hlim:s.size≤281474976710656) (h:Lib.parseIntB 64 s.data.toList=.range) (ev:Value) (w:World) (hv:w.cell? ⟨5,0,none⟩=some ev) (hev:ev=.nilIface∨∃ te pe,ev=.iface te pe) :
  Calls Tryz.prog 260 #[.string s,.int .i64 10,.int .i64 64] w fun e w'=>∃ N,e=.returned (.tuple #[.int .i64 (Lib.intSat 64 s.data.toList),.iface 305 (.pointer (some ⟨N,0,none⟩))])∧w.heap.size≤N∧w'.heap[N]?=some (.cells #[.string ⟨#[80,97,114,115,101,73,110,116]⟩,.string s,ev] 315 (0,0))∧Below w.heap.size w w':=Any.strconv_ParseInt_10_at64_range Tryz.laysC174 s hlim h ev w hv hev
open Go.RowKit Go.Lib in
theorem Tryz.strings_Contains_one (s:ByteArray) (c:UInt8) (w:World) :
  Calls Tryz.prog 209 #[.string s,.string ⟨#[c]⟩] w fun e w'=>e=.returned (.bool (decide (0≤Lib.indexByte s.data.toList c)))∧w'=w:=Any.strings_Contains_one Tryz.lays144 s c w
open Go.RowKit Go.Lib in
theorem Tryz.strings_HasPrefix (s p:ByteArray) (w:World) :
  Calls Tryz.prog 217 #[.string s,.string p] w fun e w'=>e=.returned (.bool (Lib.hasPrefix s.data.toList p.data.toList))∧w'=w:=Any.strings_HasPrefix Tryz.lays99 s p w
open Go.RowKit Go.Lib in
theorem Tryz.strings_IndexAny_long (hv116:∀ w,(zeroValue 262).run Tryz.prog w=.ok (.agg (Array.replicate 256 (.bool false))) w) (s chars:ByteArray) (w:World) (h2:2≤chars.size) (h8:8<s.size) (hs:s.size<4294967281) (hcs:chars.size<4294967281) (hascii:∀ (j:Nat) b,chars.data.toList[j]?=some b→b.toNat<128) :
  Calls Tryz.prog 218 #[.string s,.string chars] w fun e w'=>e=.returned (.int .i64 (Lib.indexAny s.data.toList chars.data.toList))∧w'=((w.alloc (.cells (Lib.setCells chars.data.toList) 262)).alloc (.cells (Lib.setCells chars.data.toList) 262)):=Any.strings_IndexAny_long Tryz.lays153 hv116 (by kernel_rfl) s chars w h2 h8 hs hcs hascii
open Go.RowKit Go.Lib in
theorem Tryz.utf8_DecodeRuneInString (s:ByteArray) (w:World) (hT:Lib.Utf8Tabs 0 1 w) :
  Calls Tryz.prog 272 #[.string s] w fun e w'=>e=.returned (.tuple #[.int .i32 (Lib.decodeGo s).1,.int .i64 (Lib.decodeGo s).2])∧Below w.heap.size w w':=Any.utf8_DecodeRuneInString Tryz.lays197 s w hT
def Tryz.lays196_ren:Go.Shelf.Ren:=⟨fun|196=>268|259=>311|n=>n,fun|9=>9|4=>4|3=>3|5=>5|12=>12|119=>281|0=>0|46=>173|139=>284|138=>283|53=>271|n=>n,fun|3=>0|4=>1|n=>n⟩
theorem Tryz.lays196:Go.Proofs.Lays.n196 Tryz.prog Tryz.lays196_ren:={
 mixed:=by kernel_rfl
 f196:=Tryz.func268.trans (congrArg some (by kernel_rfl))
 f259:=Tryz.func311.trans (congrArg some (by kernel_rfl))
 t0:=Tryz.underlying0
 a0:=Tryz.isAgg0
 z0:=Tryz.sizeOf0
 v0:=Tryz.zeroValue0
 t3:=Tryz.underlying3
 a3:=Tryz.isAgg3
 z3:=Tryz.sizeOf3
 v3:=Tryz.zeroValue3
 t4:=Tryz.underlying4
 a4:=Tryz.isAgg4
 z4:=Tryz.sizeOf4
 v4:=Tryz.zeroValue4
 t5:=Tryz.underlying5
 a5:=Tryz.isAgg5
 z5:=Tryz.sizeOf5
 v5:=Tryz.zeroValue5
 t9:=Tryz.underlying9
 a9:=Tryz.isAgg9
 z9:=Tryz.sizeOf9
 v9:=Tryz.zeroValue9
 t12:=Tryz.underlying12
 a12:=Tryz.isAgg12
 z12:=Tryz.sizeOf12
 v12:=Tryz.zeroValue12
 t46:=Tryz.underlying173
 a46:=Tryz.isAgg173
 z46:=Tryz.sizeOf173
 v46:=Tryz.zeroValue173
 t53:=Tryz.underlying271
 a53:=Tryz.isAgg271
 z53:=Tryz.sizeOf271
 v53:=Tryz.zeroValue271
 t119:=Tryz.underlying281
 a119:=Tryz.isAgg281
 z119:=Tryz.sizeOf281
 t138:=Tryz.underlying283
 a138:=Tryz.isAgg283
 z138:=Tryz.sizeOf283
 v138:=Tryz.zeroValue283
 t139:=Tryz.underlying284
 a139:=Tryz.isAgg284
 z139:=Tryz.sizeOf284
 v139:=Tryz.zeroValue284
 g3:=by kernel_rfl
 g4:=by kernel_rfl }
end Go.Proofs
namespace Go.Proofs.YticbbfbpeimkbaaGreatDoor
open Go.Ab Go.RowKit Go.Sort Go.Lib
theorem ext_below {γ:Gh} {w w':World} (h:Below w.heap.size w w'):Ext (fun _=>False) γ w γ w':=by
 refine ⟨⟨h.size,fun b o v hc hp=>⟨hp,?_⟩,fun b arr E fr hb=>⟨arr,?_,rfl⟩⟩,h.os,h.output,fun a ha=>?_,fun b hb _=>⟨rfl,h.block b hb⟩⟩
 ·have hlt:=World.block_lt_of_cell? w _ hc
  unfold World.cell? at hc ⊢
  rw [h.block _ hlt];exact hc
 ·have hlt:=(Array.getElem?_eq_some_iff.1 hb).1
  rw [h.block b hlt];exact hb
 ·exact World.frozen?_of_block (h.block _ ha)
theorem Pure.of_below {P:Program} {f:FuncId} {args:List AV} {r:AV} (h:∀ (γ:Gh) (w:World) (vs:List Value),TabOk γ w→RepAll γ w args vs→Calls P f vs.toArray w fun e w'=>Below w.heap.size w w'∧∃ v,e=.returned v∧Rep γ w' r v):Pure P f args r:=by
 intro γ w vs ht _ hv
 refine (h γ w vs ht hv).mono fun e w' ⟨hw,v,he,hr⟩=>?_
 subst he
 exact ⟨γ,Heap.emp,.ret r,(ext_below hw).weaken fun _ f=>f.elim,fun b o hb=>by simp [Heap.emp] at hb,fun b hb=>by simp [Heap.emp] at hb,hr,rfl,rfl⟩
theorem below_grow (w:World) (k:Nat) (os:Array Obj):Below w.heap.size w (grow (w.drewN k) os):=by
 refine ⟨rfl,rfl,rfl,?_,fun i hi=>?_⟩
 ·show w.heap.size≤(w.heap++os).size;simp
 ·show (w.heap++os)[i]?=w.heap[i]?
  rw [Array.getElem?_append_left hi]
theorem below_bytes (w:World) (e:TypeId) (t:ByteArray):Below w.heap.size w (Lib.bytesWorld w e t):=by
 have h1:Below w.heap.size w (w.drew.alloc (.cells (bytesCells w e t) e)):=(Below.refl _ w).drew.alloc (Nat.le_refl _) _
 unfold Lib.bytesWorld World.freeze
 simp only [Nat.one_ne_zero,if_false]
 refine ⟨h1.os,h1.tape,h1.output,?_,fun i hi=>?_⟩
 ·rw [Array.size_modify];exact h1.size
 ·rw [Array.getElem?_modify]
  have:¬ (w.heap.size=i):=by omega
  simp only [this,if_false]
  exact h1.block i hi
theorem tab_at {γ:Gh} {w:World} (h:TabOk γ w) {i b:Nat} {ps:List (Value→Prop)} (hi:tabL[i]?=some (b,ps)) {j:Nat} {p:Value→Prop} (hj:ps[j]?=some p):∃ v,w.cell? ⟨b,j,none⟩=some v∧p v:=by
 obtain ⟨v,h1,h2⟩:=(h _ (List.mem_of_getElem? hi)).2 j p hj
 exact ⟨v,h1.1,h2⟩
theorem first_at:∀ c:Fin 256,Go.Pinned.utf8FirstZ[c.val]?=some (Lib.firstT c.val):=by decide +kernel
def accZ:List Nat:=[128,191,160,191,128,159,144,191,128,143,0,0,0,0,0,0,0,0,0,0,0,0,0,0,0,0,0,0,0,0,0,0]
theorem acc_at:∀ c:Fin 16,accZ[2*c.val]?=some (Lib.accLo c.val)∧accZ[2*c.val+1]?=some (Lib.accHi c.val):=by decide +kernel
theorem utf8Tabs {γ:Gh} {w:World} (h:TabOk γ w):Lib.Utf8Tabs 0 1 w:=by
 refine ⟨fun c hc=>?_,fun c hc=>?_⟩
 ·have hf:=first_at ⟨c,hc⟩
  obtain ⟨v,h1,h2⟩:=tab_at h (i:=0) rfl (j:=c) (p:=fun v=>v=.int .u8 (Lib.firstT c)) (by rw [List.getElem?_map,hf];rfl)
  rw [h1,h2]
 ·obtain ⟨g1,g2⟩:=acc_at ⟨c,hc⟩
  have hi:tabL[1]?=some (1,accZ.map fun (n:Nat) (v:Value)=>v=.int .u8 n):=rfl
  obtain ⟨v,h1,h2⟩:=tab_at h hi (j:=2*c) (p:=fun v=>v=.int .u8 (Lib.accLo c)) (by rw [List.getElem?_map,g1];rfl)
  obtain ⟨u,h3,h4⟩:=tab_at h hi (j:=2*c+1) (p:=fun v=>v=.int .u8 (Lib.accHi c)) (by rw [List.getElem?_map,g2];rfl)
  exact ⟨by rw [h1,h2],by rw [h3,h4]⟩
theorem arg_str {γ:Gh} {w:World} {s:List UInt8} {vs:List Value} (h:RepAll γ w [.str s] vs):vs=[.string ⟨s.toArray⟩]:=by
 obtain ⟨hl,hr⟩:=h
 match vs,hl with
 | [v],_=>cases hr 0 _ _ rfl rfl;rfl
theorem validC (s:List UInt8) (hs:s.length≤9223372036854775807):Pure Tryz.prog 268 [.str s] (.bool (Lib.validD s)):=by
 refine Pure.of_below fun γ w vs ht hv=>?_
 rw [arg_str hv]
 have h:=Any.utf8_ValidString Tryz.lays196 ⟨s.toArray⟩ w (by simpa [ByteArray.size] using hs) (utf8Tabs ht)
 refine Calls.mono h fun e w' ⟨he,hb⟩=>⟨hb,_,he,.bool _⟩
theorem prefixC (s p:List UInt8):Pure Tryz.prog 217 [.str s,.str p] (.bool (p.isPrefixOf s)):=by
 refine Pure.of_below fun γ w vs ht hv=>?_
 obtain ⟨hl,hr⟩:=hv
 match vs,hl with
 | [v,u],_ =>
  cases hr 0 _ _ rfl rfl
  cases hr 1 _ _ rfl rfl
  exact (Tryz.strings_HasPrefix ⟨s.toArray⟩ ⟨p.toArray⟩ w).mono fun e w' ⟨he,hw⟩=>⟨by rw [hw];exact Below.refl _ _,_,he,.bool _⟩
def powZ:List Nat:=[1,10,100,1000,10000,100000,1000000,10000000,100000000,1000000000,10000000000,100000000000,1000000000000,10000000000000,100000000000000,1000000000000000,10000000000000000,100000000000000000,1000000000000000000,10000000000000000000]
theorem powZ_len:powZ.length=20:=rfl
theorem pow10_at:Lib.pow10Tab=powZ.map fun (n:Nat)=>(n:Int):=by decide +kernel
theorem powTab {γ : Gh} {w : World} (ht : TabOk γ w) : Lib.TabIs Tryz.prog w "internal/strconv.uint64pow10" .u64 Lib.pow10Tab := by
 have hmem:tabL[2]?=some (2,powZ.map fun (n:Nat) (v:Value)=>v=.int .u64 n):=rfl
 obtain ⟨⟨arr,E,fr,g1,g2⟩,g3⟩:=ht _ (List.mem_of_getElem? hmem)
 have hg : Tryz.prog.globalNamed "internal/strconv.uint64pow10" = some 2 := by kernel_rfl
 unfold Lib.TabIs World.var?
 rw [hg]
 simp only [Option.bind_some]
 rw [show w.heap[2]?=_ from g1]
 simp only [Option.some.injEq]
 refine Array.ext_getElem? fun j=>?_
 simp only [List.length_map] at g2
 by_cases hj:j<20
 ·have hj':j<powZ.length:=hj
  obtain ⟨v,h1,h2⟩:=g3 j (fun v=>v=.int .u64 ((powZ[j]:Nat):Int)) (by rw [List.getElem?_map,List.getElem?_eq_getElem hj'];rfl)
  have h3:=h1.1
  simp only [World.cell?] at h3
  rw [show w.heap[2]?=_ from g1] at h3
  have h4:arr[j]?=some v:=by simpa using h3
  rw [h4,h2,pow10_at]
  simp only [List.map_map,List.getElem?_toArray,List.getElem?_map,List.getElem?_eq_getElem hj',Option.map_some,Function.comp]
 ·rw [Array.getElem?_eq_none (by rw [g2,powZ_len];omega),Array.getElem?_eq_none (by simp [pow10_at,powZ_len];omega)]
theorem formatIntC (n:Int) (h0:-9223372036854775808≤n) (h1:n≤9223372036854775807):Pure Tryz.prog 206 [.int .i64 n,.int .i64 10] (.str (Lib.itoa n)):=by
 refine Pure.of_below fun γ w vs ht hv=>?_
 obtain ⟨hl,hr⟩:=hv
 match vs,hl with
 | [v,u],_ =>
  cases hr 0 _ _ rfl rfl
  cases hr 1 _ _ rfl rfl
  exact (Tryz.strconv_FormatInt_10 n h0 h1 w (powTab ht)).mono fun e w' ⟨he,k,os,hw⟩=>⟨by rw [hw];exact below_grow _ _ _,_,he,.str _⟩
theorem errRange_at {γ:Gh} {w:World} (h:TabOk γ w):∃ v,w.cell? ⟨5,0,none⟩=some v∧∃ te pe,v=.iface te pe:=tab_at h (i:=5) rfl (j:=0) rfl
theorem errSyntax_at {γ:Gh} {w:World} (h:TabOk γ w):∃ v,w.cell? ⟨4,0,none⟩=some v∧∃ te pe,v=.iface te pe:=tab_at h (i:=4) rfl (j:=0) rfl
def parseA (s:List UInt8):AV :=
 match Lib.parseIntB 64 s with
 | .ok v=>.tup [.int .i64 v,.oth .nilIface]
 | Lib.NumEnd.syntax=>.tup [.int .i64 0,.ifc 305 .any]
 | .range=>.tup [.int .i64 (Lib.intSat 64 s),.ifc 305 .any]
theorem rep_two {γ:Gh} {w:World} {a b:AV} {v u:Value} (h1:Rep γ w a v) (h2:Rep γ w b u):Rep γ w (.tup [a,b]) (.tuple #[v,u]):=.tup _ [v,u] rfl (RepAll.cons h1 (RepAll.cons h2 RepAll.nil)).2
theorem parseIntC (s:List UInt8) (hs:s.length≤281474976710656):Pure Tryz.prog 260 [.str s,.int .i64 10,.int .i64 64] (parseA s):=by
 refine Pure.of_below fun γ w vs ht hv=>?_
 obtain ⟨hl,hr⟩:=hv
 match vs,hl with
 | [v,u,x],_ =>
  cases hr 0 _ _ rfl rfl
  cases hr 1 _ _ rfl rfl
  cases hr 2 _ _ rfl rfl
  have hsz:(⟨s.toArray⟩:ByteArray).size=s.length:=rfl
  unfold parseA
  rcases hp:Lib.parseIntB 64 s with v|_|_
  ·refine (Tryz.strconv_ParseInt_10_at64_ok ⟨s.toArray⟩ (by rw [hsz];omega) v hp w).mono fun e w' ⟨he,hw⟩=>⟨?_,_,he,rep_two (.int _ _) (.oth _)⟩
   rcases hw with rfl|⟨t,rfl⟩
   ·exact Below.refl _ _
   ·exact below_bytes _ _ _
  ·obtain ⟨ev,h1,h2⟩:=errSyntax_at ht
   exact (Tryz.strconv_ParseInt_10_at64_syntax ⟨s.toArray⟩ (by rw [hsz];omega) hp ev w h1 (.inr h2)).mono fun e w' ⟨N,he,_,_,hb⟩=>⟨hb,_,he,rep_two (.int _ _) (.ifc _ _ _ (.any _))⟩
  ·obtain ⟨ev,h1,h2⟩:=errRange_at ht
   exact (Tryz.strconv_ParseInt_10_at64_range ⟨s.toArray⟩ (by rw [hsz];omega) hp ev w h1 (.inr h2)).mono fun e w' ⟨N,he,_,_,hb⟩=>⟨hb,_,he,rep_two (.int _ _) (.ifc _ _ _ (.any _))⟩
end Go.Proofs.YticbbfbpeimkbaaGreatDoor
namespace Go.Proofs.YticbbfbpeimkbaaGreatDoor
open Go.Ab Go.Lib
open Go.ChangeShapes Go.WideShapes Go.ChangeAt Go.RowKit Go.WideElems
mutual
theorem bulk_eq {H:Type}:∀ d:DataW H,Rows.uptoBulk d=blk d
 | .lit (.string _)=>rfl
 | .lit (.bool _)=>rfl
 | .lit (.int _ _)=>rfl
 | .lit (.float _ _)=>rfl
 | .lit .nil=>rfl
 | .nil=>rfl
 | .ptr d=>by simp only [Rows.uptoBulk,blk,bulk_eq d]
 | .slice e s=>by simp only [Rows.uptoBulk,blk,bulkAll_eq e,bulkAll_eq s]
 | .agg e=>by simp only [Rows.uptoBulk,blk,bulkAll_eq e]
 | .iface _ d=>by simp only [Rows.uptoBulk,blk,bulk_eq d]
 | .map e=>by simp only [Rows.uptoBulk,blk,bulkEs_eq e]
 | .held _=>rfl
theorem bulkAll_eq {H:Type}:∀ d:List (DataW H),Rows.uptoBulkAll d=blkAll d
 | []=>rfl
 | d :: r=>by simp only [Rows.uptoBulkAll,blkAll,bulk_eq d,bulkAll_eq r]
theorem bulkEs_eq {H:Type}:∀ d:List (Lit × DataW H),Rows.uptoBulkEntries d=blkEs d
 | []=>rfl
 | x :: r=>by simp only [Rows.uptoBulkEntries,blkEs,bulkE_eq x,bulkEs_eq r]
theorem bulkE_eq {H:Type}:∀ d:Lit × DataW H,Rows.uptoBulkEntry d=blkE d
 | (.string _,d)=>by simp only [Rows.uptoBulkEntry,blkE,bulk_eq d]
 | (.bool _,d)=>by simp only [Rows.uptoBulkEntry,blkE,bulk_eq d]
 | (.int _ _,d)=>by simp only [Rows.uptoBulkEntry,blkE,bulk_eq d]
 | (.float _ _,d)=>by simp only [Rows.uptoBulkEntry,blkE,bulk_eq d]
 | (.nil,d)=>by simp only [Rows.uptoBulkEntry,blkE,bulk_eq d]
end
def EntryOk (W:World) (g:Nat) (ps:List (Value→Prop)):Prop :=
 (∃ (arr:Array Value) (E:TypeId) (fr:Nat × Nat),W.heap[g]?=some (.cells arr E fr)∧arr.size=ps.length)∧∀ (j:Nat) (p:Value→Prop),ps[j]?=some p→∃ v,CellIs immG W g j v∧p v
theorem entry_of_var {W:World} {n:String} {g:Nat} {cs:Array Value} {ps:List (Value→Prop)} (hg:Tryz.prog.globalNamed n=some g) (hv:W.var? Tryz.prog n=some cs) (hl:cs.size=ps.length)
  (h:∀ (j:Nat) (p:Value→Prop) v,ps[j]?=some p→cs[j]?=some v→v.oneCell'=true∧p v):EntryOk W g ps:=by
 refine ⟨?_,fun j p hp=>?_⟩
 ·have h1:=hv
  simp only [World.var?,hg,Option.bind_some] at h1
  split at h1
  ·rename_i c t fr he
   cases h1
   exact ⟨_,_,_,he,hl⟩
  ·cases h1
 ·have hj:j<cs.size:=by
   have:=(List.getElem?_eq_some_iff.1 hp).1
   omega
  have h1:=h j p cs[j] hp (Array.getElem?_eq_getElem hj)
  refine ⟨cs[j],⟨?_,trivial,h1.1⟩,h1.2⟩
  rw [World.var?_cell hg hv j,Array.getElem?_eq_getElem hj]
theorem entry_ints {W:World} {n:String} {g cnt:Nat} {t e:TypeId} {k:IntKind} {zs:List Nat} (hg:Tryz.prog.globalNamed n=some g) (hty:(Tryz.prog.globals[g]?).map (·.type)=some t) (ht:Tryz.prog.underlying t=some (.array cnt e)) (he:Tryz.prog.underlying e=some (.int k)) (hce:Tryz.prog.cellsOf e=1) (hct:Tryz.prog.cellsOf t=cnt)
  (h:VarReads Tryz.prog W n (tabData k (zs.map fun (z:Nat)=>(z:Int)))):EntryOk W g (zs.map fun (z:Nat) (v:Value)=>v=.int k z):=by
 obtain ⟨g',t',cs,fuel,p,hg',ht',hvar,hd⟩:=h
 obtain rfl:=Option.some.inj (hg.symm.trans hg')
 obtain rfl:=Option.some.inj (hty.symm.trans ht')
 have hcs:=cells_of_tab ht he hce hct hd
 refine entry_of_var hg hvar (by rw [← Array.length_toList,hcs];simp) fun j p v hp hj=>?_
 rw [← Array.getElem?_toList,hcs] at hj
 simp only [List.getElem?_map,Option.map_eq_some_iff] at hp hj
 obtain ⟨z,hz,rfl⟩:=hp
 obtain ⟨y,⟨z',hz',rfl⟩,rfl⟩:=hj
 rw [hz] at hz'
 cases hz'
 exact ⟨rfl,rfl⟩
theorem u8x:U8Extra Tryz.prog Tryz.lays196_ren:=⟨by kernel_rfl,by kernel_rfl,by kernel_rfl,by kernel_rfl,by kernel_rfl,by kernel_rfl,by kernel_rfl⟩
theorem acc_at2:∀ c:Fin 32,accZ[c.val]?=some (if c.val % 2=0 then Lib.accLo (c.val / 2) else Lib.accHi (c.val / 2)):=by decide +kernel
theorem entry_accept {W : World} (h1 : VarReads Tryz.prog W "unicode/utf8.first" firstData) (h2 : VarReads Tryz.prog W "unicode/utf8.acceptRanges" acceptData) : EntryOk W 1 (accZ.map fun (n : Nat) (v : Value) => v = .int .u8 n) := by
 have ht:=utf8Tabs_of_readsT (U8Types.of196 Tryz.lays196) u8x h1 h2
 obtain ⟨g',t',cs,fuel,p,hg',ht',hvar,hd⟩:=h2
 obtain rfl := Option.some.inj ((show Tryz.prog.globalNamed "unicode/utf8.acceptRanges" = some 1 by kernel_rfl).symm.trans hg')
 obtain rfl:=Option.some.inj (u8x.y4.symm.trans ht')
 have hcs:cs.size=32:=by
  have h3:fuel≠0:=fun e=>by subst e;simp [DataW.trod] at hd
  obtain ⟨fuel,rfl⟩:=Nat.exists_eq_succ_of_ne_zero h3
  have h4:cs.toList.length=Tryz.prog.cellsOf (Tryz.lays196_ren.t 139):=by
   have hu:=(U8Types.of196 Tryz.lays196).t139
   simp only [DataW.trod,hu,u8x.c138] at hd
   split at hd
   ·rename_i hl;simpa using hl
   ·cases hd
  rw [← Array.length_toList,h4];exact (show Tryz.prog.cellsOf (Tryz.lays196_ren.t 139)=32 by kernel_rfl)
 refine entry_of_var hg' hvar (by rw [hcs];rfl) fun j p v hp hj=>?_
 have hj32:j<32:=by rw [← hcs];exact (Array.getElem?_eq_some_iff.1 hj).1
 simp only [List.getElem?_map,Option.map_eq_some_iff] at hp
 obtain ⟨z,hz,rfl⟩:=hp
 rw [acc_at2 ⟨j,hj32⟩] at hz
 cases hz
 have ⟨a1,a2⟩:=ht.2 (j / 2) (by omega)
 rcases Nat.mod_two_eq_zero_or_one j with e|e
 ·have e2:2*(j / 2)=j:=by omega
  rw [e2] at a1
  have h5:=(World.var?_cell hg' hvar j).symm.trans a1
  rw [hj] at h5
  cases h5
  simp [e,Value.oneCell']
 ·have e2:2*(j / 2)+1=j:=by omega
  rw [e2] at a2
  have h5:=(World.var?_cell hg' hvar j).symm.trans a2
  rw [hj] at h5
  cases h5
  simp [e,Value.oneCell']
theorem entry_err {W:World} {n:String} {g:Nat} {t:TypeId} {s:String} {d:DataW Unit} (hg:Tryz.prog.globalNamed n=some g) (hty:(Tryz.prog.globals[g]?).map (·.type)=some t) {ms:Array (String × TypeId)} (hu:Tryz.prog.underlying t=some (.interface ms)) (h:VarReads Tryz.prog W n (.iface s d)):EntryOk W g [fun v=>∃ te pe,v=.iface te pe]:=by
 obtain ⟨g',t',cs,fuel,p,hg',ht',hvar,hd⟩:=h
 obtain rfl:=Option.some.inj (hg.symm.trans hg')
 obtain rfl:=Option.some.inj (hty.symm.trans ht')
 have h1:∃ te pe,cs.toList=[.iface te pe]:=by
  cases fuel with
  | zero=>simp [DataW.trod] at hd
  | succ fuel =>
   simp only [DataW.trod,hu] at hd
   split at hd
   all_goals first
    | (cases hd;done)
    | skip
   all_goals simp_all
   done
 obtain ⟨te,pe,he⟩:=h1
 refine entry_of_var hg hvar (by rw [← Array.length_toList,he];rfl) fun j p v hp hj=>?_
 rw [← Array.getElem?_toList,he] at hj
 match j,hp,hj with
 | 0,hp,hj=>cases hp;cases hj;exact ⟨rfl,_,_,rfl⟩
 | j+1,hp,hj=>simp at hp
theorem entry_int {W:World} (hS:W.ShapedOpen Tryz.prog) {g:Nat} {z:Array Value} {t:TypeId} {k:IntKind} (hg:g<Tryz.prog.globals.size) (h0:(((begin Tryz.prog (fun _ _=>0) default).world.heap[g]?).bind Obj.row?)=some (z,t)) (hz:z.size=1) (hb:Tryz.prog.buildable t=true)
  (hts:Tryz.prog.cellTypes Tryz.prog.depth t=some [t]) (ht:Tryz.prog.underlying t=some (.int k)):EntryOk W g [fun v=>∃ m,v=.int k m]:=by
 obtain ⟨cs,h1,h2,h3⟩:=hS.1 g z t hg h0
 have hsz:cs.size=1:=by rw [h2,hz]
 obtain ⟨ts,hts',_,hall⟩:=h3 hb
 rw [hts] at hts'
 cases hts'
 have h4:cs[0]?=some cs[0]:=Array.getElem?_eq_getElem (by omega)
 obtain ⟨u,hu,hc⟩:=hall 0 cs[0] h4
 cases hu
 have h5:∃ m,cs[0]=.int k m:=by
  unfold Cell.ok at hc
  rw [ht] at hc
  generalize cs[0]=v at hc
  cases v<;>first|exact hc.elim|(obtain ⟨rfl,_⟩:=hc;exact ⟨_,rfl⟩)
 obtain ⟨m,hm⟩:=h5
 refine ⟨⟨cs,t,_,h1,hsz⟩,fun j p hp=>?_⟩
 match j,hp with
 | 0,hp =>
  cases hp
  refine ⟨.int k m,⟨?_,trivial,rfl⟩,m,rfl⟩
  unfold World.cell?
  simp only [h1,h4,hm]
  simp
 | j+1,hp=>simp at hp
abbrev T64:List Nat:=[1,10,100,1000,10000,100000,1000000,10000000,100000000,1000000000,10000000000,100000000000,1000000000000,10000000000000,100000000000000,1000000000000000,10000000000000000,100000000000000000,1000000000000000000,10000000000000000000]
abbrev B32:List Nat:=[0,1,28,2,29,14,24,3,30,22,20,15,25,17,4,8,31,27,13,23,21,19,16,7,26,12,18,6,11,5,10,9]
abbrev B64:List Nat:=[0,1,56,2,57,49,28,3,61,58,42,50,38,29,17,4,62,47,59,36,45,43,51,22,53,39,33,30,24,18,12,5,63,55,48,27,60,41,37,16,46,35,44,21,52,32,23,11,54,26,40,15,34,20,31,10,25,14,19,9,13,8,7,6]
abbrev laidL : List (String × DataW Unit) := [("math/bits.deBruijn32tab", Rows.laid_math_bits_deBruijn32tab), ("math/bits.deBruijn64tab", Rows.laid_math_bits_deBruijn64tab), ("internal/strconv.uint64pow10", Rows.laid_internal_strconv_uint64pow10), ("unicode/utf8.acceptRanges", Rows.laid_unicode_utf8_acceptRanges), ("strconv.ErrRange", Rows.laid_strconv_ErrRange), ("strconv.ErrSyntax", Rows.laid_strconv_ErrSyntax), ("unicode/utf8.first", Rows.laid_unicode_utf8_first)]
theorem tabs_ok {W:World} (hL:laidMetH Tryz.prog laidL W) (hS:W.ShapedOpen Tryz.prog):TabOk immG W:=by
 have hL':laidMet Tryz.prog laidL W:=hL
 have m1 : VarReads Tryz.prog W "unicode/utf8.first" (tabData .u8 (Go.Pinned.utf8FirstZ.map fun (z : Nat) => (z : Int))) := laidMet.reads hL' (d := Rows.laid_unicode_utf8_first) (.tail _ (.tail _ (.tail _ (.tail _ (.tail _ (.tail _ (.head _)))))))
 have m2 : VarReads Tryz.prog W "unicode/utf8.acceptRanges" acceptData := laidMet.reads hL' (d := Rows.laid_unicode_utf8_acceptRanges) (.tail _ (.tail _ (.tail _ (.head _))))
 have m3 : VarReads Tryz.prog W "internal/strconv.uint64pow10" (tabData .u64 (T64.map fun (z : Nat) => (z : Int))) := laidMet.reads hL' (d := Rows.laid_internal_strconv_uint64pow10) (.tail _ (.tail _ (.head _)))
 have m4 : VarReads Tryz.prog W "math/bits.deBruijn32tab" (tabData .u8 (B32.map fun (z : Nat) => (z : Int))) := laidMet.reads hL' (d := Rows.laid_math_bits_deBruijn32tab) (.head _)
 have m5 : VarReads Tryz.prog W "math/bits.deBruijn64tab" (tabData .u8 (B64.map fun (z : Nat) => (z : Int))) := laidMet.reads hL' (d := Rows.laid_math_bits_deBruijn64tab) (.tail _ (.head _))
 have m6 : VarReads Tryz.prog W "strconv.ErrSyntax" Rows.laid_strconv_ErrSyntax := laidMet.reads hL' (.tail _ (.tail _ (.tail _ (.tail _ (.tail _ (.head _))))))
 have m7 : VarReads Tryz.prog W "strconv.ErrRange" Rows.laid_strconv_ErrRange := laidMet.reads hL' (.tail _ (.tail _ (.tail _ (.tail _ (.head _)))))
 have m8:firstData=tabData .u8 (Go.Pinned.utf8FirstZ.map fun (z:Nat)=>(z:Int)):=by kernel_rfl
 have e1:EntryOk W 0 (Go.Pinned.utf8FirstZ.map fun (n:Nat) (v:Value)=>v=.int .u8 n) :=
  entry_ints (t:=Tryz.lays196_ren.t 119) u8x.n3 u8x.y3 (U8Types.of196 Tryz.lays196).t119 (U8Types.of196 Tryz.lays196).t5 u8x.c5 u8x.c119 m1
 have e2:EntryOk W 1 (accZ.map fun (n:Nat) (v:Value)=>v=.int .u8 n):=entry_accept (m8▸m1) m2
 have e3:EntryOk W 2 (T64.map fun (n:Nat) (v:Value)=>v=.int .u64 n) :=
  entry_ints (t:=309) (e:=271) (cnt:=20) (by kernel_rfl) (by kernel_rfl) (by kernel_rfl) (by kernel_rfl) (by kernel_rfl) (by kernel_rfl) m3
 have e4:EntryOk W 6 (B32.map fun (n:Nat) (v:Value)=>v=.int .u8 n) :=
  entry_ints (t:=322) (e:=5) (cnt:=32) (by kernel_rfl) (by kernel_rfl) (by kernel_rfl) (by kernel_rfl) (by kernel_rfl) (by kernel_rfl) m4
 have e5:EntryOk W 7 (B64.map fun (n:Nat) (v:Value)=>v=.int .u8 n) :=
  entry_ints (t:=323) (e:=5) (cnt:=64) (by kernel_rfl) (by kernel_rfl) (by kernel_rfl) (by kernel_rfl) (by kernel_rfl) (by kernel_rfl) m5
 have e6:EntryOk W 4 [fun v=>∃ te pe,v=.iface te pe]:=entry_err (t:=225) (by kernel_rfl) (by kernel_rfl) Tryz.underlying225 m6
 have e7:EntryOk W 5 [fun v=>∃ te pe,v=.iface te pe]:=entry_err (t:=225) (by kernel_rfl) (by kernel_rfl) Tryz.underlying225 m7
 have e8:EntryOk W 3 [fun v=>∃ m,v=.int .i64 m]:=entry_int hS (z:=#[.int .i64 0]) (t:=3) (of_decide_eq_true (by kernel_rfl)) (by kernel_rfl) rfl (by kernel_rfl) (by kernel_rfl) (by kernel_rfl)
 intro x hx
 unfold tabL at hx
 simp only [List.mem_cons,List.not_mem_nil,or_false] at hx
 rcases hx with rfl|rfl|rfl|rfl|rfl|rfl|rfl|rfl<;>first|exact e1|exact e2|exact e3|exact e4|exact e5|exact e6|exact e7|exact e8
noncomputable abbrev N0:Nat:=(World.settled Tryz.prog default).heap.size
noncomputable def laidWorld (os:Os):World :=
 let w0:=World.holding Tryz.prog os ⟨#[.cells #[.string ⟨#[105,110,118,97,108,105,100,32,115,121,110,116,97,120]⟩] 321,.cells #[.string ⟨#[118,97,108,117,101,32,111,117,116,32,111,102,32,114,97,110,103,101]⟩] 321],#[],[]⟩
 let put (h:Array Obj) (g:Nat) (cs:Array Value):Array Obj:=h.modify g fun
  | .cells _ t frozen=>.cells cs t frozen
  | o=>o
 let h1:=put w0.heap 0 (Go.Pinned.utf8FirstZ.map fun (z:Nat)=>Value.int .u8 z).toArray
 let h2:=put h1 1 (accZ.map fun (z:Nat)=>Value.int .u8 z).toArray
 let h3:=put h2 2 (T64.map fun (z:Nat)=>Value.int .u64 z).toArray
 let h4:=put h3 6 (B32.map fun (z:Nat)=>Value.int .u8 z).toArray
 let h5:=put h4 7 (B64.map fun (z:Nat)=>Value.int .u8 z).toArray
 let h6:=put h5 4 #[.iface 319 (.pointer (some ⟨(World.settled Tryz.prog os).heap.size,0,none⟩))]
 let h7:=put h6 5 #[.iface 319 (.pointer (some ⟨(World.settled Tryz.prog os).heap.size+1,0,none⟩))]
 { w0 with heap:=h7 }
theorem laid_met (os:Os) (args:Array Value):laidMet Tryz.prog laidL ((laidWorld os).forCall (fun _ _=>0) ⟨#[],args,[]⟩).memory :=
 (LaidIn.of_run (l:=laidL) [0,1,2,3,4,5,6,7,N0,N0+1] 8 (by kernel_rfl) (by kernel_rfl) (by kernel_rfl) (by kernel_rfl)).met
end Go.Proofs.YticbbfbpeimkbaaGreatDoor
namespace Go.Proofs.YticbbfbpeimkbaaGreatDoor
open Go.Ab
def ir14 : AFn := ⟨35, 1, [.t 2], .seq (.reg [] [Io 1 (.boxv (.t 0)), Io 2 (.mv (.k (.bool false)))])
 (.seq (.reg [] [Io 8 (.ld 3 true (.t 1)), Io 9 (.call 58 [(.t 8)]), Im 7 9, Io 10 (.ext (.t 7) 0), Io 11 (.ext (.t 7) 1), Im 3 10, Im 4 11])
 (.seq (.seq (.reg [] [Im 12 4, Io 13 (.not (.t 12)), Im 14 13, Jf 15 14 (.mv (.t 3)), Jf 16 14 (.lens (.t 15)), Jf 17 14 (.bi .gtr .i64 (.t 16) (.k (.int .i64 3000))), Io 18 (.pick (.t 14) (.k (.bool true)) (.t 17))])
 (.cond (.t 18) (.seq (.reg [] [Io 19 (.call 39 []), Im 2 19])
 (.ret)) (.skip)))
 (.seq (.reg [] [Im 21 3, Io 22 (.call 44 [(.t 21)]), Im 20 22, Io 23 (.ext (.t 20) 0), Io 24 (.ext (.t 20) 1), Io 5 (.alloc [.str [], .int .i64 0, .int .i64 0]), ⟨none, none, .st 3 (.t 5) (.t 23), []⟩, Im 6 24])
 (.seq (.reg [] [Im 25 6, Io 26 (.bi .eql .i64 (.t 25) (.k (.int .i64 0))), Im 27 26, Jt 28 27 (.ld 3 true (.t 5)), Jt 29 27 (.ld 3 true (.t 1)), Jt 30 27 (.eqa false [.s, (.i .i64), (.i .i64)] (.t 28) (.t 29)), Io 31 (.pick (.t 27) (.t 30) (.k (.bool false))), Im 32 31, Jt 33 32 (.call 39 []), Io 34 (.pick (.t 32) (.t 33) (.k (.bool false))), Im 2 34])
 (.ret)))))⟩
theorem ck14:chkFn Tryz.prog 14 ir14=true:=by kernel_rfl
def ir17 : AFn := ⟨73, 1, [.t 2], .seq (.reg [] [Io 1 (.boxv (.t 0)), Io 2 (.mv (.k (.bool false)))])
 (.seq (.reg [] [Io 12 (.ld 5 true (.t 1)), Io 13 (.call 55 [(.t 12)]), Im 11 13, Io 14 (.ext (.t 11) 0), Io 15 (.ext (.t 11) 1), Im 3 14, Im 4 15])
 (.seq (.seq (.reg [] [Im 16 4, Io 17 (.not (.t 16)), Im 18 17, Jf 19 18 (.ld 5 true (.t 1)), Jf 20 18 (.call 53 [(.t 19)]), Jf 21 18 (.bi .gtr .i64 (.t 20) (.k (.int .i64 3000))), Io 22 (.pick (.t 18) (.k (.bool true)) (.t 21))])
 (.cond (.t 22) (.seq (.reg [] [Io 23 (.call 39 []), Im 2 23])
 (.ret)) (.skip)))
 (.seq (.reg [] [Im 25 3, Io 26 (.call 56 [(.t 25)]), Im 24 26, Io 27 (.ext (.t 24) 0), Io 28 (.ext (.t 24) 1), Im 5 27, Im 6 28])
 (.seq (.seq (.reg [] [Im 29 5, Io 30 (.lens (.t 29)), Io 31 (.bi .gtr .i64 (.t 30) (.k (.int .i64 8192)))])
 (.cond (.t 31) (.seq (.reg [] [Im 32 6, Im 33 32, Jt 34 33 (.call 39 []), Io 35 (.pick (.t 33) (.t 34) (.k (.bool false))), Im 2 35])
 (.ret)) (.skip)))
 (.seq (.reg [] [Im 37 5, Io 38 (.call 42 [(.t 37), (.k (.bool false))]), Im 36 38, Io 39 (.ext (.t 36) 0), Io 40 (.ext (.t 36) 1), Io 7 (.alloc [.int .i64 0, .int .i64 0, .str [], .sl .nil 5 [], .sl .nil 6 []]), ⟨none, none, .st 5 (.t 7) (.t 39), []⟩, Im 8 40])
 (.seq (.reg [] [Im 42 5, Io 43 (.call 42 [(.t 42), (.k (.bool true))]), Im 41 43, Io 44 (.ext (.t 41) 0), Io 45 (.ext (.t 41) 1), Io 9 (.alloc [.int .i64 0, .int .i64 0, .str [], .sl .nil 5 [], .sl .nil 6 []]), ⟨none, none, .st 5 (.t 9) (.t 44), []⟩, Im 10 45])
 (.seq (.seq (.reg [] [Im 46 8, Io 47 (.bi .neq .i64 (.t 46) (.k (.int .i64 0))), Im 48 47, Jf 49 48 (.ld 5 true (.t 7)), Jf 50 48 (.ld 5 true (.t 1)), Jf 51 48 (.call 59 [(.t 49), (.t 50)]), Jf 52 48 (.not (.t 51)), Io 53 (.pick (.t 48) (.k (.bool true)) (.t 52))])
 (.cond (.t 53) (.seq (.reg [] [Io 2 (.mv (.k (.bool false)))])
 (.ret)) (.skip)))
 (.seq (.seq (.reg [] [Io 54 (.ld 5 true (.t 1)), Io 55 (.call 60 [(.t 54)]), Io 56 (.len (.t 55)), Io 57 (.bi .gtr .i64 (.t 56) (.k (.int .i64 0)))])
 (.cond (.t 57) (.seq (.reg [] [Im 58 10, Io 59 (.bi .eql .i64 (.t 58) (.k (.int .i64 2))), Im 60 59, Jt 61 60 (.call 39 []), Io 62 (.pick (.t 60) (.t 61) (.k (.bool false))), Im 2 62])
 (.ret)) (.skip)))
 (.seq (.reg [] [Im 63 10, Io 64 (.bi .eql .i64 (.t 63) (.k (.int .i64 0))), Im 65 64, Jt 66 65 (.ld 5 true (.t 9)), Jt 67 65 (.ld 5 true (.t 1)), Jt 68 65 (.call 59 [(.t 66), (.t 67)]), Io 69 (.pick (.t 65) (.t 68) (.k (.bool false))), Im 70 69, Jt 71 70 (.call 39 []), Io 72 (.pick (.t 70) (.t 71) (.k (.bool false))), Im 2 72])
 (.ret))))))))))⟩
theorem ck17:chkFn Tryz.prog 17 ir17=true:=by kernel_rfl
def ir39 : AFn := ⟨45, 0, [.t 0], .seq (.reg [] [Io 0 (.mv (.k (.bool false)))])
 (.seq (.reg [] [Io 6 (.call 40 [(.k (.str [123, 97, 32, 46, 46, 46, 111, 110, 32, 66, 123, 99, 125, 125]))]), Im 5 6, Io 7 (.ext (.t 5) 0), Io 8 (.ext (.t 5) 1), Io 1 (.alloc [.sl .nil 5 [], .sl .nil 4 []]), ⟨none, none, .st 2 (.t 1) (.t 7), []⟩, Im 2 8])
 (.seq (.reg [] [Io 10 (.call 40 [(.k (.str [113, 117, 101, 114, 121, 40, 36, 120, 58, 73, 110, 116, 61, 36, 121, 41, 123, 97, 125]))]), Im 9 10, Io 11 (.ext (.t 9) 0), Io 12 (.ext (.t 9) 1), Io 3 (.alloc [.sl .nil 5 [], .sl .nil 4 []]), ⟨none, none, .st 2 (.t 3) (.t 11), []⟩, Im 4 12])
 (.seq (.reg [] [Im 13 2, Io 14 (.bi .eql .i64 (.t 13) (.k (.int .i64 0))), Im 15 14, Jt 16 15 (.fa 0 (.t 1)), Jt 17 15 (.ld 1 false (.t 16)), Jt 18 15 (.len (.t 17)), Jt 19 15 (.bi .eql .i64 (.t 18) (.k (.int .i64 1))), Io 20 (.pick (.t 15) (.t 19) (.k (.bool false))), Im 21 20, Jt 22 21 (.fa 0 (.t 1)), Jt 23 21 (.ld 1 false (.t 22)), Jt 24 21 (.ia 5 (.t 23) (.k (.int .i64 0))), Jt 25 21 (.fa 4 (.t 24)), Jt 26 21 (.ld 1 false (.t 25)), Jt 27 21 (.len (.t 26)), Jt 28 21 (.bi .eql .i64 (.t 27) (.k (.int .i64 2))), Io 29 (.pick (.t 21) (.t 28) (.k (.bool false))), Im 30 29, Jt 31 30 (.fa 0 (.t 1)), Jt 32 30 (.ld 1 false (.t 31)), Jt 33 30 (.ia 5 (.t 32) (.k (.int .i64 0))), Jt 34 30 (.fa 4 (.t 33)), Jt 35 30 (.ld 1 false (.t 34)), Jt 36 30 (.ia 7 (.t 35) (.k (.int .i64 1))), Jt 37 30 (.fa 5 (.t 36)), Jt 38 30 (.ld 1 false (.t 37)), Jt 39 30 (.bs .eql (.t 38) (.k (.str [66]))), Io 40 (.pick (.t 30) (.t 39) (.k (.bool false))), Im 41 40, Jt 42 41 (.mv (.t 4)), Jt 43 41 (.bi .eql .i64 (.t 42) (.k (.int .i64 2))), Io 44 (.pick (.t 41) (.t 43) (.k (.bool false))), Im 0 44])
 (.ret))))⟩
theorem ck39:chkFn Tryz.prog 39 ir39=true:=by kernel_rfl
def ir40 : AFn := ⟨14, 1, [.c 2 2 true, .t 3], .seq (.reg [] [Io 2 (.alloc [.sl .nil 5 [], .sl .nil 4 []]), Io 3 (.mv (.k (.int .i64 0)))])
 (.seq (.reg [] [Io 4 (.alloc [.sl .nil 5 [], .sl .nil 4 []])])
 (.seq (.reg [] [Im 6 0, Io 7 (.mkfn 90 [] [(.t 4)]), Io 8 (.call 89 [(.t 6), (.t 7)]), Im 5 8])
 (.seq (.seq (.reg [] [Im 9 5, Io 10 (.bi .neq .i64 (.t 9) (.k (.int .i64 0)))])
 (.cond (.t 10) (.seq (.reg [] [Io 11 (.bld [.sl .nil 5 [], .sl .nil 4 []] []), Im 12 5, ⟨none, none, .st 2 (.t 2) (.t 11), []⟩, Im 3 12])
 (.ret)) (.skip)))
 (.seq (.reg [] [Io 13 (.ld 2 true (.t 4)), ⟨none, none, .st 2 (.t 2) (.t 13), []⟩, Io 3 (.mv (.k (.int .i64 0)))])
 (.ret)))))⟩
theorem ck40:chkFn Tryz.prog 40 ir40=true:=by kernel_rfl
def ir42 : AFn := ⟨16, 2, [.c 4 5 true, .t 5], .seq (.reg [] [Io 3 (.boxv (.t 1)), Io 4 (.alloc [.int .i64 0, .int .i64 0, .str [], .sl .nil 5 [], .sl .nil 6 []]), Io 5 (.mv (.k (.int .i64 0)))])
 (.seq (.reg [] [Io 6 (.alloc [.int .i64 0, .int .i64 0, .str [], .sl .nil 5 [], .sl .nil 6 []])])
 (.seq (.reg [] [Im 8 0, Io 9 (.mkfn 95 [] [(.t 3), (.t 6)]), Io 10 (.call 89 [(.t 8), (.t 9)]), Im 7 10])
 (.seq (.seq (.reg [] [Im 11 7, Io 12 (.bi .neq .i64 (.t 11) (.k (.int .i64 0)))])
 (.cond (.t 12) (.seq (.reg [] [Io 13 (.bld [.int .i64 0, .int .i64 0, .str [], .sl .nil 5 [], .sl .nil 6 []] []), Im 14 7, ⟨none, none, .st 5 (.t 4) (.t 13), []⟩, Im 5 14])
 (.ret)) (.skip)))
 (.seq (.reg [] [Io 15 (.ld 5 true (.t 6)), ⟨none, none, .st 5 (.t 4) (.t 15), []⟩, Io 5 (.mv (.k (.int .i64 0)))])
 (.ret)))))⟩
theorem ck42:chkFn Tryz.prog 42 ir42=true:=by kernel_rfl
def ir44 : AFn := ⟨14, 1, [.c 2 3 true, .t 3], .seq (.reg [] [Io 2 (.alloc [.str [], .int .i64 0, .int .i64 0]), Io 3 (.mv (.k (.int .i64 0)))])
 (.seq (.reg [] [Io 4 (.alloc [.str [], .int .i64 0, .int .i64 0])])
 (.seq (.reg [] [Im 6 0, Io 7 (.mkfn 99 [] [(.t 4)]), Io 8 (.call 89 [(.t 6), (.t 7)]), Im 5 8])
 (.seq (.seq (.reg [] [Im 9 5, Io 10 (.bi .neq .i64 (.t 9) (.k (.int .i64 0)))])
 (.cond (.t 10) (.seq (.reg [] [Io 11 (.bld [.str [], .int .i64 0, .int .i64 0] []), Im 12 5, ⟨none, none, .st 3 (.t 2) (.t 11), []⟩, Im 3 12])
 (.ret)) (.skip)))
 (.seq (.reg [] [Io 13 (.ld 3 true (.t 4)), ⟨none, none, .st 3 (.t 2) (.t 13), []⟩, Io 3 (.mv (.k (.int .i64 0)))])
 (.ret)))))⟩
theorem ck44:chkFn Tryz.prog 44 ir44=true:=by kernel_rfl
def ir53 : AFn := ⟨50, 1, [.t 2], .seq (.reg [] [Io 1 (.boxv (.t 0)), Io 2 (.mv (.k (.int .i64 0)))])
 (.seq (.reg [] [If 6 2 1, Il 7 1 6, Io 8 (.lens (.t 7)), Io 9 (.bi .add .i64 (.k (.int .i64 1)) (.t 8)), Im 3 9])
 (.seq (.seq (.reg [] [Io 4 (.mv (.k (.int .i64 0)))])
 (.block 0 (.loop [1, 3, 4] (.seq (.seq (.reg [] [Im 10 4, If 11 3 1, Il 12 1 11, Io 13 (.len (.t 12)), Io 14 (.bi .lss .i64 (.t 10) (.t 13))])
 (.cond (.t 14) (.skip) (.exit 0)))
 (.seq (.block 1 (.reg [] [Im 17 3, If 18 3 1, Il 19 1 18, Im 20 4, Io 21 (.ia 5 (.t 19) (.t 20)), Io 22 (.ld 5 true (.t 21)), Io 23 (.call 53 [(.t 22)]), Io 24 (.bi .add .i64 (.t 17) (.t 23)), Im 3 24]))
 (.reg [] [Im 15 4, Io 16 (.bi .add .i64 (.t 15) (.k (.int .i64 1))), Im 4 16]))))))
 (.seq (.seq (.reg [] [Io 5 (.mv (.k (.int .i64 0)))])
 (.block 2 (.loop [1, 3, 5] (.seq (.seq (.reg [] [Im 25 5, If 26 4 1, Il 27 1 26, Io 28 (.len (.t 27)), Io 29 (.bi .lss .i64 (.t 25) (.t 28))])
 (.cond (.t 29) (.skip) (.exit 2)))
 (.seq (.block 3 (.reg [0, 1, 2, 3, 4, 5, 6, 7, 8, 9, 10, 11, 12, 13, 14, 15, 16, 17] [Im 32 3, If 33 4 1, Il 34 1 33, Im 35 5, Io 36 (.ia 6 (.t 34) (.t 35)), If 37 0 36, Il 38 1 37, Io 39 (.lens (.t 38)), Io 40 (.bi .add .i64 (.t 32) (.t 39)), If 41 4 1, Il 42 1 41, Im 43 5, Io 44 (.ia 6 (.t 42) (.t 43)), If 45 1 44, Io 46 (.ld 5 true (.t 45)), ⟨some 47, none, .call 53 [(.t 46)], [2, 6]⟩, Io 48 (.bi .add .i64 (.t 40) (.t 47)), Im 3 48]))
 (.reg [] [Im 30 5, Io 31 (.bi .add .i64 (.t 30) (.k (.int .i64 1))), Im 5 31]))))))
 (.seq (.reg [] [Im 49 3, Im 2 49])
 (.ret)))))⟩
theorem ck53:chkFn Tryz.prog 53 ir53=true:=by kernel_rfl
def ir55 : AFn := ⟨9, 1, [.t 2, .t 3], .seq (.reg [] [Io 1 (.boxv (.t 0)), Io 2 (.mv (.k (.sl .nil 2 []))), Io 3 (.mv (.k (.bool false)))])
 (.seq (.seq (.reg [] [Io 4 (.ld 5 true (.t 1)), Io 5 (.call 117 [(.t 4)]), Io 6 (.not (.t 5))])
 (.cond (.t 6) (.seq (.reg [] [Io 2 (.mv (.k (.sl .nil 2 []))), Io 3 (.mv (.k (.bool false)))])
 (.ret)) (.skip)))
 (.seq (.reg [] [Io 7 (.ld 5 true (.t 1)), Io 8 (.call 118 [(.k (.sl .nil 2 [])), (.t 7)]), Im 2 8, Io 3 (.mv (.k (.bool true)))])
 (.ret)))⟩
theorem ck55:chkFn Tryz.prog 55 ir55=true:=by kernel_rfl
def ir56 : AFn := ⟨35, 1, [.t 2, .t 3], .seq (.reg [] [Io 2 (.mv (.k (.str []))), Io 3 (.mv (.k (.bool false)))])
 (.seq (.reg [] [Io 4 (.mv (.k (.sl .nil 1 [])))])
 (.seq (.seq (.reg [] [Im 7 0, Io 8 (.len (.t 7)), Io 9 (.mv (.k (.int .i64 0)))])
 (.block 0 (.loop [4, 7, 8, 9] (.seq (.reg [] [Io 10 (.bi .lss .i64 (.t 9) (.t 8))])
 (.seq (.cond (.t 10) (.skip) (.exit 0))
 (.seq (.block 1 (.seq (.reg [] [Io 11 (.ia 2 (.t 7) (.t 9)), Io 12 (.ld 2 true (.t 11)), Io 6 (.alloc [.int .i64 0, .str []]), ⟨none, none, .st 2 (.t 6) (.t 12), []⟩])
 (.block 2 (.seq (.reg [] [Io 19 (.ld 2 true (.t 6)), Io 20 (.call 119 [(.t 19)]), Io 21 (.not (.t 20)), Im 18 21])
 (.cond (.t 18) (.seq (.reg [] [Io 2 (.mv (.k (.str []))), Io 3 (.mv (.k (.bool false)))])
 (.ret)) (.seq (.reg [] [If 23 0 6, Il 24 1 23, Io 25 (.bi .eql .i64 (.t 24) (.k (.int .i64 5))), Im 22 25])
 (.cond (.t 22) (.reg [] [Im 26 4, If 27 1 6, Il 28 1 27, Io 29 (.call 120 [(.t 28)]), Io 30 (.bls 1 1 [.str []] [(0, (.t 29))]), Io 31 (.app 1 16 (.t 26) (.t 30)), Im 4 31]) (.reg [] [Im 13 4, If 14 1 6, Il 15 1 14, Io 16 (.bls 1 1 [.str []] [(0, (.t 15))]), Io 17 (.app 1 16 (.t 13) (.t 16)), Im 4 17]))))))))
 (.reg [] [Io 32 (.bi .add .i64 (.t 9) (.k (.int .i64 1))), Im 9 32])))))))
 (.seq (.reg [] [Im 33 4, Io 34 (.call 121 [(.t 33), (.k (.str [32]))]), Im 2 34, Io 3 (.mv (.k (.bool true)))])
 (.ret))))⟩
theorem ck56:chkFn Tryz.prog 56 ir56=true:=by kernel_rfl
def ir57 : AFn := ⟨47, 1, [.t 2, .t 3], .seq (.reg [] [Io 2 (.mv (.k (.sl .nil 2 []))), Io 3 (.mv (.k (.int .i64 0)))])
 (.scope (.seq (.block 0 (.seq (.reg [] [Im 10 0, Io 11 (.lens (.t 10)), Io 12 (.bi .gtr .i64 (.t 11) (.k (.int .i64 8192))), Im 9 12])
 (.cond (.t 9) (.seq (.reg [] [Io 2 (.mv (.k (.sl .nil 2 []))), Io 3 (.mv (.k (.int .i64 3)))])
 (.ret)) (.seq (.reg [] [Im 14 0, Io 15 (.call 122 [(.t 14)]), Io 16 (.not (.t 15)), Im 13 16])
 (.cond (.t 13) (.seq (.reg [] [Io 2 (.mv (.k (.sl .nil 2 []))), Io 3 (.mv (.k (.int .i64 2)))])
 (.ret)) (.skip))))))
 (.seq (.reg [] [Io 4 (.mv (.k (.sl .nil 2 [])))])
 (.seq (.skip)
 (.seq (.seq (.reg [] [Io 5 (.mv (.k (.int .i64 0)))])
 (.block 1 (.loop [0, 4, 5] (.seq (.seq (.reg [] [Im 17 5, Im 18 0, Io 19 (.lens (.t 18)), Io 20 (.bi .lss .i64 (.t 17) (.t 19))])
 (.cond (.t 20) (.skip) (.exit 1)))
 (.block 2 (.seq (.seq (.reg [] [Im 21 0, Im 22 5, Io 23 (.sls (.t 21) (some (.t 22)) none), Io 24 (.call 123 [(.t 23)]), Im 6 24])
 (.seq (.reg [] [Im 25 6, Io 26 (.bi .gtr .i64 (.t 25) (.k (.int .i64 0)))])
 (.cond (.t 26) (.seq (.reg [] [Im 27 5, Im 28 6, Io 29 (.bi .add .i64 (.t 27) (.t 28)), Im 5 29])
 (.exit 2)) (.skip))))
 (.seq (.reg [] [Im 31 0, Im 32 5, Io 33 (.sls (.t 31) (some (.t 32)) none), Io 34 (.call 124 [(.t 33)]), Im 30 34, Io 35 (.ext (.t 30) 0), Io 36 (.ext (.t 30) 1), Io 7 (.alloc [.int .i64 0, .str []]), ⟨none, none, .st 2 (.t 7) (.t 35), []⟩, Im 8 36])
 (.seq (.seq (.reg [] [Im 37 8, Io 38 (.bi .eql .i64 (.t 37) (.k (.int .i64 0)))])
 (.cond (.t 38) (.seq (.reg [] [Io 2 (.mv (.k (.sl .nil 2 []))), Io 3 (.mv (.k (.int .i64 2)))])
 (.ret)) (.skip)))
 (.seq (.reg [] [Im 39 4, Io 40 (.ld 2 true (.t 7)), Io 41 (.bls 2 1 [.int .i64 0, .str []] [(0, (.t 40))]), Io 42 (.app 2 24 (.t 39) (.t 41)), Im 4 42])
 (.reg [] [Im 43 5, Im 44 8, Io 45 (.bi .add .i64 (.t 43) (.t 44)), Im 5 45]))))))))))
 (.seq (.reg [] [Im 46 4, Im 2 46, Io 3 (.mv (.k (.int .i64 0)))])
 (.ret)))))))⟩
theorem ck57:chkFn Tryz.prog 57 ir57=true:=by kernel_rfl
def ir58 : AFn := ⟨33, 1, [.t 2, .t 3], .seq (.reg [] [Io 1 (.boxv (.t 0)), Io 2 (.mv (.k (.str []))), Io 3 (.mv (.k (.bool false)))])
 (.seq (.seq (.reg [] [Io 6 (.ld 3 true (.t 1)), Io 7 (.call 125 [(.t 6)]), Io 8 (.not (.t 7))])
 (.cond (.t 8) (.seq (.reg [] [Io 2 (.mv (.k (.str []))), Io 3 (.mv (.k (.bool false)))])
 (.ret)) (.skip)))
 (.seq (.reg [0, 1, 3, 4, 2, 5, 6] [If 9 1 1, Il 10 1 9, If 12 0 1, Il 13 1 12, ⟨some 11, none, .call 126 [(.k (.str [91])), (.t 10)], [3]⟩, Io 14 (.bs .add (.t 11) (.t 13)), Im 4 14])
 (.seq (.seq (.reg [] [If 15 1 1, Il 16 1 15, Im 5 16])
 (.block 0 (.loop [1, 4, 5] (.seq (.seq (.reg [] [Im 17 5, Io 18 (.bi .geq .i64 (.t 17) (.k (.int .i64 0)))])
 (.cond (.t 18) (.skip) (.exit 0)))
 (.seq (.block 1 (.seq (.seq (.reg [] [Im 21 5, If 22 1 1, Il 23 1 22, Io 24 (.bi .lss .i64 (.t 21) (.t 23))])
 (.cond (.t 24) (.reg [] [Im 25 4, Io 26 (.bs .add (.t 25) (.k (.str [93]))), Im 4 26]) (.skip)))
 (.seq (.reg [] [Io 27 (.ld 3 true (.t 1)), Im 28 5, Io 29 (.call 127 [(.t 27), (.t 28)])])
 (.cond (.t 29) (.reg [] [Im 30 4, Io 31 (.bs .add (.t 30) (.k (.str [33]))), Im 4 31]) (.skip)))))
 (.reg [] [Im 19 5, Io 20 (.bi .sub .i64 (.t 19) (.k (.int .i64 1))), Im 5 20]))))))
 (.seq (.reg [] [Im 32 4, Im 2 32, Io 3 (.mv (.k (.bool true)))])
 (.ret)))))⟩
theorem ck58:chkFn Tryz.prog 58 ir58=true:=by kernel_rfl
def ir59 : AFn := ⟨38, 2, [.t 4], .seq (.reg [] [Io 2 (.boxv (.t 0)), Io 3 (.boxv (.t 1)), Io 4 (.mv (.k (.bool false)))])
 (.seq (.reg [] [If 5 0 2, Il 6 1 5, If 7 0 3, Il 8 1 7, Io 9 (.bi .eql .i64 (.t 6) (.t 8)), Im 10 9, Jt 11 10 (.fa 1 (.t 2)), Jt 12 10 (.ld 1 false (.t 11)), Jt 13 10 (.fa 1 (.t 3)), Jt 14 10 (.ld 1 false (.t 13)), Jt 15 10 (.bi .eql .i64 (.t 12) (.t 14)), Io 16 (.pick (.t 10) (.t 15) (.k (.bool false))), Im 17 16, Jt 18 17 (.fa 2 (.t 2)), Jt 19 17 (.ld 1 false (.t 18)), Jt 20 17 (.fa 2 (.t 3)), Jt 21 17 (.ld 1 false (.t 20)), Jt 22 17 (.bs .eql (.t 19) (.t 21)), Io 23 (.pick (.t 17) (.t 22) (.k (.bool false))), Im 24 23, Jt 25 24 (.fa 3 (.t 2)), Jt 26 24 (.ld 1 false (.t 25)), Jt 27 24 (.fa 3 (.t 3)), Jt 28 24 (.ld 1 false (.t 27)), Jt 29 24 (.call 128 [(.t 26), (.t 28), (.k (.clo 59 [] []))]), Io 30 (.pick (.t 24) (.t 29) (.k (.bool false))), Im 31 30, Jt 32 31 (.fa 4 (.t 2)), Jt 33 31 (.ld 1 false (.t 32)), Jt 34 31 (.fa 4 (.t 3)), Jt 35 31 (.ld 1 false (.t 34)), Jt 36 31 (.call 129 [(.t 33), (.t 35), (.k (.clo 130 [] []))]), Io 37 (.pick (.t 31) (.t 36) (.k (.bool false))), Im 4 37])
 (.ret))⟩
theorem ck59:chkFn Tryz.prog 59 ir59=true:=by kernel_rfl
def ir60 : AFn := ⟨5, 1, [.t 2], .seq (.reg [] [Io 1 (.boxv (.t 0)), Io 2 (.mv (.k (.sl .nil 1 [])))])
 (.seq (.reg [] [Io 3 (.ld 5 true (.t 1)), Io 4 (.call 131 [(.k (.sl .nil 1 [])), (.t 3)]), Im 2 4])
 (.ret))⟩
theorem ck60:chkFn Tryz.prog 60 ir60=true:=by kernel_rfl
def ir90 : AFn := ⟨9, 2, [], .seq (.reg [] [Im 3 0, Io 4 (.call 91 [(.t 3), (.t 1)])])
 (.block 0 (.loop [0, 1] (.seq (.seq (.reg [] [Im 5 0, Io 6 (.call 92 [(.t 5)])])
 (.cond (.t 6) (.skip) (.exit 0)))
 (.block 1 (.reg [] [Im 7 0, Io 8 (.call 91 [(.t 7), (.t 1)])])))))⟩
theorem ck90:chkFn Tryz.prog 90 ir90=true:=by kernel_rfl
def ir91 : AFn := ⟨63, 2, [], .block 0 (.seq (.reg [] [Im 7 0, Io 8 (.call 161 [(.t 7), (.k (.str [123]))]), Im 6 8])
 (.cond (.t 6) (.reg [0, 1, 2, 3, 4, 5, 6, 7, 8, 9, 10, 11, 12] [Im 9 1, Im 10 1, Io 11 (.nilchk (.t 10)), If 12 0 11, Il 13 1 12, Im 14 0, ⟨some 15, none, .call 162 [(.t 14)], [4]⟩, Io 16 (.bld [.int .i64 0, .str [], .sl .nil 10 [], .sl .nil 2 [], .sl .nil 7 []] [(4, 1, (.t 15))]), Io 17 (.bls 5 1 [.int .i64 0, .str [], .sl .nil 10 [], .sl .nil 2 [], .sl .nil 7 []] [(0, (.t 16))]), Io 18 (.app 5 96 (.t 13) (.t 17)), Io 19 (.nilchk (.t 9)), If 20 0 19, ⟨none, none, .st 1 (.t 20) (.t 18), []⟩]) (.seq (.reg [] [Im 22 0, Io 23 (.call 163 [(.t 22), (.k (.str [113, 117, 101, 114, 121]))]), Im 21 23])
 (.cond (.t 21) (.reg [0, 1, 2, 3, 4, 5, 6, 7, 8, 9, 10, 11] [Im 24 1, Im 25 1, Io 26 (.nilchk (.t 25)), If 27 0 26, Il 28 1 27, Im 29 0, ⟨some 30, none, .call 164 [(.t 29), (.k (.int .i64 0))], [4]⟩, Io 31 (.bls 5 1 [.int .i64 0, .str [], .sl .nil 10 [], .sl .nil 2 [], .sl .nil 7 []] [(0, (.t 30))]), Io 32 (.app 5 96 (.t 28) (.t 31)), Io 33 (.nilchk (.t 24)), If 34 0 33, ⟨none, none, .st 1 (.t 34) (.t 32), []⟩]) (.seq (.reg [] [Im 36 0, Io 37 (.call 163 [(.t 36), (.k (.str [109, 117, 116, 97, 116, 105, 111, 110]))]), Im 35 37])
 (.cond (.t 35) (.reg [0, 1, 2, 3, 4, 5, 6, 7, 8, 9, 10, 11] [Im 38 1, Im 39 1, Io 40 (.nilchk (.t 39)), If 41 0 40, Il 42 1 41, Im 43 0, ⟨some 44, none, .call 164 [(.t 43), (.k (.int .i64 1))], [4]⟩, Io 45 (.bls 5 1 [.int .i64 0, .str [], .sl .nil 10 [], .sl .nil 2 [], .sl .nil 7 []] [(0, (.t 44))]), Io 46 (.app 5 96 (.t 42) (.t 45)), Io 47 (.nilchk (.t 38)), If 48 0 47, ⟨none, none, .st 1 (.t 48) (.t 46), []⟩]) (.seq (.reg [] [Im 50 0, Io 51 (.call 163 [(.t 50), (.k (.str [102, 114, 97, 103, 109, 101, 110, 116]))]), Im 49 51])
 (.cond (.t 49) (.reg [0, 1, 2, 3, 4, 5, 6, 7, 8, 9, 10, 11] [Im 52 1, Im 53 1, Io 54 (.nilchk (.t 53)), If 55 1 54, Il 56 1 55, Im 57 0, ⟨some 58, none, .call 165 [(.t 57)], [4]⟩, Io 59 (.bls 4 1 [.str [], .str [], .sl .nil 2 [], .sl .nil 7 []] [(0, (.t 58))]), Io 60 (.app 4 80 (.t 56) (.t 59)), Io 61 (.nilchk (.t 52)), If 62 1 61, ⟨none, none, .st 1 (.t 62) (.t 60), []⟩]) (.reg [] [Im 4 0, Io 5 (.call 160 [(.t 4), (.k (.int .i64 2))])])))))))))⟩
theorem ck91:chkFn Tryz.prog 91 ir91=true:=by kernel_rfl
def ir92 : AFn := ⟨13, 1, [.t 2], .seq (.reg [] [Io 2 (.mv (.k (.bool false)))])
 (.seq (.reg [0, 1, 2, 3, 4, 5, 6, 7, 8, 9, 10] [Im 3 0, Io 4 (.nilchk (.t 3)), If 5 1 4, Il 6 1 5, Im 7 0, Io 8 (.nilchk (.t 7)), If 9 0 8, Il 10 1 9, Io 11 (.len (.t 10)), Io 12 (.bi .lss .i64 (.t 6) (.t 11)), Im 2 12])
 (.ret))⟩
theorem ck92:chkFn Tryz.prog 92 ir92=true:=by kernel_rfl
def ir95:AFn:=⟨7,3,[],.reg [] [Im 4 0,Il 5 1 1,Io 6 (.call 96 [(.t 4),(.t 5)]),⟨none,none,.st 5 (.t 2) (.t 6),[]⟩]⟩
theorem ck95:chkFn Tryz.prog 95 ir95=true:=by kernel_rfl
def ir96 : AFn := ⟨109, 2, [.c 4 5 true], .seq (.reg [] [Io 4 (.alloc [.int .i64 0, .int .i64 0, .str [], .sl .nil 5 [], .sl .nil 6 []])])
 (.seq (.seq (.reg [] [Im 10 0, Io 11 (.call 174 [(.t 10)]), Io 5 (.alloc [.int .i64 0, .str []]), ⟨none, none, .st 2 (.t 5) (.t 11), []⟩])
 (.block 0 (.seq (.reg [] [If 13 0 5, Il 14 1 13, Io 15 (.bi .eql .i64 (.t 14) (.k (.int .i64 2))), Im 12 15])
 (.cond (.t 12) (.seq (.reg [] [Im 16 0, Io 17 (.nilchk (.t 16)), If 18 1 17, Il 19 1 18, Io 20 (.bi .add .i64 (.t 19) (.k (.int .i64 1))), Io 21 (.nilchk (.t 16)), If 22 1 21, ⟨none, none, .st 1 (.t 22) (.t 20), []⟩])
 (.seq (.reg [] [If 23 1 5, Il 24 1 23, Io 25 (.call 175 [(.t 24)]), ⟨none, none, .st 5 (.t 4) (.t 25), []⟩])
 (.ret))) (.seq (.reg [] [If 27 0 5, Il 28 1 27, Io 29 (.bi .eql .i64 (.t 28) (.k (.int .i64 3))), Im 30 29, Jf 31 30 (.fa 0 (.t 5)), Jf 32 30 (.ld 1 false (.t 31)), Jf 33 30 (.bi .eql .i64 (.t 32) (.k (.int .i64 4))), Io 34 (.pick (.t 30) (.k (.bool true)) (.t 33)), Im 26 34])
 (.cond (.t 26) (.seq (.reg [] [Im 35 0, Io 36 (.nilchk (.t 35)), If 37 1 36, Il 38 1 37, Io 39 (.bi .add .i64 (.t 38) (.k (.int .i64 1))), Io 40 (.nilchk (.t 35)), If 41 1 40, ⟨none, none, .st 1 (.t 41) (.t 39), []⟩])
 (.seq (.seq (.reg [] [If 43 1 5, Il 44 1 43, Io 45 (.call 176 [(.t 44)]), Im 42 45, Io 46 (.ext (.t 42) 0), Io 47 (.ext (.t 42) 1), Im 6 46, Im 7 47])
 (.seq (.reg [] [Im 48 7])
 (.cond (.t 48) (.seq (.reg [] [Im 49 6, Io 50 (.call 177 [(.t 49)]), ⟨none, none, .st 5 (.t 4) (.t 50), []⟩])
 (.ret)) (.skip))))
 (.seq (.reg [] [If 51 1 5, Il 52 1 51, Io 53 (.bld [.int .i64 0, .int .i64 0, .str [], .sl .nil 5 [], .sl .nil 6 []] [(0, 1, (.k (.int .i64 3))), (2, 1, (.t 52))]), ⟨none, none, .st 5 (.t 4) (.t 53), []⟩])
 (.ret)))) (.seq (.reg [] [If 55 0 5, Il 56 1 55, Io 57 (.bi .eql .i64 (.t 56) (.k (.int .i64 5))), Im 54 57])
 (.cond (.t 54) (.seq (.reg [] [Im 58 0, Io 59 (.nilchk (.t 58)), If 60 1 59, Il 61 1 60, Io 62 (.bi .add .i64 (.t 61) (.k (.int .i64 1))), Io 63 (.nilchk (.t 58)), If 64 1 63, ⟨none, none, .st 1 (.t 64) (.t 62), []⟩])
 (.seq (.reg [] [If 65 1 5, Il 66 1 65, Io 67 (.call 178 [(.t 66)]), ⟨none, none, .st 5 (.t 4) (.t 67), []⟩])
 (.ret))) (.seq (.reg [] [Im 69 0, Io 70 (.call 179 [(.t 69), (.k (.str [91]))]), Im 68 70])
 (.cond (.t 68) (.seq (.reg [] [Io 71 (.bld [.int .i64 0, .int .i64 0, .str [], .sl .nil 5 [], .sl .nil 6 []] [(0, 1, (.k (.int .i64 6)))]), Io 8 (.alloc [.int .i64 0, .int .i64 0, .str [], .sl .nil 5 [], .sl .nil 6 []]), ⟨none, none, .st 5 (.t 8) (.t 71), []⟩])
 (.seq (.block 1 (.loop [0, 1, 4, 8] (.seq (.seq (.reg [] [Im 72 0, Io 73 (.call 180 [(.t 72), (.k (.str [93]))]), Io 74 (.not (.t 73))])
 (.cond (.t 74) (.skip) (.exit 1)))
 (.block 2 (.reg [0, 1, 2, 3, 4, 5, 6, 7, 8] [If 75 3 8, Il 76 1 75, Im 77 0, Im 78 1, ⟨some 79, none, .call 96 [(.t 77), (.t 78)], [1]⟩, Io 80 (.bls 5 1 [.int .i64 0, .int .i64 0, .str [], .sl .nil 5 [], .sl .nil 6 []] [(0, (.t 79))]), Io 81 (.app 5 80 (.t 76) (.t 80)), If 82 3 8, ⟨none, none, .st 1 (.t 82) (.t 81), []⟩])))))
 (.seq (.reg [] [Io 83 (.ld 5 true (.t 8)), ⟨none, none, .st 5 (.t 4) (.t 83), []⟩])
 (.ret)))) (.seq (.reg [] [Im 85 0, Io 86 (.call 179 [(.t 85), (.k (.str [123]))]), Im 84 86])
 (.cond (.t 84) (.seq (.reg [] [Io 87 (.bld [.int .i64 0, .int .i64 0, .str [], .sl .nil 5 [], .sl .nil 6 []] [(0, 1, (.k (.int .i64 7)))]), Io 9 (.alloc [.int .i64 0, .int .i64 0, .str [], .sl .nil 5 [], .sl .nil 6 []]), ⟨none, none, .st 5 (.t 9) (.t 87), []⟩])
 (.seq (.block 3 (.loop [0, 1, 4, 9] (.seq (.seq (.reg [] [Im 88 0, Io 89 (.call 180 [(.t 88), (.k (.str [125]))]), Io 90 (.not (.t 89))])
 (.cond (.t 90) (.skip) (.exit 3)))
 (.block 4 (.reg [0, 1, 2, 3, 4, 5, 6, 7, 8] [If 91 4 9, Il 92 1 91, Im 93 0, Im 94 1, ⟨some 95, none, .call 181 [(.t 93), (.t 94)], [1]⟩, Io 96 (.bls 6 1 [.str [], .int .i64 0, .int .i64 0, .str [], .sl .nil 5 [], .sl .nil 6 []] [(0, (.t 95))]), Io 97 (.app 6 96 (.t 92) (.t 96)), If 98 4 9, ⟨none, none, .st 1 (.t 98) (.t 97), []⟩])))))
 (.seq (.reg [] [Io 99 (.ld 5 true (.t 9)), ⟨none, none, .st 5 (.t 4) (.t 99), []⟩])
 (.ret)))) (.seq (.reg [] [Im 101 1, Im 100 101])
 (.cond (.t 100) (.reg [] [Im 102 0, Io 103 (.call 160 [(.t 102), (.k (.int .i64 2))])]) (.skip)))))))))))))))
 (.seq (.reg [] [Im 104 0, Io 105 (.call 182 [(.t 104), (.k (.str [36]))])])
 (.seq (.reg [] [Im 106 0, Io 107 (.call 183 [(.t 106)]), Io 108 (.bld [.int .i64 0, .int .i64 0, .str [], .sl .nil 5 [], .sl .nil 6 []] [(0, 1, (.k (.int .i64 8))), (2, 1, (.t 107))]), ⟨none, none, .st 5 (.t 4) (.t 108), []⟩])
 (.ret))))⟩
theorem ck96:chkFn Tryz.prog 96 ir96=true:=by kernel_rfl
def ir99:AFn:=⟨5,2,[],.reg [] [Im 3 0,Io 4 (.call 100 [(.t 3)]),⟨none,none,.st 3 (.t 1) (.t 4),[]⟩]⟩
theorem ck99:chkFn Tryz.prog 99 ir99=true:=by kernel_rfl
def ir100 : AFn := ⟨44, 1, [.c 2 3 true], .seq (.reg [] [Io 2 (.alloc [.str [], .int .i64 0, .int .i64 0])])
 (.seq (.reg [] [Io 3 (.mv (.k (.int .i64 0)))])
 (.seq (.block 0 (.loop [0, 2, 3] (.seq (.seq (.reg [] [Im 6 0, Io 7 (.call 161 [(.t 6), (.k (.str [91]))])])
 (.cond (.t 7) (.skip) (.exit 0)))
 (.block 1 (.seq (.seq (.reg [] [Im 8 3, Io 9 (.bi .eql .i64 (.t 8) (.k (.int .i64 4)))])
 (.cond (.t 9) (.reg [] [Im 10 0, Io 11 (.call 160 [(.t 10), (.k (.int .i64 4))])]) (.skip)))
 (.seq (.reg [] [Im 12 0, Io 13 (.nilchk (.t 12)), If 14 1 13, Il 15 1 14, Io 16 (.bi .add .i64 (.t 15) (.k (.int .i64 1))), Io 17 (.nilchk (.t 12)), If 18 1 17, ⟨none, none, .st 1 (.t 18) (.t 16), []⟩])
 (.reg [] [Im 19 3, Io 20 (.bi .add .i64 (.t 19) (.k (.int .i64 1))), Im 3 20])))))))
 (.seq (.reg [] [Im 21 0, Io 22 (.call 183 [(.t 21)]), Im 23 3, Io 24 (.bld [.str [], .int .i64 0, .int .i64 0] [(0, 1, (.t 22)), (1, 1, (.t 23))]), Io 4 (.alloc [.str [], .int .i64 0, .int .i64 0]), ⟨none, none, .st 3 (.t 4) (.t 24), []⟩])
 (.seq (.seq (.reg [] [Im 25 3, Im 5 25])
 (.block 2 (.loop [0, 2, 3, 4, 5] (.seq (.seq (.reg [] [Im 26 5, Io 27 (.bi .geq .i64 (.t 26) (.k (.int .i64 0)))])
 (.cond (.t 27) (.skip) (.exit 2)))
 (.seq (.block 3 (.seq (.seq (.reg [] [Im 30 5, Im 31 3, Io 32 (.bi .lss .i64 (.t 30) (.t 31))])
 (.cond (.t 32) (.reg [] [Im 33 0, Io 34 (.call 182 [(.t 33), (.k (.str [93]))])]) (.skip)))
 (.seq (.reg [] [Im 35 0, Io 36 (.call 191 [(.t 35), (.k (.str [33]))])])
 (.cond (.t 36) (.reg [0, 1, 2, 3, 4, 5, 6] [If 37 2 4, Il 38 1 37, Im 39 5, Io 40 (.shf .shl (.k (.int .i64 1)) (.t 39)), Io 41 (.bi .or .i64 (.t 38) (.t 40)), If 42 2 4, ⟨none, none, .st 1 (.t 42) (.t 41), []⟩]) (.skip)))))
 (.reg [] [Im 28 5, Io 29 (.bi .sub .i64 (.t 28) (.k (.int .i64 1))), Im 5 29]))))))
 (.seq (.reg [] [Io 43 (.ld 3 true (.t 4)), ⟨none, none, .st 3 (.t 2) (.t 43), []⟩])
 (.ret))))))⟩
theorem ck100:chkFn Tryz.prog 100 ir100=true:=by kernel_rfl
def ir116 : AFn := ⟨41, 1, [.t 2], .seq (.reg [] [Io 1 (.boxv (.t 0)), Io 2 (.mv (.k (.int .i64 0)))])
 (.seq (.reg [] [Io 3 (.mv (.k (.int .i64 0)))])
 (.seq (.seq (.reg [] [If 8 0 1, Il 9 1 8])
 (.block 0 (.seq (.reg [] [Io 11 (.bi .eql .i64 (.t 9) (.k (.int .i64 6))), Im 10 11])
 (.cond (.t 10) (.seq (.reg [] [If 12 3 1, Il 13 1 12, Io 14 (.len (.t 13)), Io 15 (.mv (.k (.int .i64 0)))])
 (.block 1 (.loop [3, 13, 14, 15] (.seq (.reg [] [Io 16 (.bi .lss .i64 (.t 15) (.t 14))])
 (.seq (.cond (.t 16) (.skip) (.exit 1))
 (.seq (.block 2 (.seq (.reg [] [Io 17 (.ia 5 (.t 13) (.t 15)), Io 18 (.ld 5 true (.t 17)), Io 5 (.alloc [.int .i64 0, .int .i64 0, .str [], .sl .nil 5 [], .sl .nil 6 []]), ⟨none, none, .st 5 (.t 5) (.t 18), []⟩])
 (.reg [] [Im 19 3, Io 20 (.ld 5 true (.t 5)), Io 21 (.call 116 [(.t 20)]), Io 22 (.mm true (.t 19) [(.t 21)]), Im 3 22])))
 (.reg [] [Io 23 (.bi .add .i64 (.t 15) (.k (.int .i64 1))), Im 15 23]))))))) (.seq (.reg [] [Io 25 (.bi .eql .i64 (.t 9) (.k (.int .i64 7))), Im 24 25])
 (.cond (.t 24) (.seq (.reg [] [If 26 4 1, Il 27 1 26, Io 28 (.len (.t 27)), Io 29 (.mv (.k (.int .i64 0)))])
 (.block 3 (.loop [3, 27, 28, 29] (.seq (.reg [] [Io 30 (.bi .lss .i64 (.t 29) (.t 28))])
 (.seq (.cond (.t 30) (.skip) (.exit 3))
 (.seq (.block 4 (.seq (.reg [] [Io 31 (.ia 6 (.t 27) (.t 29)), Io 32 (.ld 6 true (.t 31)), Io 7 (.alloc [.str [], .int .i64 0, .int .i64 0, .str [], .sl .nil 5 [], .sl .nil 6 []]), ⟨none, none, .st 6 (.t 7) (.t 32), []⟩])
 (.reg [] [Im 33 3, If 34 1 7, Io 35 (.ld 5 true (.t 34)), Io 36 (.call 116 [(.t 35)]), Io 37 (.mm true (.t 33) [(.t 36)]), Im 3 37])))
 (.reg [] [Io 38 (.bi .add .i64 (.t 29) (.k (.int .i64 1))), Im 29 38]))))))) (.seq (.reg [] [Io 2 (.mv (.k (.int .i64 0)))])
 (.ret))))))))
 (.seq (.reg [] [Im 39 3, Io 40 (.bi .add .i64 (.t 39) (.k (.int .i64 1))), Im 2 40])
 (.ret))))⟩
theorem ck116:chkFn Tryz.prog 116 ir116=true:=by kernel_rfl
def ir117 : AFn := ⟨10, 1, [.t 2], .seq (.reg [] [Io 1 (.boxv (.t 0)), Io 2 (.mv (.k (.bool false)))])
 (.seq (.reg [] [Io 3 (.ld 5 true (.t 1)), Io 4 (.call 201 [(.t 3), (.k (.clo 203 [] []))]), Im 5 4, Jt 6 5 (.ld 5 true (.t 1)), Jt 7 5 (.call 116 [(.t 6)]), Jt 8 5 (.bi .leq .i64 (.t 7) (.k (.int .i64 16))), Io 9 (.pick (.t 5) (.t 8) (.k (.bool false))), Im 2 9])
 (.ret))⟩
theorem ck117:chkFn Tryz.prog 117 ir117=true:=by kernel_rfl
def ir118 : AFn := ⟨119, 2, [.t 4], .seq (.reg [] [Io 3 (.boxv (.t 1)), Io 4 (.mv (.k (.sl .nil 2 [])))])
 (.seq (.seq (.reg [] [If 9 0 3, Il 10 1 9])
 (.block 0 (.seq (.reg [] [Io 12 (.bi .eql .i64 (.t 10) (.k (.int .i64 0))), Im 11 12])
 (.cond (.t 11) (.seq (.reg [] [Im 13 0, Io 14 (.call 204 [(.k (.str [110, 117, 108, 108]))]), Io 15 (.bls 2 1 [.int .i64 0, .str []] [(0, (.t 14))]), Io 16 (.app 2 24 (.t 13) (.t 15)), Im 4 16])
 (.ret)) (.seq (.reg [] [Io 18 (.bi .eql .i64 (.t 10) (.k (.int .i64 1))), Im 17 18])
 (.cond (.t 17) (.seq (.reg [] [Im 19 0, If 20 1 3, Il 21 1 20, Io 22 (.bi .eql .i64 (.t 21) (.k (.int .i64 1))), Io 23 (.call 205 [(.t 22)]), Io 24 (.call 204 [(.t 23)]), Io 25 (.bls 2 1 [.int .i64 0, .str []] [(0, (.t 24))]), Io 26 (.app 2 24 (.t 19) (.t 25)), Im 4 26])
 (.ret)) (.seq (.reg [] [Io 28 (.bi .eql .i64 (.t 10) (.k (.int .i64 2))), Im 27 28])
 (.cond (.t 27) (.seq (.reg [] [Im 29 0, If 30 1 3, Il 31 1 30, Io 32 (.call 206 [(.t 31), (.k (.int .i64 10))]), Io 33 (.bld [.int .i64 0, .str []] [(0, 1, (.k (.int .i64 3))), (1, 1, (.t 32))]), Io 34 (.bls 2 1 [.int .i64 0, .str []] [(0, (.t 33))]), Io 35 (.app 2 24 (.t 29) (.t 34)), Im 4 35])
 (.ret)) (.seq (.reg [] [Io 37 (.bi .eql .i64 (.t 10) (.k (.int .i64 3))), Im 36 37])
 (.cond (.t 36) (.seq (.reg [0, 1, 2, 4, 5, 3, 6, 7, 8, 9] [Im 38 0, If 39 2 3, Il 40 1 39, If 42 2 3, Il 43 1 42, ⟨some 41, none, .call 207 [(.t 40)], [4]⟩, Io 44 (.bld [.int .i64 0, .str []] [(0, 1, (.t 41)), (1, 1, (.t 43))]), Io 45 (.bls 2 1 [.int .i64 0, .str []] [(0, (.t 44))]), Io 46 (.app 2 24 (.t 38) (.t 45)), Im 4 46])
 (.ret)) (.seq (.reg [] [Io 48 (.bi .eql .i64 (.t 10) (.k (.int .i64 4))), Im 47 48])
 (.cond (.t 47) (.seq (.reg [] [Im 49 0, If 50 2 3, Il 51 1 50, Io 52 (.bld [.int .i64 0, .str []] [(0, 1, (.k (.int .i64 5))), (1, 1, (.t 51))]), Io 53 (.bls 2 1 [.int .i64 0, .str []] [(0, (.t 52))]), Io 54 (.app 2 24 (.t 49) (.t 53)), Im 4 54])
 (.ret)) (.seq (.reg [] [Io 56 (.bi .eql .i64 (.t 10) (.k (.int .i64 5))), Im 55 56])
 (.cond (.t 55) (.seq (.reg [] [Im 57 0, If 58 2 3, Il 59 1 58, Io 60 (.call 204 [(.t 59)]), Io 61 (.bls 2 1 [.int .i64 0, .str []] [(0, (.t 60))]), Io 62 (.app 2 24 (.t 57) (.t 61)), Im 4 62])
 (.ret)) (.seq (.reg [] [Io 64 (.bi .eql .i64 (.t 10) (.k (.int .i64 8))), Im 63 64])
 (.cond (.t 63) (.seq (.reg [0, 2, 3, 1, 4, 5, 6, 7] [Im 65 0, If 67 2 3, Il 68 1 67, ⟨some 66, none, .call 208 [(.k (.str [36]))], [2]⟩, Io 69 (.call 204 [(.t 68)]), Io 70 (.bls 2 2 [.int .i64 0, .str []] [(0, (.t 66)), (1, (.t 69))]), Io 71 (.app 2 24 (.t 65) (.t 70)), Im 4 71])
 (.ret)) (.seq (.reg [] [Io 73 (.bi .eql .i64 (.t 10) (.k (.int .i64 6))), Im 72 73])
 (.cond (.t 72) (.seq (.reg [] [Im 74 0, Io 75 (.call 208 [(.k (.str [91]))]), Io 76 (.bls 2 1 [.int .i64 0, .str []] [(0, (.t 75))]), Io 77 (.app 2 24 (.t 74) (.t 76)), Im 0 77])
 (.seq (.seq (.reg [] [If 78 3 3, Il 79 1 78, Io 80 (.len (.t 79)), Io 81 (.mv (.k (.int .i64 0)))])
 (.block 1 (.loop [0, 79, 80, 81] (.seq (.reg [] [Io 82 (.bi .lss .i64 (.t 81) (.t 80))])
 (.seq (.cond (.t 82) (.skip) (.exit 1))
 (.seq (.block 2 (.seq (.reg [] [Io 83 (.ia 5 (.t 79) (.t 81)), Io 84 (.ld 5 true (.t 83)), Io 6 (.alloc [.int .i64 0, .int .i64 0, .str [], .sl .nil 5 [], .sl .nil 6 []]), ⟨none, none, .st 5 (.t 6) (.t 84), []⟩])
 (.reg [] [Im 85 0, Io 86 (.ld 5 true (.t 6)), Io 87 (.call 118 [(.t 85), (.t 86)]), Im 0 87])))
 (.reg [] [Io 88 (.bi .add .i64 (.t 81) (.k (.int .i64 1))), Im 81 88])))))))
 (.seq (.reg [] [Im 89 0, Io 90 (.call 208 [(.k (.str [93]))]), Io 91 (.bls 2 1 [.int .i64 0, .str []] [(0, (.t 90))]), Io 92 (.app 2 24 (.t 89) (.t 91)), Im 4 92])
 (.ret)))) (.skip)))))))))))))))))))
 (.seq (.reg [] [Im 93 0, Io 94 (.call 208 [(.k (.str [123]))]), Io 95 (.bls 2 1 [.int .i64 0, .str []] [(0, (.t 94))]), Io 96 (.app 2 24 (.t 93) (.t 95)), Im 0 96])
 (.seq (.seq (.reg [] [If 97 4 3, Il 98 1 97, Io 99 (.len (.t 98)), Io 100 (.mv (.k (.int .i64 0)))])
 (.block 3 (.loop [0, 98, 99, 100] (.seq (.reg [] [Io 101 (.bi .lss .i64 (.t 100) (.t 99))])
 (.seq (.cond (.t 101) (.skip) (.exit 3))
 (.seq (.block 4 (.seq (.reg [] [Io 102 (.ia 6 (.t 98) (.t 100)), Io 103 (.ld 6 true (.t 102)), Io 8 (.alloc [.str [], .int .i64 0, .int .i64 0, .str [], .sl .nil 5 [], .sl .nil 6 []]), ⟨none, none, .st 6 (.t 8) (.t 103), []⟩])
 (.reg [0, 1, 2, 7, 8, 3, 4, 5, 6, 9, 10] [Im 104 0, If 105 0 8, Il 106 1 105, If 111 1 8, Io 112 (.ld 5 true (.t 111)), ⟨some 107, none, .call 204 [(.t 106)], [4]⟩, ⟨some 108, none, .call 208 [(.k (.str [58]))], [4]⟩, Io 109 (.bls 2 2 [.int .i64 0, .str []] [(0, (.t 107)), (1, (.t 108))]), ⟨some 110, none, .app 2 24 (.t 104) (.t 109), [4]⟩, Io 113 (.call 118 [(.t 110), (.t 112)]), Im 0 113])))
 (.reg [] [Io 114 (.bi .add .i64 (.t 100) (.k (.int .i64 1))), Im 100 114])))))))
 (.seq (.reg [] [Im 115 0, Io 116 (.call 208 [(.k (.str [125]))]), Io 117 (.bls 2 1 [.int .i64 0, .str []] [(0, (.t 116))]), Io 118 (.app 2 24 (.t 115) (.t 117)), Im 4 118])
 (.ret)))))⟩
theorem ck118:chkFn Tryz.prog 118 ir118=true:=by kernel_rfl
def ir119 : AFn := ⟨40, 1, [.t 2], .seq (.reg [] [Io 1 (.boxv (.t 0)), Io 2 (.mv (.k (.bool false)))])
 (.seq (.seq (.reg [] [If 3 0 1, Il 4 1 3])
 (.block 0 (.seq (.reg [] [Io 6 (.bi .eql .i64 (.t 4) (.k (.int .i64 1))), Im 5 6])
 (.cond (.t 5) (.seq (.reg [] [If 7 1 1, Il 8 1 7, Io 9 (.bs .eql (.t 8) (.k (.str [46, 46, 46]))), Im 10 9, Jf 11 10 (.fa 1 (.t 1)), Jf 12 10 (.ld 1 false (.t 11)), Jf 13 10 (.lens (.t 12)), Jf 14 10 (.bi .eql .i64 (.t 13) (.k (.int .i64 1))), Jf 15 10 (.mv (.t 14)), Jt 16 15 (.fa 1 (.t 1)), Jt 17 15 (.ld 1 false (.t 16)), Jt 18 15 (.call 209 [(.k (.str [33, 36, 38, 40, 41, 58, 61, 64, 91, 93, 123, 124, 125])), (.t 17)]), Jf 19 10 (.pick (.t 15) (.t 18) (.k (.bool false))), Io 20 (.pick (.t 10) (.k (.bool true)) (.t 19)), Im 2 20])
 (.ret)) (.seq (.reg [] [Io 22 (.bi .eql .i64 (.t 4) (.k (.int .i64 2))), Im 21 22])
 (.cond (.t 21) (.seq (.reg [] [If 23 1 1, Il 24 1 23, Io 25 (.call 203 [(.t 24)]), Im 2 25])
 (.ret)) (.seq (.seq (.reg [] [Io 27 (.bi .eql .i64 (.t 4) (.k (.int .i64 3))), Im 26 27])
 (.cond (.t 26) (.skip) (.reg [] [Io 28 (.bi .eql .i64 (.t 4) (.k (.int .i64 4))), Im 26 28])))
 (.cond (.t 26) (.seq (.reg [0, 1, 3, 4, 2, 5, 6] [If 29 1 1, Il 30 1 29, If 32 0 1, Il 33 1 32, ⟨some 31, none, .call 207 [(.t 30)], [3]⟩, Io 34 (.bi .eql .i64 (.t 31) (.t 33)), Im 2 34])
 (.ret)) (.seq (.reg [] [Io 36 (.bi .eql .i64 (.t 4) (.k (.int .i64 5))), Im 35 36])
 (.cond (.t 35) (.seq (.reg [] [If 37 1 1, Il 38 1 37, Io 39 (.call 202 [(.t 38)]), Im 2 39])
 (.ret)) (.skip)))))))))))
 (.seq (.reg [] [Io 2 (.mv (.k (.bool false)))])
 (.ret)))⟩
theorem ck119:chkFn Tryz.prog 119 ir119=true:=by kernel_rfl
def ir120 : AFn := ⟨83, 1, [.t 2], .seq (.reg [] [Io 2 (.mv (.k (.str [])))])
 (.seq (.reg [] [Io 11 (.bls 1 1 [.int .u8 0] [(0, (.k (.int .u8 34)))]), Im 3 11])
 (.seq (.seq (.reg [] [Io 4 (.mv (.k (.int .i64 0)))])
 (.block 0 (.loop [0, 3, 4] (.seq (.seq (.reg [] [Im 12 4, Im 13 0, Io 14 (.lens (.t 13)), Io 15 (.bi .lss .i64 (.t 12) (.t 14))])
 (.cond (.t 15) (.skip) (.exit 0)))
 (.block 1 (.seq (.reg [] [Im 17 0, Im 18 4, Io 19 (.call 210 [(.t 17), (.t 18)]), Im 16 19, Io 20 (.ext (.t 16) 0), Io 21 (.ext (.t 16) 1), Im 5 20, Im 6 21])
 (.seq (.block 2 (.seq (.reg [] [Im 31 5, Io 32 (.bi .eql .i64 (.t 31) (.k (.int .i64 34))), Im 33 32, Jf 34 33 (.mv (.t 5)), Jf 35 33 (.bi .eql .i64 (.t 34) (.k (.int .i64 92))), Io 36 (.pick (.t 33) (.k (.bool true)) (.t 35)), Im 30 36])
 (.cond (.t 30) (.reg [] [Im 37 3, Im 38 5, Io 39 (.cvi .u8 (.t 38)), Io 40 (.bls 1 2 [.int .u8 0] [(0, (.k (.int .u8 92))), (1, (.t 39))]), Io 41 (.app 1 1 (.t 37) (.t 40)), Im 3 41]) (.seq (.reg [] [Im 43 5, Io 44 (.bi .eql .i64 (.t 43) (.k (.int .i64 10))), Im 42 44])
 (.cond (.t 42) (.reg [] [Im 45 3, Io 46 (.bls 1 2 [.int .u8 0] [(0, (.k (.int .u8 92))), (1, (.k (.int .u8 110)))]), Io 47 (.app 1 1 (.t 45) (.t 46)), Im 3 47]) (.seq (.reg [] [Im 49 5, Io 50 (.bi .lss .i64 (.t 49) (.k (.int .i64 32))), Im 51 50, Jf 52 51 (.mv (.t 5)), Jf 53 51 (.bi .geq .i64 (.t 52) (.k (.int .i64 65536))), Io 54 (.pick (.t 51) (.k (.bool true)) (.t 53)), Im 48 54])
 (.cond (.t 48) (.seq (.reg [] [Im 56 0, Im 57 4, Im 58 4, Im 59 6, Io 60 (.bi .add .i64 (.t 58) (.t 59)), Io 61 (.sls (.t 56) (some (.t 57)) (some (.t 60))), Io 62 (.call 211 [(.t 61)]), Im 55 62, Io 63 (.ext (.t 55) 0), Io 64 (.ext (.t 55) 1), Im 7 63, Im 8 64])
 (.seq (.reg [] [Im 65 7, Io 66 (.len (.t 65)), Io 67 (.mv (.k (.int .i64 0)))])
 (.block 3 (.loop [0, 3, 4, 6, 65, 66, 67] (.seq (.reg [] [Io 68 (.bi .lss .i64 (.t 67) (.t 66))])
 (.seq (.cond (.t 68) (.skip) (.exit 3))
 (.seq (.block 4 (.seq (.reg [] [Io 69 (.ia 1 (.t 65) (.t 67)), Il 70 1 69, Im 10 70])
 (.reg [] [Im 71 3, Im 72 10, Io 73 (.call 212 [(.t 71), (.t 72)]), Im 3 73])))
 (.reg [] [Io 74 (.bi .add .i64 (.t 67) (.k (.int .i64 1))), Im 67 74])))))))) (.reg [] [Im 22 3, Im 23 0, Im 24 4, Im 25 4, Im 26 6, Io 27 (.bi .add .i64 (.t 25) (.t 26)), Io 28 (.sls (.t 23) (some (.t 24)) (some (.t 27))), Io 29 (.apps (.t 22) (.t 28)), Im 3 29]))))))))
 (.reg [] [Im 75 4, Im 76 6, Io 77 (.mm true (.t 76) [(.k (.int .i64 1))]), Io 78 (.bi .add .i64 (.t 75) (.t 77)), Im 4 78]))))))))
 (.seq (.reg [] [Im 79 3, Io 80 (.bls 1 1 [.int .u8 0] [(0, (.k (.int .u8 34)))]), Io 81 (.app 1 1 (.t 79) (.t 80)), Io 82 (.cvb2s (.t 81)), Im 2 82])
 (.ret))))⟩
theorem ck120:chkFn Tryz.prog 120 ir120=true:=by kernel_rfl
def ir122 : AFn := ⟨25, 1, [.t 2], .seq (.reg [] [Io 2 (.mv (.k (.bool false)))])
 (.scope (.seq (.skip)
 (.seq (.seq (.reg [] [Io 3 (.mv (.k (.int .i64 0)))])
 (.block 0 (.loop [0, 3] (.seq (.seq (.reg [] [Im 6 3, Im 7 0, Io 8 (.lens (.t 7)), Io 9 (.bi .lss .i64 (.t 6) (.t 8))])
 (.cond (.t 9) (.skip) (.exit 0)))
 (.block 1 (.seq (.seq (.reg [] [Im 11 0, Im 12 3, Io 13 (.call 210 [(.t 11), (.t 12)]), Im 10 13, Io 14 (.ext (.t 10) 0), Io 15 (.ext (.t 10) 1), Im 4 14, Im 5 15])
 (.seq (.reg [] [Im 16 5, Io 17 (.bi .gtr .i64 (.t 16) (.k (.int .i64 0))), Im 18 17, Jt 19 18 (.mv (.t 4)), Jt 20 18 (.call 216 [(.t 19)]), Io 21 (.pick (.t 18) (.t 20) (.k (.bool false)))])
 (.cond (.t 21) (.seq (.reg [] [Im 22 3, Im 23 5, Io 24 (.bi .add .i64 (.t 22) (.t 23)), Im 3 24])
 (.exit 1)) (.skip))))
 (.seq (.reg [] [Io 2 (.mv (.k (.bool false)))])
 (.ret))))))))
 (.seq (.reg [] [Io 2 (.mv (.k (.bool true)))])
 (.ret)))))⟩
theorem ck122:chkFn Tryz.prog 122 ir122=true:=by kernel_rfl
def ir123 : AFn := ⟨39, 1, [.t 2], .seq (.reg [] [Io 2 (.mv (.k (.int .i64 0)))])
 (.seq (.seq (.reg [] [Im 5 0, Io 6 (.ixs (.t 5) (.k (.int .i64 0))), Im 3 6])
 (.block 0 (.seq (.reg [] [Im 8 3, Io 9 (.bi .eql .u8 (.t 8) (.k (.int .u8 9))), Im 10 9, Jf 11 10 (.mv (.t 3)), Jf 12 10 (.bi .eql .u8 (.t 11) (.k (.int .u8 10))), Io 13 (.pick (.t 10) (.k (.bool true)) (.t 12)), Im 14 13, Jf 15 14 (.mv (.t 3)), Jf 16 14 (.bi .eql .u8 (.t 15) (.k (.int .u8 13))), Io 17 (.pick (.t 14) (.k (.bool true)) (.t 16)), Im 18 17, Jf 19 18 (.mv (.t 3)), Jf 20 18 (.bi .eql .u8 (.t 19) (.k (.int .u8 32))), Io 21 (.pick (.t 18) (.k (.bool true)) (.t 20)), Im 22 21, Jf 23 22 (.mv (.t 3)), Jf 24 22 (.bi .eql .u8 (.t 23) (.k (.int .u8 44))), Io 25 (.pick (.t 22) (.k (.bool true)) (.t 24)), Im 7 25])
 (.cond (.t 7) (.seq (.reg [] [Io 2 (.mv (.k (.int .i64 1)))])
 (.ret)) (.seq (.reg [] [Im 27 0, Io 28 (.call 217 [(.t 27), (.k (.str [239, 187, 191]))]), Im 26 28])
 (.cond (.t 26) (.seq (.reg [] [Io 2 (.mv (.k (.int .i64 3)))])
 (.ret)) (.seq (.reg [] [Im 30 3, Io 31 (.bi .eql .u8 (.t 30) (.k (.int .u8 35))), Im 29 31])
 (.cond (.t 29) (.seq (.seq (.reg [] [Im 32 0, Io 33 (.call 218 [(.t 32), (.k (.str [13, 10]))]), Im 4 33])
 (.seq (.reg [] [Im 34 4, Io 35 (.bi .geq .i64 (.t 34) (.k (.int .i64 0)))])
 (.cond (.t 35) (.seq (.reg [] [Im 36 4, Im 2 36])
 (.ret)) (.skip))))
 (.seq (.reg [] [Im 37 0, Io 38 (.lens (.t 37)), Im 2 38])
 (.ret))) (.skip)))))))))
 (.seq (.reg [] [Io 2 (.mv (.k (.int .i64 0)))])
 (.ret)))⟩
theorem ck123:chkFn Tryz.prog 123 ir123=true:=by kernel_rfl
def ir124 : AFn := ⟨91, 1, [.c 2 2 true, .t 3], .seq (.reg [] [Io 2 (.alloc [.int .i64 0, .str []]), Io 3 (.mv (.k (.int .i64 0)))])
 (.seq (.reg [] [Im 12 0, Io 13 (.ixs (.t 12) (.k (.int .i64 0))), Im 4 13])
 (.seq (.block 0 (.seq (.reg [] [Im 15 0, Io 16 (.call 217 [(.t 15), (.k (.str [34, 34, 34]))]), Im 14 16])
 (.cond (.t 14) (.seq (.reg [] [Im 18 0, Io 19 (.call 219 [(.t 18)]), Im 17 19, Io 20 (.ext (.t 17) 0), Io 21 (.ext (.t 17) 1), Im 5 20, Im 6 21])
 (.seq (.reg [] [Im 22 5, Io 23 (.bld [.int .i64 0, .str []] [(0, 1, (.k (.int .i64 5))), (1, 1, (.t 22))]), Im 24 6, ⟨none, none, .st 2 (.t 2) (.t 23), []⟩, Im 3 24])
 (.ret))) (.seq (.reg [] [Im 26 4, Io 27 (.bi .eql .u8 (.t 26) (.k (.int .u8 34))), Im 25 27])
 (.cond (.t 25) (.seq (.reg [] [Im 29 0, Io 30 (.call 220 [(.t 29), (.k (.clo 221 [] []))]), Im 28 30, Io 31 (.ext (.t 28) 0), Io 32 (.ext (.t 28) 1), Im 7 31, Im 8 32])
 (.seq (.reg [] [Im 33 7, Io 34 (.bld [.int .i64 0, .str []] [(0, 1, (.k (.int .i64 5))), (1, 1, (.t 33))]), Im 35 8, ⟨none, none, .st 2 (.t 2) (.t 34), []⟩, Im 3 35])
 (.ret))) (.seq (.reg [] [Im 37 0, Io 38 (.call 217 [(.t 37), (.k (.str [46, 46, 46]))]), Im 36 38])
 (.cond (.t 36) (.seq (.reg [] [Io 39 (.bld [.int .i64 0, .str []] [(0, 1, (.k (.int .i64 1))), (1, 1, (.k (.str [46, 46, 46])))]), ⟨none, none, .st 2 (.t 2) (.t 39), []⟩, Io 3 (.mv (.k (.int .i64 3)))])
 (.ret)) (.seq (.reg [] [Im 41 4, Io 42 (.call 222 [(.k (.str [33, 36, 38, 40, 41, 58, 61, 64, 91, 93, 123, 124, 125])), (.t 41)]), Io 43 (.bi .geq .i64 (.t 42) (.k (.int .i64 0))), Im 40 43])
 (.cond (.t 40) (.seq (.reg [] [Im 44 0, Io 45 (.sls (.t 44) none (some (.k (.int .i64 1)))), Io 46 (.bld [.int .i64 0, .str []] [(0, 1, (.k (.int .i64 1))), (1, 1, (.t 45))]), ⟨none, none, .st 2 (.t 2) (.t 46), []⟩, Io 3 (.mv (.k (.int .i64 1)))])
 (.ret)) (.seq (.reg [] [Im 48 4, Io 49 (.call 223 [(.t 48)]), Im 47 49])
 (.cond (.t 47) (.seq (.reg [] [Im 50 0, Io 51 (.call 224 [(.t 50)]), Im 9 51])
 (.seq (.reg [] [Im 52 0, Im 53 9, Io 54 (.sls (.t 52) none (some (.t 53))), Io 55 (.bld [.int .i64 0, .str []] [(0, 1, (.k (.int .i64 2))), (1, 1, (.t 54))]), Im 56 9, ⟨none, none, .st 2 (.t 2) (.t 55), []⟩, Im 3 56])
 (.ret))) (.skip))))))))))))
 (.seq (.reg [] [Im 58 0, Io 59 (.call 225 [(.t 58)]), Im 57 59, Io 60 (.ext (.t 57) 0), Io 61 (.ext (.t 57) 1), Im 10 60, Im 11 61])
 (.seq (.seq (.reg [] [Im 62 10, Im 63 0, Io 64 (.lens (.t 63)), Io 65 (.bi .lss .i64 (.t 62) (.t 64)), Im 66 65, Jt 67 66 (.mv (.t 0)), Jt 68 66 (.mv (.t 10)), Jt 69 66 (.ixs (.t 67) (.t 68)), Jt 70 66 (.call 223 [(.t 69)]), Jt 71 66 (.mv (.t 70)), Jf 72 71 (.mv (.t 0)), Jf 73 71 (.mv (.t 10)), Jf 74 71 (.ixs (.t 72) (.t 73)), Jf 75 71 (.call 226 [(.t 74)]), Jt 76 66 (.pick (.t 71) (.k (.bool true)) (.t 75)), Jt 77 66 (.mv (.t 76)), Jf 78 77 (.mv (.t 0)), Jf 79 77 (.mv (.t 10)), Jf 80 77 (.ixs (.t 78) (.t 79)), Jf 81 77 (.bi .eql .u8 (.t 80) (.k (.int .u8 46))), Jt 82 66 (.pick (.t 77) (.k (.bool true)) (.t 81)), Io 83 (.pick (.t 66) (.t 82) (.k (.bool false)))])
 (.cond (.t 83) (.seq (.reg [] [Io 84 (.bld [.int .i64 0, .str []] []), ⟨none, none, .st 2 (.t 2) (.t 84), []⟩, Io 3 (.mv (.k (.int .i64 0)))])
 (.ret)) (.skip)))
 (.seq (.reg [] [Im 85 11, Im 86 0, Im 87 10, Io 88 (.sls (.t 86) none (some (.t 87))), Io 89 (.bld [.int .i64 0, .str []] [(0, 1, (.t 85)), (1, 1, (.t 88))]), Im 90 10, ⟨none, none, .st 2 (.t 2) (.t 89), []⟩, Im 3 90])
 (.ret))))))⟩
theorem ck124:chkFn Tryz.prog 124 ir124=true:=by kernel_rfl
def ir125 : AFn := ⟨30, 1, [.t 2], .seq (.reg [] [Io 1 (.boxv (.t 0)), Io 2 (.mv (.k (.bool false)))])
 (.seq (.reg [] [If 3 0 1, Il 4 1 3, Io 5 (.call 203 [(.t 4)]), Im 6 5, Jt 7 6 (.fa 1 (.t 1)), Jt 8 6 (.ld 1 false (.t 7)), Jt 9 6 (.bi .geq .i64 (.t 8) (.k (.int .i64 0))), Io 10 (.pick (.t 6) (.t 9) (.k (.bool false))), Im 11 10, Jt 12 11 (.fa 1 (.t 1)), Jt 13 11 (.ld 1 false (.t 12)), Jt 14 11 (.bi .leq .i64 (.t 13) (.k (.int .i64 4))), Io 15 (.pick (.t 11) (.t 14) (.k (.bool false))), Im 16 15, Jt 17 16 (.fa 2 (.t 1)), Jt 18 16 (.ld 1 false (.t 17)), Jt 19 16 (.bi .geq .i64 (.t 18) (.k (.int .i64 0))), Io 20 (.pick (.t 16) (.t 19) (.k (.bool false))), Im 21 20, Jt 22 21 (.fa 2 (.t 1)), Jt 23 21 (.ld 1 false (.t 22)), Jt 24 21 (.fa 1 (.t 1)), Jt 25 21 (.ld 1 false (.t 24)), Jt 26 21 (.bi .add .i64 (.t 25) (.k (.int .i64 1))), Jt 27 21 (.shf .shr (.t 23) (.t 26)), Jt 28 21 (.bi .eql .i64 (.t 27) (.k (.int .i64 0))), Io 29 (.pick (.t 21) (.t 28) (.k (.bool false))), Im 2 29])
 (.ret))⟩
theorem ck125:chkFn Tryz.prog 125 ir125=true:=by kernel_rfl
def ir127 : AFn := ⟨11, 2, [.t 4], .seq (.reg [] [Io 2 (.boxv (.t 0)), Io 4 (.mv (.k (.bool false)))])
 (.seq (.reg [] [If 5 2 2, Il 6 1 5, Im 7 1, Io 8 (.shf .shr (.t 6) (.t 7)), Io 9 (.bi .and .i64 (.t 8) (.k (.int .i64 1))), Io 10 (.bi .eql .i64 (.t 9) (.k (.int .i64 1))), Im 4 10])
 (.ret))⟩
theorem ck127:chkFn Tryz.prog 127 ir127=true:=by kernel_rfl
def ir128 : AFn := ⟨32, 3, [.t 6], .seq (.reg [] [Io 6 (.mv (.k (.bool false)))])
 (.seq (.seq (.reg [] [Im 10 0, Io 11 (.len (.t 10)), Im 12 1, Io 13 (.len (.t 12)), Io 14 (.bi .neq .i64 (.t 11) (.t 13))])
 (.cond (.t 14) (.seq (.reg [] [Io 6 (.mv (.k (.bool false)))])
 (.ret)) (.skip)))
 (.seq (.seq (.reg [] [Im 15 0, Io 16 (.len (.t 15)), Io 17 (.mv (.k (.int .i64 0)))])
 (.block 0 (.loop [1, 2, 15, 16, 17] (.seq (.reg [] [Io 18 (.bi .lss .i64 (.t 17) (.t 16))])
 (.seq (.cond (.t 18) (.skip) (.exit 0))
 (.seq (.block 1 (.seq (.reg [] [Im 19 17, Io 20 (.ia 5 (.t 15) (.t 17)), Io 21 (.ld 5 true (.t 20)), Io 8 (.alloc [.int .i64 0, .int .i64 0, .str [], .sl .nil 5 [], .sl .nil 6 []]), Im 7 19, ⟨none, none, .st 5 (.t 8) (.t 21), []⟩])
 (.seq (.reg [] [Im 22 1, Im 23 7, Io 24 (.ia 5 (.t 22) (.t 23)), Io 25 (.ld 5 true (.t 24)), Io 9 (.alloc [.int .i64 0, .int .i64 0, .str [], .sl .nil 5 [], .sl .nil 6 []]), ⟨none, none, .st 5 (.t 9) (.t 25), []⟩])
 (.seq (.reg [] [Im 26 2, Io 27 (.ld 5 true (.t 8)), Io 28 (.ld 5 true (.t 9)), Io 29 (.callv (.t 26) [(.t 27), (.t 28)]), Io 30 (.not (.t 29))])
 (.cond (.t 30) (.seq (.reg [] [Io 6 (.mv (.k (.bool false)))])
 (.ret)) (.skip))))))
 (.reg [] [Io 31 (.bi .add .i64 (.t 17) (.k (.int .i64 1))), Im 17 31])))))))
 (.seq (.reg [] [Io 6 (.mv (.k (.bool true)))])
 (.ret))))⟩
theorem ck128:chkFn Tryz.prog 128 ir128=true:=by kernel_rfl
def ir129 : AFn := ⟨32, 3, [.t 6], .seq (.reg [] [Io 6 (.mv (.k (.bool false)))])
 (.seq (.seq (.reg [] [Im 10 0, Io 11 (.len (.t 10)), Im 12 1, Io 13 (.len (.t 12)), Io 14 (.bi .neq .i64 (.t 11) (.t 13))])
 (.cond (.t 14) (.seq (.reg [] [Io 6 (.mv (.k (.bool false)))])
 (.ret)) (.skip)))
 (.seq (.seq (.reg [] [Im 15 0, Io 16 (.len (.t 15)), Io 17 (.mv (.k (.int .i64 0)))])
 (.block 0 (.loop [1, 2, 15, 16, 17] (.seq (.reg [] [Io 18 (.bi .lss .i64 (.t 17) (.t 16))])
 (.seq (.cond (.t 18) (.skip) (.exit 0))
 (.seq (.block 1 (.seq (.reg [] [Im 19 17, Io 20 (.ia 6 (.t 15) (.t 17)), Io 21 (.ld 6 true (.t 20)), Io 8 (.alloc [.str [], .int .i64 0, .int .i64 0, .str [], .sl .nil 5 [], .sl .nil 6 []]), Im 7 19, ⟨none, none, .st 6 (.t 8) (.t 21), []⟩])
 (.seq (.reg [] [Im 22 1, Im 23 7, Io 24 (.ia 6 (.t 22) (.t 23)), Io 25 (.ld 6 true (.t 24)), Io 9 (.alloc [.str [], .int .i64 0, .int .i64 0, .str [], .sl .nil 5 [], .sl .nil 6 []]), ⟨none, none, .st 6 (.t 9) (.t 25), []⟩])
 (.seq (.reg [] [Im 26 2, Io 27 (.ld 6 true (.t 8)), Io 28 (.ld 6 true (.t 9)), Io 29 (.callv (.t 26) [(.t 27), (.t 28)]), Io 30 (.not (.t 29))])
 (.cond (.t 30) (.seq (.reg [] [Io 6 (.mv (.k (.bool false)))])
 (.ret)) (.skip))))))
 (.reg [] [Io 31 (.bi .add .i64 (.t 17) (.k (.int .i64 1))), Im 17 31])))))))
 (.seq (.reg [] [Io 6 (.mv (.k (.bool true)))])
 (.ret))))⟩
theorem ck129:chkFn Tryz.prog 129 ir129=true:=by kernel_rfl
def ir130 : AFn := ⟨17, 2, [.t 4], .seq (.reg [] [Io 2 (.boxv (.t 0)), Io 3 (.boxv (.t 1)), Io 4 (.mv (.k (.bool false)))])
 (.seq (.reg [] [If 5 0 2, Il 6 1 5, If 7 0 3, Il 8 1 7, Io 9 (.bs .eql (.t 6) (.t 8)), Im 10 9, Jt 11 10 (.fa 1 (.t 2)), Jt 12 10 (.ld 5 true (.t 11)), Jt 13 10 (.fa 1 (.t 3)), Jt 14 10 (.ld 5 true (.t 13)), Jt 15 10 (.call 59 [(.t 12), (.t 14)]), Io 16 (.pick (.t 10) (.t 15) (.k (.bool false))), Im 4 16])
 (.ret))⟩
theorem ck130:chkFn Tryz.prog 130 ir130=true:=by kernel_rfl
def ir131 : AFn := ⟨51, 2, [.t 4], .seq (.reg [] [Io 3 (.boxv (.t 1)), Io 4 (.mv (.k (.sl .nil 1 [])))])
 (.seq (.seq (.reg [] [If 9 0 3, Il 10 1 9])
 (.block 0 (.seq (.reg [] [Io 12 (.bi .eql .i64 (.t 10) (.k (.int .i64 8))), Im 11 12])
 (.cond (.t 11) (.seq (.reg [] [Im 13 0, If 14 2 3, Il 15 1 14, Io 16 (.call 229 [(.t 13), (.t 15)]), Io 17 (.not (.t 16))])
 (.cond (.t 17) (.reg [] [Im 18 0, If 19 2 3, Il 20 1 19, Io 21 (.bls 1 1 [.str []] [(0, (.t 20))]), Io 22 (.app 1 16 (.t 18) (.t 21)), Im 0 22]) (.skip))) (.seq (.reg [] [Io 24 (.bi .eql .i64 (.t 10) (.k (.int .i64 6))), Im 23 24])
 (.cond (.t 23) (.seq (.reg [] [If 25 3 3, Il 26 1 25, Io 27 (.len (.t 26)), Io 28 (.mv (.k (.int .i64 0)))])
 (.block 1 (.loop [0, 26, 27, 28] (.seq (.reg [] [Io 29 (.bi .lss .i64 (.t 28) (.t 27))])
 (.seq (.cond (.t 29) (.skip) (.exit 1))
 (.seq (.block 2 (.seq (.reg [] [Io 30 (.ia 5 (.t 26) (.t 28)), Io 31 (.ld 5 true (.t 30)), Io 6 (.alloc [.int .i64 0, .int .i64 0, .str [], .sl .nil 5 [], .sl .nil 6 []]), ⟨none, none, .st 5 (.t 6) (.t 31), []⟩])
 (.reg [] [Im 32 0, Io 33 (.ld 5 true (.t 6)), Io 34 (.call 131 [(.t 32), (.t 33)]), Im 0 34])))
 (.reg [] [Io 35 (.bi .add .i64 (.t 28) (.k (.int .i64 1))), Im 28 35]))))))) (.seq (.reg [] [Io 37 (.bi .eql .i64 (.t 10) (.k (.int .i64 7))), Im 36 37])
 (.cond (.t 36) (.seq (.reg [] [If 38 4 3, Il 39 1 38, Io 40 (.len (.t 39)), Io 41 (.mv (.k (.int .i64 0)))])
 (.block 3 (.loop [0, 39, 40, 41] (.seq (.reg [] [Io 42 (.bi .lss .i64 (.t 41) (.t 40))])
 (.seq (.cond (.t 42) (.skip) (.exit 3))
 (.seq (.block 4 (.seq (.reg [] [Io 43 (.ia 6 (.t 39) (.t 41)), Io 44 (.ld 6 true (.t 43)), Io 8 (.alloc [.str [], .int .i64 0, .int .i64 0, .str [], .sl .nil 5 [], .sl .nil 6 []]), ⟨none, none, .st 6 (.t 8) (.t 44), []⟩])
 (.reg [] [Im 45 0, If 46 1 8, Io 47 (.ld 5 true (.t 46)), Io 48 (.call 131 [(.t 45), (.t 47)]), Im 0 48])))
 (.reg [] [Io 49 (.bi .add .i64 (.t 41) (.k (.int .i64 1))), Im 41 49]))))))) (.skip)))))))))
 (.seq (.reg [] [Im 50 0, Im 4 50])
 (.ret)))⟩
theorem ck131:chkFn Tryz.prog 131 ir131=true:=by kernel_rfl
def ir160:AFn:=⟨7,2,[],.reg [] [Im 4 1,Io 5 (.bld [.int .i64 0] [(0,1,(.t 4))]),Io 6 (.mki 186 (.t 5)),⟨none,none,.pan (.t 6),[]⟩]⟩
theorem ck160:chkFn Tryz.prog 160 ir160=true:=by kernel_rfl
def ir161 : AFn := ⟨10, 2, [.t 4], .seq (.reg [] [Io 4 (.mv (.k (.bool false)))])
 (.seq (.reg [] [Im 5 0, Io 6 (.call 174 [(.t 5)]), Im 7 1, Io 8 (.bld [.int .i64 0, .str []] [(0, 1, (.k (.int .i64 1))), (1, 1, (.t 7))]), Io 9 (.eqa false [(.i .i64), .s] (.t 6) (.t 8)), Im 4 9])
 (.ret))⟩
theorem ck161:chkFn Tryz.prog 161 ir161=true:=by kernel_rfl
def ir162 : AFn := ⟨21, 1, [.t 2], .seq (.reg [] [Io 2 (.mv (.k (.sl .nil 7 [])))])
 (.seq (.seq (.reg [] [Im 4 0, Io 5 (.call 179 [(.t 4), (.k (.str [123]))]), Io 6 (.not (.t 5))])
 (.cond (.t 6) (.reg [] [Im 7 0, Io 8 (.call 160 [(.t 7), (.k (.int .i64 2))])]) (.skip)))
 (.seq (.reg [] [Im 9 0, Io 10 (.call 247 [(.t 9)]), Io 11 (.bls 7 1 [.int .i64 0, .str [], .str [], .sl .nil 6 [], .sl .nil 2 [], .str [], .sl .nil 7 []] [(0, (.t 10))]), Im 3 11])
 (.seq (.block 0 (.loop [0, 3] (.seq (.seq (.reg [] [Im 12 0, Io 13 (.call 180 [(.t 12), (.k (.str [125]))]), Io 14 (.not (.t 13))])
 (.cond (.t 14) (.skip) (.exit 0)))
 (.block 1 (.reg [] [Im 15 3, Im 16 0, Io 17 (.call 247 [(.t 16)]), Io 18 (.bls 7 1 [.int .i64 0, .str [], .str [], .sl .nil 6 [], .sl .nil 2 [], .str [], .sl .nil 7 []] [(0, (.t 17))]), Io 19 (.app 7 128 (.t 15) (.t 18)), Im 3 19])))))
 (.seq (.reg [] [Im 20 3, Im 2 20])
 (.ret)))))⟩
theorem ck162:chkFn Tryz.prog 162 ir162=true:=by kernel_rfl
def ir163 : AFn := ⟨18, 2, [.t 4], .seq (.reg [] [Io 4 (.mv (.k (.bool false)))])
 (.seq (.reg [] [Im 6 0, Im 7 1, Io 8 (.call 248 [(.t 6), (.t 7)]), Im 5 8])
 (.seq (.seq (.reg [] [Im 9 5])
 (.cond (.t 9) (.reg [] [Im 10 0, Io 11 (.nilchk (.t 10)), If 12 1 11, Il 13 1 12, Io 14 (.bi .add .i64 (.t 13) (.k (.int .i64 1))), Io 15 (.nilchk (.t 10)), If 16 1 15, ⟨none, none, .st 1 (.t 16) (.t 14), []⟩]) (.skip)))
 (.seq (.reg [] [Im 17 5, Im 4 17])
 (.ret))))⟩
theorem ck163:chkFn Tryz.prog 163 ir163=true:=by kernel_rfl
def ir164 : AFn := ⟨41, 2, [.c 4 5 true], .seq (.reg [] [Io 4 (.alloc [.int .i64 0, .str [], .sl .nil 10 [], .sl .nil 2 [], .sl .nil 7 []])])
 (.seq (.reg [] [Im 6 1, Io 7 (.bld [.int .i64 0, .str [], .sl .nil 10 [], .sl .nil 2 [], .sl .nil 7 []] [(0, 1, (.t 6))]), Io 5 (.alloc [.int .i64 0, .str [], .sl .nil 10 [], .sl .nil 2 [], .sl .nil 7 []]), ⟨none, none, .st 5 (.t 5) (.t 7), []⟩])
 (.seq (.seq (.reg [] [Im 8 0, Io 9 (.call 174 [(.t 8)]), Io 10 (.fld 0 1 false (.t 9)), Io 11 (.bi .eql .i64 (.t 10) (.k (.int .i64 2)))])
 (.cond (.t 11) (.reg [] [Im 12 0, Io 13 (.call 183 [(.t 12)]), If 14 1 5, ⟨none, none, .st 1 (.t 14) (.t 13), []⟩]) (.skip)))
 (.seq (.seq (.reg [] [Im 15 0, Io 16 (.call 191 [(.t 15), (.k (.str [40]))])])
 (.cond (.t 16) (.seq (.reg [0, 1, 2, 3, 4, 5, 6, 7] [If 17 2 5, Il 18 1 17, Im 19 0, ⟨some 20, none, .call 249 [(.t 19)], [1]⟩, Io 21 (.bls 10 1 [.str [], .str [], .int .i64 0, .int .i64 0, .bool false, .int .i64 0, .int .i64 0, .str [], .sl .nil 5 [], .sl .nil 6 []] [(0, (.t 20))]), Io 22 (.app 10 136 (.t 18) (.t 21)), If 23 2 5, ⟨none, none, .st 1 (.t 23) (.t 22), []⟩])
 (.block 0 (.loop [0, 4, 5] (.seq (.seq (.reg [] [Im 24 0, Io 25 (.call 191 [(.t 24), (.k (.str [41]))]), Io 26 (.not (.t 25))])
 (.cond (.t 26) (.skip) (.exit 0)))
 (.block 1 (.reg [0, 1, 2, 3, 4, 5, 6, 7] [If 27 2 5, Il 28 1 27, Im 29 0, ⟨some 30, none, .call 249 [(.t 29)], [1]⟩, Io 31 (.bls 10 1 [.str [], .str [], .int .i64 0, .int .i64 0, .bool false, .int .i64 0, .int .i64 0, .str [], .sl .nil 5 [], .sl .nil 6 []] [(0, (.t 30))]), Io 32 (.app 10 136 (.t 28) (.t 31)), If 33 2 5, ⟨none, none, .st 1 (.t 33) (.t 32), []⟩])))))) (.skip)))
 (.seq (.reg [] [Im 34 0, Io 35 (.call 250 [(.t 34), (.k (.bool true))]), If 36 3 5, ⟨none, none, .st 1 (.t 36) (.t 35), []⟩])
 (.seq (.reg [] [Im 37 0, Io 38 (.call 162 [(.t 37)]), If 39 4 5, ⟨none, none, .st 1 (.t 39) (.t 38), []⟩])
 (.seq (.reg [] [Io 40 (.ld 5 true (.t 5)), ⟨none, none, .st 5 (.t 4) (.t 40), []⟩])
 (.ret)))))))⟩
theorem ck164:chkFn Tryz.prog 164 ir164=true:=by kernel_rfl
def ir165 : AFn := ⟨22, 1, [.c 2 4 true], .seq (.reg [] [Io 2 (.alloc [.str [], .str [], .sl .nil 2 [], .sl .nil 7 []])])
 (.seq (.reg [] [Im 4 0, Io 5 (.call 251 [(.t 4)]), Io 6 (.bld [.str [], .str [], .sl .nil 2 [], .sl .nil 7 []] [(0, 1, (.t 5))]), Io 3 (.alloc [.str [], .str [], .sl .nil 2 [], .sl .nil 7 []]), ⟨none, none, .st 4 (.t 3) (.t 6), []⟩])
 (.seq (.seq (.reg [] [Im 7 0, Io 8 (.call 163 [(.t 7), (.k (.str [111, 110]))]), Io 9 (.not (.t 8))])
 (.cond (.t 9) (.reg [] [Im 10 0, Io 11 (.call 160 [(.t 10), (.k (.int .i64 2))])]) (.skip)))
 (.seq (.reg [] [Im 12 0, Io 13 (.call 183 [(.t 12)]), If 14 1 3, ⟨none, none, .st 1 (.t 14) (.t 13), []⟩])
 (.seq (.reg [] [Im 15 0, Io 16 (.call 250 [(.t 15), (.k (.bool true))]), If 17 2 3, ⟨none, none, .st 1 (.t 17) (.t 16), []⟩])
 (.seq (.reg [] [Im 18 0, Io 19 (.call 162 [(.t 18)]), If 20 3 3, ⟨none, none, .st 1 (.t 20) (.t 19), []⟩])
 (.seq (.reg [] [Io 21 (.ld 4 true (.t 3)), ⟨none, none, .st 4 (.t 2) (.t 21), []⟩])
 (.ret)))))))⟩
theorem ck165:chkFn Tryz.prog 165 ir165=true:=by kernel_rfl
def ir174 : AFn := ⟨17, 1, [.c 2 2 true], .seq (.reg [] [Io 2 (.alloc [.int .i64 0, .str []])])
 (.seq (.seq (.reg [] [Im 3 0, Io 4 (.call 92 [(.t 3)]), Io 5 (.not (.t 4))])
 (.cond (.t 5) (.seq (.reg [] [Io 6 (.bld [.int .i64 0, .str []] []), ⟨none, none, .st 2 (.t 2) (.t 6), []⟩])
 (.ret)) (.skip)))
 (.seq (.reg [0, 1, 2, 3, 4, 5, 6, 7, 8, 9, 10] [Im 7 0, Io 8 (.nilchk (.t 7)), If 9 0 8, Il 10 1 9, Im 11 0, Io 12 (.nilchk (.t 11)), If 13 1 12, Il 14 1 13, Io 15 (.ia 2 (.t 10) (.t 14)), Io 16 (.ld 2 true (.t 15)), ⟨none, none, .st 2 (.t 2) (.t 16), []⟩])
 (.ret)))⟩
theorem ck174:chkFn Tryz.prog 174 ir174=true:=by kernel_rfl
def ir175 : AFn := ⟨15, 1, [.c 2 5 true], .seq (.reg [] [Io 2 (.alloc [.int .i64 0, .int .i64 0, .str [], .sl .nil 5 [], .sl .nil 6 []])])
 (.seq (.seq (.reg [] [Im 3 0])
 (.block 0 (.seq (.reg [] [Io 5 (.bs .eql (.t 3) (.k (.str [110, 117, 108, 108]))), Im 4 5])
 (.cond (.t 4) (.seq (.reg [] [Io 6 (.bld [.int .i64 0, .int .i64 0, .str [], .sl .nil 5 [], .sl .nil 6 []] []), ⟨none, none, .st 5 (.t 2) (.t 6), []⟩])
 (.ret)) (.seq (.reg [] [Io 8 (.bs .eql (.t 3) (.k (.str [116, 114, 117, 101]))), Im 7 8])
 (.cond (.t 7) (.seq (.reg [] [Io 9 (.bld [.int .i64 0, .int .i64 0, .str [], .sl .nil 5 [], .sl .nil 6 []] [(0, 1, (.k (.int .i64 1))), (1, 1, (.k (.int .i64 1)))]), ⟨none, none, .st 5 (.t 2) (.t 9), []⟩])
 (.ret)) (.seq (.reg [] [Io 11 (.bs .eql (.t 3) (.k (.str [102, 97, 108, 115, 101]))), Im 10 11])
 (.cond (.t 10) (.seq (.reg [] [Io 12 (.bld [.int .i64 0, .int .i64 0, .str [], .sl .nil 5 [], .sl .nil 6 []] [(0, 1, (.k (.int .i64 1)))]), ⟨none, none, .st 5 (.t 2) (.t 12), []⟩])
 (.ret)) (.skip)))))))))
 (.seq (.reg [] [Im 13 0, Io 14 (.bld [.int .i64 0, .int .i64 0, .str [], .sl .nil 5 [], .sl .nil 6 []] [(0, 1, (.k (.int .i64 5))), (2, 1, (.t 13))]), ⟨none, none, .st 5 (.t 2) (.t 14), []⟩])
 (.ret)))⟩
theorem ck175:chkFn Tryz.prog 175 ir175=true:=by kernel_rfl
def ir176 : AFn := ⟨19, 1, [.t 2, .t 3], .seq (.reg [] [Io 2 (.mv (.k (.int .i64 0))), Io 3 (.mv (.k (.bool false)))])
 (.seq (.reg [] [Im 7 0, Io 8 (.call 260 [(.t 7), (.k (.int .i64 10)), (.k (.int .i64 64))]), Im 6 8, Io 9 (.ext (.t 6) 0), Io 10 (.ext (.t 6) 1), Im 4 9, Im 5 10])
 (.seq (.reg [] [Im 11 4, Im 12 5, Io 13 (.ifnil false (.t 12)), Im 14 13, Jt 15 14 (.mv (.t 0)), Jt 16 14 (.call 207 [(.t 15)]), Jt 17 14 (.bi .eql .i64 (.t 16) (.k (.int .i64 3))), Io 18 (.pick (.t 14) (.t 17) (.k (.bool false))), Im 2 11, Im 3 18])
 (.ret)))⟩
theorem ck176:chkFn Tryz.prog 176 ir176=true:=by kernel_rfl
def ir177 : AFn := ⟨5, 1, [.c 2 5 true], .seq (.reg [] [Io 2 (.alloc [.int .i64 0, .int .i64 0, .str [], .sl .nil 5 [], .sl .nil 6 []])])
 (.seq (.reg [] [Im 3 0, Io 4 (.bld [.int .i64 0, .int .i64 0, .str [], .sl .nil 5 [], .sl .nil 6 []] [(0, 1, (.k (.int .i64 2))), (1, 1, (.t 3))]), ⟨none, none, .st 5 (.t 2) (.t 4), []⟩])
 (.ret))⟩
theorem ck177:chkFn Tryz.prog 177 ir177=true:=by kernel_rfl
def ir178 : AFn := ⟨5, 1, [.c 2 5 true], .seq (.reg [] [Io 2 (.alloc [.int .i64 0, .int .i64 0, .str [], .sl .nil 5 [], .sl .nil 6 []])])
 (.seq (.reg [] [Im 3 0, Io 4 (.bld [.int .i64 0, .int .i64 0, .str [], .sl .nil 5 [], .sl .nil 6 []] [(0, 1, (.k (.int .i64 4))), (2, 1, (.t 3))]), ⟨none, none, .st 5 (.t 2) (.t 4), []⟩])
 (.ret))⟩
theorem ck178:chkFn Tryz.prog 178 ir178=true:=by kernel_rfl
def ir179 : AFn := ⟨28, 2, [.t 4], .seq (.reg [] [Io 4 (.mv (.k (.bool false)))])
 (.seq (.seq (.reg [] [Im 5 0, Im 6 1, Io 7 (.call 161 [(.t 5), (.t 6)]), Im 8 7, Jt 9 8 (.mv (.t 0)), Jt 10 8 (.nilchk (.t 9)), Jt 11 8 (.fa 2 (.t 10)), Jt 12 8 (.ld 1 false (.t 11)), Jt 13 8 (.bi .geq .i64 (.t 12) (.k (.int .i64 16))), Io 14 (.pick (.t 8) (.t 13) (.k (.bool false)))])
 (.cond (.t 14) (.reg [] [Im 15 0, Io 16 (.call 160 [(.t 15), (.k (.int .i64 4))])]) (.skip)))
 (.seq (.seq (.reg [] [Im 17 0, Im 18 1, Io 19 (.call 191 [(.t 17), (.t 18)]), Io 20 (.not (.t 19))])
 (.cond (.t 20) (.seq (.reg [] [Io 4 (.mv (.k (.bool false)))])
 (.ret)) (.skip)))
 (.seq (.reg [] [Im 21 0, Io 22 (.nilchk (.t 21)), If 23 2 22, Il 24 1 23, Io 25 (.bi .add .i64 (.t 24) (.k (.int .i64 1))), Io 26 (.nilchk (.t 21)), If 27 2 26, ⟨none, none, .st 1 (.t 27) (.t 25), []⟩])
 (.seq (.reg [] [Io 4 (.mv (.k (.bool true)))])
 (.ret)))))⟩
theorem ck179:chkFn Tryz.prog 179 ir179=true:=by kernel_rfl
def ir180 : AFn := ⟨16, 2, [.t 4], .seq (.reg [] [Io 4 (.mv (.k (.bool false)))])
 (.seq (.seq (.reg [] [Im 5 0, Im 6 1, Io 7 (.call 191 [(.t 5), (.t 6)]), Io 8 (.not (.t 7))])
 (.cond (.t 8) (.seq (.reg [] [Io 4 (.mv (.k (.bool false)))])
 (.ret)) (.skip)))
 (.seq (.reg [] [Im 9 0, Io 10 (.nilchk (.t 9)), If 11 2 10, Il 12 1 11, Io 13 (.bi .sub .i64 (.t 12) (.k (.int .i64 1))), Io 14 (.nilchk (.t 9)), If 15 2 14, ⟨none, none, .st 1 (.t 15) (.t 13), []⟩])
 (.seq (.reg [] [Io 4 (.mv (.k (.bool true)))])
 (.ret))))⟩
theorem ck180:chkFn Tryz.prog 180 ir180=true:=by kernel_rfl
def ir181 : AFn := ⟨15, 2, [.c 4 6 true], .seq (.reg [] [Io 4 (.alloc [.str [], .int .i64 0, .int .i64 0, .str [], .sl .nil 5 [], .sl .nil 6 []])])
 (.seq (.reg [] [Im 6 0, Io 7 (.call 183 [(.t 6)]), Im 5 7])
 (.seq (.reg [] [Im 8 0, Io 9 (.call 182 [(.t 8), (.k (.str [58]))])])
 (.seq (.reg [] [Im 10 5, Im 11 0, Im 12 1, Io 13 (.call 96 [(.t 11), (.t 12)]), Io 14 (.bld [.str [], .int .i64 0, .int .i64 0, .str [], .sl .nil 5 [], .sl .nil 6 []] [(0, 1, (.t 10)), (1, 5, (.t 13))]), ⟨none, none, .st 6 (.t 4) (.t 14), []⟩])
 (.ret))))⟩
theorem ck181:chkFn Tryz.prog 181 ir181=true:=by kernel_rfl
def ir182 : AFn := ⟨10, 2, [], .seq (.reg [] [Im 4 0, Im 5 1, Io 6 (.call 191 [(.t 4), (.t 5)]), Io 7 (.not (.t 6))])
 (.cond (.t 7) (.reg [] [Im 8 0, Io 9 (.call 160 [(.t 8), (.k (.int .i64 2))])]) (.skip))⟩
theorem ck182:chkFn Tryz.prog 182 ir182=true:=by kernel_rfl
def ir183 : AFn := ⟨20, 1, [.t 2], .seq (.reg [] [Io 2 (.mv (.k (.str [])))])
 (.seq (.reg [] [Im 4 0, Io 5 (.call 174 [(.t 4)]), Io 3 (.alloc [.int .i64 0, .str []]), ⟨none, none, .st 2 (.t 3) (.t 5), []⟩])
 (.seq (.seq (.reg [] [If 6 0 3, Il 7 1 6, Io 8 (.bi .neq .i64 (.t 7) (.k (.int .i64 2)))])
 (.cond (.t 8) (.reg [] [Im 9 0, Io 10 (.call 160 [(.t 9), (.k (.int .i64 2))])]) (.skip)))
 (.seq (.reg [] [Im 11 0, Io 12 (.nilchk (.t 11)), If 13 1 12, Il 14 1 13, Io 15 (.bi .add .i64 (.t 14) (.k (.int .i64 1))), Io 16 (.nilchk (.t 11)), If 17 1 16, ⟨none, none, .st 1 (.t 17) (.t 15), []⟩])
 (.seq (.reg [] [If 18 1 3, Il 19 1 18, Im 2 19])
 (.ret)))))⟩
theorem ck183:chkFn Tryz.prog 183 ir183=true:=by kernel_rfl
def ir191 : AFn := ⟨18, 2, [.t 4], .seq (.reg [] [Io 4 (.mv (.k (.bool false)))])
 (.seq (.reg [] [Im 6 0, Im 7 1, Io 8 (.call 161 [(.t 6), (.t 7)]), Im 5 8])
 (.seq (.seq (.reg [] [Im 9 5])
 (.cond (.t 9) (.reg [] [Im 10 0, Io 11 (.nilchk (.t 10)), If 12 1 11, Il 13 1 12, Io 14 (.bi .add .i64 (.t 13) (.k (.int .i64 1))), Io 15 (.nilchk (.t 10)), If 16 1 15, ⟨none, none, .st 1 (.t 16) (.t 14), []⟩]) (.skip)))
 (.seq (.reg [] [Im 17 5, Im 4 17])
 (.ret))))⟩
theorem ck191:chkFn Tryz.prog 191 ir191=true:=by kernel_rfl
def ir201 : AFn := ⟨60, 2, [.t 4], .seq (.reg [] [Io 2 (.boxv (.t 0)), Io 4 (.mv (.k (.bool false)))])
 (.scope (.seq (.reg [] [Io 11 (.ld 5 true (.t 2)), Io 5 (.alloc [.int .i64 0, .int .i64 0, .str [], .sl .nil 5 [], .sl .nil 6 []]), ⟨none, none, .st 5 (.t 5) (.t 11), []⟩])
 (.seq (.reg [] [Io 6 (.mv (.k (.bool true)))])
 (.seq (.skip)
 (.seq (.seq (.reg [] [If 12 0 2, Il 13 1 12])
 (.block 0 (.seq (.reg [] [Io 17 (.bi .eql .i64 (.t 13) (.k (.int .i64 6))), Im 16 17])
 (.cond (.t 16) (.seq (.reg [] [If 18 3 5, ⟨none, none, .st 1 (.t 18) (.k (.sl .nil 5 [])), []⟩])
 (.seq (.reg [] [If 19 3 2, Il 20 1 19, Io 21 (.len (.t 20)), Io 22 (.mv (.k (.int .i64 0)))])
 (.block 1 (.loop [1, 5, 6, 20, 21, 22] (.seq (.reg [] [Io 23 (.bi .lss .i64 (.t 22) (.t 21))])
 (.seq (.cond (.t 23) (.skip) (.exit 1))
 (.seq (.block 2 (.seq (.reg [] [Io 24 (.ia 5 (.t 20) (.t 22)), Io 25 (.ld 5 true (.t 24)), Io 8 (.alloc [.int .i64 0, .int .i64 0, .str [], .sl .nil 5 [], .sl .nil 6 []]), ⟨none, none, .st 5 (.t 8) (.t 25), []⟩])
 (.seq (.reg [] [Io 26 (.ld 5 true (.t 8)), Im 27 1, Io 28 (.call 201 [(.t 26), (.t 27)]), Im 6 28])
 (.seq (.reg [] [Im 29 6, Io 30 (.not (.t 29))])
 (.cond (.t 30) (.exit 0) (.skip))))))
 (.reg [] [Io 31 (.bi .add .i64 (.t 22) (.k (.int .i64 1))), Im 22 31])))))))) (.seq (.reg [] [Io 33 (.bi .eql .i64 (.t 13) (.k (.int .i64 7))), Im 32 33])
 (.cond (.t 32) (.seq (.reg [] [If 34 4 5, ⟨none, none, .st 1 (.t 34) (.k (.sl .nil 6 [])), []⟩])
 (.seq (.reg [] [If 35 4 2, Il 36 1 35, Io 37 (.len (.t 36)), Io 38 (.mv (.k (.int .i64 0)))])
 (.block 3 (.loop [1, 5, 6, 36, 37, 38] (.seq (.reg [] [Io 39 (.bi .lss .i64 (.t 38) (.t 37))])
 (.seq (.cond (.t 39) (.skip) (.exit 3))
 (.seq (.block 4 (.seq (.reg [] [Io 40 (.ia 6 (.t 36) (.t 38)), Io 41 (.ld 6 true (.t 40)), Io 10 (.alloc [.str [], .int .i64 0, .int .i64 0, .str [], .sl .nil 5 [], .sl .nil 6 []]), ⟨none, none, .st 6 (.t 10) (.t 41), []⟩])
 (.seq (.reg [] [Im 42 1, If 43 0 10, Il 44 1 43, Io 45 (.callv (.t 42) [(.t 44)]), Im 46 45, Jt 47 46 (.fa 1 (.t 10)), Jt 48 46 (.ld 5 true (.t 47)), Jt 49 46 (.mv (.t 1)), Jt 50 46 (.call 201 [(.t 48), (.t 49)]), Io 51 (.pick (.t 46) (.t 50) (.k (.bool false))), Im 6 51])
 (.seq (.reg [] [Im 52 6, Io 53 (.not (.t 52))])
 (.cond (.t 53) (.exit 0) (.skip))))))
 (.reg [] [Io 54 (.bi .add .i64 (.t 38) (.k (.int .i64 1))), Im 38 54])))))))) (.seq (.reg [] [Io 14 (.ld 5 true (.t 2)), Io 15 (.call 266 [(.t 14)]), Im 4 15])
 (.ret))))))))
 (.seq (.reg [] [Im 55 6, Im 56 55, Jt 57 56 (.ld 5 true (.t 5)), Jt 58 56 (.call 267 [(.t 57)]), Io 59 (.pick (.t 56) (.t 58) (.k (.bool false))), Im 4 59])
 (.ret)))))))⟩
theorem ck201:chkFn Tryz.prog 201 ir201=true:=by kernel_rfl
def ir202 : AFn := ⟨5, 1, [.t 2], .seq (.reg [] [Io 2 (.mv (.k (.bool false)))])
 (.seq (.reg [] [Im 3 0, Io 4 (.call 268 [(.t 3)]), Im 2 4])
 (.ret))⟩
theorem ck202:chkFn Tryz.prog 202 ir202=true:=by kernel_rfl
def ir203 : AFn := ⟨28, 1, [.t 2], .seq (.reg [] [Io 2 (.mv (.k (.bool false)))])
 (.seq (.seq (.reg [] [Im 4 0, Io 5 (.lens (.t 4)), Io 6 (.mv (.k (.int .i64 0)))])
 (.block 0 (.loop [0, 5, 6] (.seq (.reg [] [Io 7 (.bi .lss .i64 (.t 6) (.t 5))])
 (.seq (.cond (.t 7) (.skip) (.exit 0))
 (.seq (.block 1 (.seq (.reg [] [Im 8 6, Im 3 8])
 (.seq (.reg [] [Im 9 0, Im 10 3, Io 11 (.ixs (.t 9) (.t 10)), Io 12 (.call 223 [(.t 11)]), Io 13 (.not (.t 12)), Im 14 13, Jt 15 14 (.mv (.t 3)), Jt 16 14 (.bi .eql .i64 (.t 15) (.k (.int .i64 0))), Jt 17 14 (.mv (.t 16)), Jf 18 17 (.mv (.t 0)), Jf 19 17 (.mv (.t 3)), Jf 20 17 (.ixs (.t 18) (.t 19)), Jf 21 17 (.call 226 [(.t 20)]), Jf 22 17 (.not (.t 21)), Jt 23 14 (.pick (.t 17) (.k (.bool true)) (.t 22)), Io 24 (.pick (.t 14) (.t 23) (.k (.bool false)))])
 (.cond (.t 24) (.seq (.reg [] [Io 2 (.mv (.k (.bool false)))])
 (.ret)) (.skip)))))
 (.reg [] [Io 25 (.bi .add .i64 (.t 6) (.k (.int .i64 1))), Im 6 25])))))))
 (.seq (.reg [] [Im 26 0, Io 27 (.bs .neq (.t 26) (.k (.str []))), Im 2 27])
 (.ret)))⟩
theorem ck203:chkFn Tryz.prog 203 ir203=true:=by kernel_rfl
def ir204 : AFn := ⟨5, 1, [.c 2 2 true], .seq (.reg [] [Io 2 (.alloc [.int .i64 0, .str []])])
 (.seq (.reg [] [Im 3 0, Io 4 (.bld [.int .i64 0, .str []] [(0, 1, (.k (.int .i64 2))), (1, 1, (.t 3))]), ⟨none, none, .st 2 (.t 2) (.t 4), []⟩])
 (.ret))⟩
theorem ck204:chkFn Tryz.prog 204 ir204=true:=by kernel_rfl
def ir205 : AFn := ⟨5, 1, [.t 2], .seq (.reg [] [Io 2 (.mv (.k (.str [])))])
 (.seq (.reg [] [Im 3 0, Io 4 (.call 269 [(.t 3)]), Im 2 4])
 (.ret))⟩
theorem ck205:chkFn Tryz.prog 205 ir205=true:=by kernel_rfl
def ir207 : AFn := ⟨15, 1, [.t 2], .seq (.reg [] [Io 2 (.mv (.k (.int .i64 0)))])
 (.seq (.reg [] [Im 6 0, Io 7 (.call 225 [(.t 6)]), Im 5 7, Io 8 (.ext (.t 5) 0), Io 9 (.ext (.t 5) 1), Im 3 8, Im 4 9])
 (.seq (.seq (.reg [] [Im 10 3, Im 11 0, Io 12 (.lens (.t 11)), Io 13 (.bi .neq .i64 (.t 10) (.t 12))])
 (.cond (.t 13) (.seq (.reg [] [Io 2 (.mv (.k (.int .i64 0)))])
 (.ret)) (.skip)))
 (.seq (.reg [] [Im 14 4, Im 2 14])
 (.ret))))⟩
theorem ck207:chkFn Tryz.prog 207 ir207=true:=by kernel_rfl
def ir208 : AFn := ⟨5, 1, [.c 2 2 true], .seq (.reg [] [Io 2 (.alloc [.int .i64 0, .str []])])
 (.seq (.reg [] [Im 3 0, Io 4 (.bld [.int .i64 0, .str []] [(0, 1, (.k (.int .i64 1))), (1, 1, (.t 3))]), ⟨none, none, .st 2 (.t 2) (.t 4), []⟩])
 (.ret))⟩
theorem ck208:chkFn Tryz.prog 208 ir208=true:=by kernel_rfl
def ir210 : AFn := ⟨32, 2, [.t 4, .t 5], .seq (.reg [] [Io 4 (.mv (.k (.int .i64 0))), Io 5 (.mv (.k (.int .i64 0)))])
 (.seq (.seq (.reg [] [Im 8 1, Io 9 (.bi .lss .i64 (.t 8) (.k (.int .i64 0))), Im 10 9, Jf 11 10 (.mv (.t 1)), Jf 12 10 (.mv (.t 0)), Jf 13 10 (.lens (.t 12)), Jf 14 10 (.bi .geq .i64 (.t 11) (.t 13)), Io 15 (.pick (.t 10) (.k (.bool true)) (.t 14))])
 (.cond (.t 15) (.seq (.reg [] [Io 4 (.mv (.k (.int .i64 0))), Io 5 (.mv (.k (.int .i64 0)))])
 (.ret)) (.skip)))
 (.seq (.reg [] [Im 17 0, Im 18 1, Io 19 (.sls (.t 17) (some (.t 18)) none), Io 20 (.call 272 [(.t 19)]), Im 16 20, Io 21 (.ext (.t 16) 0), Io 22 (.ext (.t 16) 1), Im 6 21, Im 7 22])
 (.seq (.seq (.reg [] [Im 23 6, Io 24 (.bi .eql .i32 (.t 23) (.k (.int .i32 65533))), Im 25 24, Jt 26 25 (.mv (.t 7)), Jt 27 25 (.bi .lss .i64 (.t 26) (.k (.int .i64 2))), Io 28 (.pick (.t 25) (.t 27) (.k (.bool false)))])
 (.cond (.t 28) (.seq (.reg [] [Io 4 (.mv (.k (.int .i64 0))), Io 5 (.mv (.k (.int .i64 0)))])
 (.ret)) (.skip)))
 (.seq (.reg [] [Im 29 6, Io 30 (.cvi .i64 (.t 29)), Im 31 7, Im 4 30, Im 5 31])
 (.ret)))))⟩
theorem ck210:chkFn Tryz.prog 210 ir210=true:=by kernel_rfl
def ir211 : AFn := ⟨43, 1, [.t 2, .t 3], .seq (.reg [] [Io 2 (.mv (.k (.sl .nil 1 []))), Io 3 (.mv (.k (.bool false)))])
 (.seq (.reg [] [Io 4 (.mv (.k (.sl .nil 1 [])))])
 (.seq (.seq (.reg [] [Io 5 (.mv (.k (.int .i64 0)))])
 (.block 0 (.loop [0, 4, 5] (.seq (.seq (.reg [] [Im 8 5, Im 9 0, Io 10 (.lens (.t 9)), Io 11 (.bi .lss .i64 (.t 8) (.t 10))])
 (.cond (.t 11) (.skip) (.exit 0)))
 (.block 1 (.seq (.reg [] [Im 13 0, Im 14 5, Io 15 (.call 210 [(.t 13), (.t 14)]), Im 12 15, Io 16 (.ext (.t 12) 0), Io 17 (.ext (.t 12) 1), Im 6 16, Im 7 17])
 (.seq (.block 2 (.seq (.reg [] [Im 23 7, Io 24 (.bi .eql .i64 (.t 23) (.k (.int .i64 0))), Im 22 24])
 (.cond (.t 22) (.seq (.reg [] [Io 2 (.mv (.k (.sl .nil 1 []))), Io 3 (.mv (.k (.bool false)))])
 (.ret)) (.seq (.reg [] [Im 26 6, Io 27 (.bi .geq .i64 (.t 26) (.k (.int .i64 65536))), Im 25 27])
 (.cond (.t 25) (.reg [] [Im 28 4, Im 29 6, Io 30 (.bi .sub .i64 (.t 29) (.k (.int .i64 65536))), Io 31 (.bi .quo .i64 (.t 30) (.k (.int .i64 1024))), Io 32 (.bi .add .i64 (.k (.int .i64 55296)) (.t 31)), Im 33 6, Io 34 (.bi .sub .i64 (.t 33) (.k (.int .i64 65536))), Io 35 (.bi .rem .i64 (.t 34) (.k (.int .i64 1024))), Io 36 (.bi .add .i64 (.k (.int .i64 56320)) (.t 35)), Io 37 (.bls 1 2 [.int .i64 0] [(0, (.t 32)), (1, (.t 36))]), Io 38 (.app 1 8 (.t 28) (.t 37)), Im 4 38]) (.reg [] [Im 18 4, Im 19 6, Io 20 (.bls 1 1 [.int .i64 0] [(0, (.t 19))]), Io 21 (.app 1 8 (.t 18) (.t 20)), Im 4 21]))))))
 (.reg [] [Im 39 5, Im 40 7, Io 41 (.bi .add .i64 (.t 39) (.t 40)), Im 5 41]))))))))
 (.seq (.reg [] [Im 42 4, Im 2 42, Io 3 (.mv (.k (.bool true)))])
 (.ret))))⟩
theorem ck211:chkFn Tryz.prog 211 ir211=true:=by kernel_rfl
def ir212 : AFn := ⟨23, 2, [.t 4], .seq (.reg [] [Io 4 (.mv (.k (.sl .nil 1 [])))])
 (.seq (.reg [] [Im 6 0, Io 7 (.bls 1 2 [.int .u8 0] [(0, (.k (.int .u8 92))), (1, (.k (.int .u8 117)))]), Io 8 (.app 1 1 (.t 6) (.t 7)), Im 0 8])
 (.seq (.seq (.reg [] [Io 5 (.mv (.k (.int .i64 3)))])
 (.block 0 (.loop [0, 1, 5] (.seq (.seq (.reg [] [Im 9 5, Io 10 (.bi .geq .i64 (.t 9) (.k (.int .i64 0)))])
 (.cond (.t 10) (.skip) (.exit 0)))
 (.seq (.block 1 (.reg [] [Im 13 0, Im 14 1, Im 15 5, Io 16 (.bi .mul .i64 (.k (.int .i64 4)) (.t 15)), Io 17 (.shf .shr (.t 14) (.t 16)), Io 18 (.bi .rem .i64 (.t 17) (.k (.int .i64 16))), Io 19 (.ixs (.k (.str [48, 49, 50, 51, 52, 53, 54, 55, 56, 57, 97, 98, 99, 100, 101, 102])) (.t 18)), Io 20 (.bls 1 1 [.int .u8 0] [(0, (.t 19))]), Io 21 (.app 1 1 (.t 13) (.t 20)), Im 0 21]))
 (.reg [] [Im 11 5, Io 12 (.bi .sub .i64 (.t 11) (.k (.int .i64 1))), Im 5 12]))))))
 (.seq (.reg [] [Im 22 0, Im 4 22])
 (.ret))))⟩
theorem ck212:chkFn Tryz.prog 212 ir212=true:=by kernel_rfl
def ir216 : AFn := ⟨21, 1, [.t 2], .seq (.reg [] [Io 2 (.mv (.k (.bool false)))])
 (.seq (.reg [] [Im 3 0, Io 4 (.bi .eql .i64 (.t 3) (.k (.int .i64 9))), Im 5 4, Jf 6 5 (.mv (.t 0)), Jf 7 5 (.bi .eql .i64 (.t 6) (.k (.int .i64 10))), Io 8 (.pick (.t 5) (.k (.bool true)) (.t 7)), Im 9 8, Jf 10 9 (.mv (.t 0)), Jf 11 9 (.bi .eql .i64 (.t 10) (.k (.int .i64 13))), Io 12 (.pick (.t 9) (.k (.bool true)) (.t 11)), Im 13 12, Jf 14 13 (.mv (.t 0)), Jf 15 13 (.bi .geq .i64 (.t 14) (.k (.int .i64 32))), Jf 16 13 (.mv (.t 15)), Jt 17 16 (.mv (.t 0)), Jt 18 16 (.bi .leq .i64 (.t 17) (.k (.int .i64 65535))), Jf 19 13 (.pick (.t 16) (.t 18) (.k (.bool false))), Io 20 (.pick (.t 13) (.k (.bool true)) (.t 19)), Im 2 20])
 (.ret))⟩
theorem ck216:chkFn Tryz.prog 216 ir216=true:=by kernel_rfl
def ir219 : AFn := ⟨38, 1, [.t 2, .t 3], .seq (.reg [] [Io 2 (.mv (.k (.str []))), Io 3 (.mv (.k (.int .i64 0)))])
 (.scope (.seq (.reg [] [Io 4 (.mv (.k (.sl .nil 1 [])))])
 (.seq (.reg [] [Io 5 (.mv (.k (.int .i64 3)))])
 (.seq (.skip)
 (.seq (.block 0 (.loop [0, 4, 5] (.block 1 (.seq (.block 2 (.seq (.reg [] [Im 7 5, Im 8 0, Io 9 (.lens (.t 8)), Io 10 (.bi .geq .i64 (.t 7) (.t 9)), Im 6 10])
 (.cond (.t 6) (.seq (.reg [] [Io 2 (.mv (.k (.str []))), Io 3 (.mv (.k (.int .i64 0)))])
 (.ret)) (.seq (.reg [] [Im 12 0, Im 13 5, Io 14 (.sls (.t 12) (some (.t 13)) none), Io 15 (.call 217 [(.t 14), (.k (.str [34, 34, 34]))]), Im 11 15])
 (.cond (.t 11) (.exit 0) (.seq (.reg [] [Im 17 0, Im 18 5, Io 19 (.sls (.t 17) (some (.t 18)) none), Io 20 (.call 217 [(.t 19), (.k (.str [92, 34, 34, 34]))]), Im 16 20])
 (.cond (.t 16) (.seq (.reg [] [Im 21 4, Io 22 (.apps (.t 21) (.k (.str [34, 34, 34]))), Im 4 22])
 (.seq (.reg [] [Im 23 5, Io 24 (.bi .add .i64 (.t 23) (.k (.int .i64 4))), Im 5 24])
 (.exit 1))) (.skip))))))))
 (.seq (.reg [] [Im 25 4, Im 26 0, Im 27 5, Io 28 (.ixs (.t 26) (.t 27)), Io 29 (.bls 1 1 [.int .u8 0] [(0, (.t 28))]), Io 30 (.app 1 1 (.t 25) (.t 29)), Im 4 30])
 (.reg [] [Im 31 5, Io 32 (.bi .add .i64 (.t 31) (.k (.int .i64 1))), Im 5 32]))))))
 (.seq (.reg [] [Im 33 4, Io 34 (.cvb2s (.t 33)), Io 35 (.call 280 [(.t 34)]), Im 36 5, Io 37 (.bi .add .i64 (.t 36) (.k (.int .i64 3))), Im 2 35, Im 3 37])
 (.ret)))))))⟩
theorem ck219:chkFn Tryz.prog 219 ir219=true:=by kernel_rfl
def ir220 : AFn := ⟨75, 2, [.t 4, .t 5], .seq (.reg [] [Io 4 (.mv (.k (.str []))), Io 5 (.mv (.k (.int .i64 0)))])
 (.scope (.seq (.reg [] [Io 9 (.bld [.sl .nil 1 [], .sl .nil 1 [], .bool false] [(2, 1, (.k (.bool true)))]), Io 10 (.box (.t 9)), Im 6 10])
 (.seq (.reg [] [Io 7 (.mv (.k (.int .i64 1)))])
 (.seq (.skip)
 (.seq (.block 0 (.loop [0, 1, 6, 7] (.block 1 (.seq (.block 2 (.seq (.reg [] [Im 12 7, Im 13 0, Io 14 (.lens (.t 13)), Io 15 (.bi .geq .i64 (.t 12) (.t 14)), Im 11 15])
 (.cond (.t 11) (.seq (.reg [] [Io 4 (.mv (.k (.str []))), Io 5 (.mv (.k (.int .i64 0)))])
 (.ret)) (.seq (.reg [] [Im 17 0, Im 18 7, Io 19 (.ixs (.t 17) (.t 18)), Io 20 (.bi .eql .u8 (.t 19) (.k (.int .u8 34))), Im 16 20])
 (.cond (.t 16) (.exit 0) (.seq (.reg [] [Im 22 0, Im 23 7, Io 24 (.ixs (.t 22) (.t 23)), Io 25 (.bi .eql .u8 (.t 24) (.k (.int .u8 92))), Im 21 25])
 (.cond (.t 21) (.seq (.reg [] [Im 26 6, Im 27 0, Im 28 7, Io 29 (.bi .add .i64 (.t 28) (.k (.int .i64 1))), Io 30 (.sls (.t 27) (some (.t 29)) none), Io 31 (.call 281 [(.t 26), (.t 30)]), Im 8 31])
 (.seq (.seq (.reg [] [Im 32 8, Io 33 (.bi .eql .i64 (.t 32) (.k (.int .i64 0)))])
 (.cond (.t 33) (.seq (.reg [] [Io 4 (.mv (.k (.str []))), Io 5 (.mv (.k (.int .i64 0)))])
 (.ret)) (.skip)))
 (.seq (.reg [] [Im 34 7, Im 35 8, Io 36 (.bi .add .i64 (.k (.int .i64 1)) (.t 35)), Io 37 (.bi .add .i64 (.t 34) (.t 36)), Im 7 37])
 (.exit 1)))) (.seq (.reg [] [Im 39 1, Im 40 0, Im 41 7, Io 42 (.ixs (.t 40) (.t 41)), Io 43 (.callv (.t 39) [(.t 42)]), Io 44 (.not (.t 43)), Im 38 44])
 (.cond (.t 38) (.seq (.reg [] [Io 4 (.mv (.k (.str []))), Io 5 (.mv (.k (.int .i64 0)))])
 (.ret)) (.skip))))))))))
 (.seq (.reg [] [Im 45 6, Io 46 (.call 282 [(.t 45)])])
 (.seq (.reg [0, 1, 2, 3, 4, 5, 6, 7, 8, 9, 10, 11, 12] [Im 47 6, Im 48 6, Io 49 (.nilchk (.t 48)), If 50 0 49, Il 51 1 50, Im 52 0, Im 53 7, Io 54 (.ixs (.t 52) (.t 53)), Io 55 (.bls 1 1 [.int .u8 0] [(0, (.t 54))]), Io 56 (.app 1 1 (.t 51) (.t 55)), Io 57 (.nilchk (.t 47)), If 58 0 57, ⟨none, none, .st 1 (.t 58) (.t 56), []⟩])
 (.reg [] [Im 59 7, Io 60 (.bi .add .i64 (.t 59) (.k (.int .i64 1))), Im 7 60])))))))
 (.seq (.reg [] [Im 61 6, Io 62 (.call 282 [(.t 61)])])
 (.seq (.seq (.reg [] [Im 63 6, Io 64 (.nilchk (.t 63)), If 65 2 64, Il 66 1 65, Io 67 (.not (.t 66))])
 (.cond (.t 67) (.seq (.reg [] [Io 4 (.mv (.k (.str []))), Io 5 (.mv (.k (.int .i64 0)))])
 (.ret)) (.skip)))
 (.seq (.reg [] [Im 68 6, Io 69 (.nilchk (.t 68)), If 70 0 69, Il 71 1 70, Io 72 (.cvb2s (.t 71)), Im 73 7, Io 74 (.bi .add .i64 (.t 73) (.k (.int .i64 1))), Im 4 72, Im 5 74])
 (.ret)))))))))⟩
theorem ck220:chkFn Tryz.prog 220 ir220=true:=by kernel_rfl
def ir221 : AFn := ⟨9, 1, [.t 2], .seq (.reg [] [Io 2 (.mv (.k (.bool false)))])
 (.seq (.reg [] [Im 3 0, Io 4 (.bi .neq .u8 (.t 3) (.k (.int .u8 10))), Im 5 4, Jt 6 5 (.mv (.t 0)), Jt 7 5 (.bi .neq .u8 (.t 6) (.k (.int .u8 13))), Io 8 (.pick (.t 5) (.t 7) (.k (.bool false))), Im 2 8])
 (.ret))⟩
theorem ck221:chkFn Tryz.prog 221 ir221=true:=by kernel_rfl
def ir223 : AFn := ⟨21, 1, [.t 2], .seq (.reg [] [Io 2 (.mv (.k (.bool false)))])
 (.seq (.reg [] [Im 3 0, Io 4 (.bi .geq .u8 (.t 3) (.k (.int .u8 97))), Im 5 4, Jt 6 5 (.mv (.t 0)), Jt 7 5 (.bi .leq .u8 (.t 6) (.k (.int .u8 122))), Io 8 (.pick (.t 5) (.t 7) (.k (.bool false))), Im 9 8, Jf 10 9 (.mv (.t 0)), Jf 11 9 (.bi .geq .u8 (.t 10) (.k (.int .u8 65))), Jf 12 9 (.mv (.t 11)), Jt 13 12 (.mv (.t 0)), Jt 14 12 (.bi .leq .u8 (.t 13) (.k (.int .u8 90))), Jf 15 9 (.pick (.t 12) (.t 14) (.k (.bool false))), Io 16 (.pick (.t 9) (.k (.bool true)) (.t 15)), Im 17 16, Jf 18 17 (.mv (.t 0)), Jf 19 17 (.bi .eql .u8 (.t 18) (.k (.int .u8 95))), Io 20 (.pick (.t 17) (.k (.bool true)) (.t 19)), Im 2 20])
 (.ret))⟩
theorem ck223:chkFn Tryz.prog 223 ir223=true:=by kernel_rfl
def ir224 : AFn := ⟨27, 1, [.t 2], .seq (.reg [] [Io 2 (.mv (.k (.int .i64 0)))])
 (.seq (.reg [] [Io 3 (.mv (.k (.int .i64 0)))])
 (.seq (.block 0 (.loop [0, 3] (.seq (.seq (.reg [] [Im 4 3, Im 5 0, Io 6 (.lens (.t 5)), Io 7 (.bi .lss .i64 (.t 4) (.t 6)), Im 8 7, Jt 9 8 (.mv (.t 0)), Jt 10 8 (.mv (.t 3)), Jt 11 8 (.ixs (.t 9) (.t 10)), Jt 12 8 (.call 223 [(.t 11)]), Jt 13 8 (.mv (.t 12)), Jf 14 13 (.mv (.t 3)), Jf 15 13 (.bi .gtr .i64 (.t 14) (.k (.int .i64 0))), Jf 16 13 (.mv (.t 15)), Jt 17 16 (.mv (.t 0)), Jt 18 16 (.mv (.t 3)), Jt 19 16 (.ixs (.t 17) (.t 18)), Jt 20 16 (.call 226 [(.t 19)]), Jf 21 13 (.pick (.t 16) (.t 20) (.k (.bool false))), Jt 22 8 (.pick (.t 13) (.k (.bool true)) (.t 21)), Io 23 (.pick (.t 8) (.t 22) (.k (.bool false)))])
 (.cond (.t 23) (.skip) (.exit 0)))
 (.block 1 (.reg [] [Im 24 3, Io 25 (.bi .add .i64 (.t 24) (.k (.int .i64 1))), Im 3 25])))))
 (.seq (.reg [] [Im 26 3, Im 2 26])
 (.ret))))⟩
theorem ck224:chkFn Tryz.prog 224 ir224=true:=by kernel_rfl
def ir225 : AFn := ⟨38, 1, [.t 2, .t 3], .seq (.reg [] [Io 2 (.mv (.k (.int .i64 0))), Io 3 (.mv (.k (.int .i64 0)))])
 (.seq (.reg [] [Im 8 0, Io 9 (.call 284 [(.t 8)]), Im 4 9])
 (.seq (.seq (.reg [] [Im 10 4, Io 11 (.bi .eql .i64 (.t 10) (.k (.int .i64 0)))])
 (.cond (.t 11) (.seq (.reg [] [Io 2 (.mv (.k (.int .i64 0))), Io 3 (.mv (.k (.int .i64 0)))])
 (.ret)) (.skip)))
 (.seq (.reg [] [Io 5 (.mv (.k (.int .i64 3)))])
 (.seq (.seq (.reg [] [Im 12 0, Im 13 4, Io 14 (.sls (.t 12) (some (.t 13)) none), Io 15 (.call 217 [(.t 14), (.k (.str [46]))])])
 (.cond (.t 15) (.seq (.reg [] [Im 16 0, Im 17 4, Io 18 (.bi .add .i64 (.t 17) (.k (.int .i64 1))), Io 19 (.sls (.t 16) (some (.t 18)) none), Io 20 (.call 285 [(.t 19)]), Im 6 20])
 (.seq (.reg [] [Im 21 6, Io 22 (.bi .gtr .i64 (.t 21) (.k (.int .i64 0)))])
 (.cond (.t 22) (.reg [] [Im 23 4, Io 24 (.bi .add .i64 (.t 23) (.k (.int .i64 1))), Im 25 6, Io 26 (.bi .add .i64 (.t 24) (.t 25)), Im 4 26, Io 5 (.mv (.k (.int .i64 4)))]) (.skip)))) (.skip)))
 (.seq (.seq (.reg [] [Im 27 0, Im 28 4, Io 29 (.sls (.t 27) (some (.t 28)) none), Io 30 (.call 286 [(.t 29)]), Im 7 30])
 (.seq (.reg [] [Im 31 7, Io 32 (.bi .gtr .i64 (.t 31) (.k (.int .i64 0)))])
 (.cond (.t 32) (.reg [] [Im 33 4, Im 34 7, Io 35 (.bi .add .i64 (.t 33) (.t 34)), Im 4 35, Io 5 (.mv (.k (.int .i64 4)))]) (.skip))))
 (.seq (.reg [] [Im 36 4, Im 37 5, Im 2 36, Im 3 37])
 (.ret)))))))⟩
theorem ck225:chkFn Tryz.prog 225 ir225=true:=by kernel_rfl
def ir226 : AFn := ⟨9, 1, [.t 2], .seq (.reg [] [Io 2 (.mv (.k (.bool false)))])
 (.seq (.reg [] [Im 3 0, Io 4 (.bi .geq .u8 (.t 3) (.k (.int .u8 48))), Im 5 4, Jt 6 5 (.mv (.t 0)), Jt 7 5 (.bi .leq .u8 (.t 6) (.k (.int .u8 57))), Io 8 (.pick (.t 5) (.t 7) (.k (.bool false))), Im 2 8])
 (.ret))⟩
theorem ck226:chkFn Tryz.prog 226 ir226=true:=by kernel_rfl
def ir229 : AFn := ⟨9, 2, [.t 4], .seq (.reg [] [Io 4 (.mv (.k (.bool false)))])
 (.seq (.reg [] [Im 5 0, Im 6 1, Io 7 (.call 289 [(.t 5), (.t 6)]), Io 8 (.bi .geq .i64 (.t 7) (.k (.int .i64 0))), Im 4 8])
 (.ret))⟩
theorem ck229:chkFn Tryz.prog 229 ir229=true:=by kernel_rfl
def ir247 : AFn := ⟨31, 1, [.c 2 7 true], .seq (.reg [] [Io 2 (.alloc [.int .i64 0, .str [], .str [], .sl .nil 6 [], .sl .nil 2 [], .str [], .sl .nil 7 []])])
 (.seq (.seq (.reg [] [Im 4 0, Io 5 (.call 191 [(.t 4), (.k (.str [46, 46, 46]))])])
 (.cond (.t 5) (.seq (.reg [] [Im 6 0, Io 7 (.call 299 [(.t 6)]), ⟨none, none, .st 7 (.t 2) (.t 7), []⟩])
 (.ret)) (.skip)))
 (.seq (.reg [] [Im 8 0, Io 9 (.call 183 [(.t 8)]), Io 10 (.bld [.int .i64 0, .str [], .str [], .sl .nil 6 [], .sl .nil 2 [], .str [], .sl .nil 7 []] [(2, 1, (.t 9))]), Io 3 (.alloc [.int .i64 0, .str [], .str [], .sl .nil 6 [], .sl .nil 2 [], .str [], .sl .nil 7 []]), ⟨none, none, .st 7 (.t 3) (.t 10), []⟩])
 (.seq (.seq (.reg [] [Im 11 0, Io 12 (.call 191 [(.t 11), (.k (.str [58]))])])
 (.cond (.t 12) (.reg [0, 1, 2, 4, 3, 5, 6, 7] [If 13 2 3, Il 14 1 13, Im 15 0, If 17 1 3, ⟨some 16, none, .call 183 [(.t 15)], [1]⟩, ⟨none, none, .st 1 (.t 17) (.t 14), []⟩, If 18 2 3, ⟨none, none, .st 1 (.t 18) (.t 16), []⟩]) (.skip)))
 (.seq (.reg [] [Im 19 0, Io 20 (.call 300 [(.t 19), (.k (.bool false))]), If 21 3 3, ⟨none, none, .st 1 (.t 21) (.t 20), []⟩])
 (.seq (.reg [] [Im 22 0, Io 23 (.call 250 [(.t 22), (.k (.bool false))]), If 24 4 3, ⟨none, none, .st 1 (.t 24) (.t 23), []⟩])
 (.seq (.seq (.reg [] [Im 25 0, Io 26 (.call 161 [(.t 25), (.k (.str [123]))])])
 (.cond (.t 26) (.reg [] [Im 27 0, Io 28 (.call 162 [(.t 27)]), If 29 6 3, ⟨none, none, .st 1 (.t 29) (.t 28), []⟩]) (.skip)))
 (.seq (.reg [] [Io 30 (.ld 7 true (.t 3)), ⟨none, none, .st 7 (.t 2) (.t 30), []⟩])
 (.ret))))))))⟩
theorem ck247:chkFn Tryz.prog 247 ir247=true:=by kernel_rfl
def ir248 : AFn := ⟨10, 2, [.t 4], .seq (.reg [] [Io 4 (.mv (.k (.bool false)))])
 (.seq (.reg [] [Im 5 0, Io 6 (.call 174 [(.t 5)]), Im 7 1, Io 8 (.bld [.int .i64 0, .str []] [(0, 1, (.k (.int .i64 2))), (1, 1, (.t 7))]), Io 9 (.eqa false [(.i .i64), .s] (.t 6) (.t 8)), Im 4 9])
 (.ret))⟩
theorem ck248:chkFn Tryz.prog 248 ir248=true:=by kernel_rfl
def ir249 : AFn := ⟨21, 1, [.c 2 10 true], .seq (.reg [] [Io 2 (.alloc [.str [], .str [], .int .i64 0, .int .i64 0, .bool false, .int .i64 0, .int .i64 0, .str [], .sl .nil 5 [], .sl .nil 6 []])])
 (.seq (.reg [] [Im 4 0, Io 5 (.call 182 [(.t 4), (.k (.str [36]))])])
 (.seq (.reg [] [Im 6 0, Io 7 (.call 183 [(.t 6)]), Io 8 (.bld [.str [], .str [], .int .i64 0, .int .i64 0, .bool false, .int .i64 0, .int .i64 0, .str [], .sl .nil 5 [], .sl .nil 6 []] [(0, 1, (.t 7))]), Io 3 (.alloc [.str [], .str [], .int .i64 0, .int .i64 0, .bool false, .int .i64 0, .int .i64 0, .str [], .sl .nil 5 [], .sl .nil 6 []]), ⟨none, none, .st 10 (.t 3) (.t 8), []⟩])
 (.seq (.reg [] [Im 9 0, Io 10 (.call 182 [(.t 9), (.k (.str [58]))])])
 (.seq (.reg [] [Im 11 0, Io 12 (.call 100 [(.t 11)]), If 13 1 3, ⟨none, none, .st 3 (.t 13) (.t 12), []⟩])
 (.seq (.seq (.reg [] [Im 14 0, Io 15 (.call 191 [(.t 14), (.k (.str [61]))])])
 (.cond (.t 15) (.reg [] [Im 16 0, Io 17 (.call 96 [(.t 16), (.k (.bool true))]), If 18 4 3, ⟨none, none, .st 1 (.t 18) (.k (.bool true)), []⟩, If 19 5 3, ⟨none, none, .st 5 (.t 19) (.t 17), []⟩]) (.skip)))
 (.seq (.reg [] [Io 20 (.ld 10 true (.t 3)), ⟨none, none, .st 10 (.t 2) (.t 20), []⟩])
 (.ret)))))))⟩
theorem ck249:chkFn Tryz.prog 249 ir249=true:=by kernel_rfl
def ir250 : AFn := ⟨18, 2, [.t 4], .seq (.reg [] [Io 4 (.mv (.k (.sl .nil 2 [])))])
 (.seq (.reg [] [Io 5 (.mv (.k (.sl .nil 2 [])))])
 (.seq (.block 0 (.loop [0, 1, 5] (.seq (.seq (.reg [] [Im 6 0, Io 7 (.call 191 [(.t 6), (.k (.str [64]))])])
 (.cond (.t 7) (.skip) (.exit 0)))
 (.block 1 (.reg [] [Im 8 5, Im 9 0, Io 10 (.call 183 [(.t 9)]), Im 11 0, Im 12 1, Io 13 (.call 300 [(.t 11), (.t 12)]), Io 14 (.bld [.str [], .sl .nil 6 []] [(0, 1, (.t 10)), (1, 1, (.t 13))]), Io 15 (.bls 2 1 [.str [], .sl .nil 6 []] [(0, (.t 14))]), Io 16 (.app 2 40 (.t 8) (.t 15)), Im 5 16])))))
 (.seq (.reg [] [Im 17 5, Im 4 17])
 (.ret))))⟩
theorem ck250:chkFn Tryz.prog 250 ir250=true:=by kernel_rfl
def ir251 : AFn := ⟨9, 1, [.t 2], .seq (.reg [] [Io 2 (.mv (.k (.str [])))])
 (.seq (.seq (.reg [] [Im 3 0, Io 4 (.call 248 [(.t 3), (.k (.str [111, 110]))])])
 (.cond (.t 4) (.reg [] [Im 5 0, Io 6 (.call 160 [(.t 5), (.k (.int .i64 2))])]) (.skip)))
 (.seq (.reg [] [Im 7 0, Io 8 (.call 183 [(.t 7)]), Im 2 8])
 (.ret)))⟩
theorem ck251:chkFn Tryz.prog 251 ir251=true:=by kernel_rfl
def ir266 : AFn := ⟨88, 1, [.t 2], .seq (.reg [] [Io 1 (.boxv (.t 0)), Io 2 (.mv (.k (.bool false)))])
 (.seq (.reg [] [Io 4 (.ld 5 true (.t 1)), Io 3 (.alloc [.int .i64 0, .int .i64 0, .str [], .sl .nil 5 [], .sl .nil 6 []]), ⟨none, none, .st 5 (.t 3) (.t 4), []⟩])
 (.seq (.reg [] [If 5 1 3, ⟨none, none, .st 1 (.t 5) (.k (.int .i64 0)), []⟩, If 6 2 3, ⟨none, none, .st 1 (.t 6) (.k (.str [])), []⟩])
 (.seq (.seq (.reg [] [Io 7 (.ld 5 true (.t 3)), Io 8 (.call 267 [(.t 7)]), Io 9 (.not (.t 8))])
 (.cond (.t 9) (.seq (.reg [] [Io 2 (.mv (.k (.bool false)))])
 (.ret)) (.skip)))
 (.seq (.seq (.reg [] [If 10 0 1, Il 11 1 10])
 (.block 0 (.seq (.reg [] [Io 13 (.bi .eql .i64 (.t 11) (.k (.int .i64 0))), Im 12 13])
 (.cond (.t 12) (.seq (.reg [] [If 14 1 1, Il 15 1 14, Io 16 (.bi .eql .i64 (.t 15) (.k (.int .i64 0))), Im 17 16, Jt 18 17 (.fa 2 (.t 1)), Jt 19 17 (.ld 1 false (.t 18)), Jt 20 17 (.bs .eql (.t 19) (.k (.str []))), Io 21 (.pick (.t 17) (.t 20) (.k (.bool false))), Im 2 21])
 (.ret)) (.seq (.reg [] [Io 23 (.bi .eql .i64 (.t 11) (.k (.int .i64 1))), Im 22 23])
 (.cond (.t 22) (.seq (.reg [] [If 24 1 1, Il 25 1 24, Io 26 (.bi .eql .i64 (.t 25) (.k (.int .i64 0))), Im 27 26, Jf 28 27 (.fa 1 (.t 1)), Jf 29 27 (.ld 1 false (.t 28)), Jf 30 27 (.bi .eql .i64 (.t 29) (.k (.int .i64 1))), Io 31 (.pick (.t 27) (.k (.bool true)) (.t 30)), Im 32 31, Jt 33 32 (.fa 2 (.t 1)), Jt 34 32 (.ld 1 false (.t 33)), Jt 35 32 (.bs .eql (.t 34) (.k (.str []))), Io 36 (.pick (.t 32) (.t 35) (.k (.bool false))), Im 2 36])
 (.ret)) (.seq (.reg [] [Io 38 (.bi .eql .i64 (.t 11) (.k (.int .i64 2))), Im 37 38])
 (.cond (.t 37) (.seq (.reg [] [If 39 2 1, Il 40 1 39, Io 41 (.bs .eql (.t 40) (.k (.str []))), Im 2 41])
 (.ret)) (.seq (.reg [] [Io 43 (.bi .eql .i64 (.t 11) (.k (.int .i64 3))), Im 42 43])
 (.cond (.t 42) (.seq (.reg [] [If 44 1 1, Il 45 1 44, Io 46 (.bi .eql .i64 (.t 45) (.k (.int .i64 0))), Im 47 46, Jt 48 47 (.fa 2 (.t 1)), Jt 49 47 (.ld 1 false (.t 48)), Jt 50 47 (.call 309 [(.t 49)]), Io 51 (.pick (.t 47) (.t 50) (.k (.bool false))), Im 2 51])
 (.ret)) (.seq (.reg [] [Io 53 (.bi .eql .i64 (.t 11) (.k (.int .i64 4))), Im 52 53])
 (.cond (.t 52) (.seq (.reg [] [If 54 1 1, Il 55 1 54, Io 56 (.bi .eql .i64 (.t 55) (.k (.int .i64 0))), Im 57 56, Jt 58 57 (.fa 2 (.t 1)), Jt 59 57 (.ld 1 false (.t 58)), Jt 60 57 (.call 202 [(.t 59)]), Io 61 (.pick (.t 57) (.t 60) (.k (.bool false))), Im 2 61])
 (.ret)) (.seq (.reg [] [Io 63 (.bi .eql .i64 (.t 11) (.k (.int .i64 5))), Im 62 63])
 (.cond (.t 62) (.seq (.reg [] [If 64 1 1, Il 65 1 64, Io 66 (.bi .eql .i64 (.t 65) (.k (.int .i64 0))), Im 67 66, Jt 68 67 (.fa 2 (.t 1)), Jt 69 67 (.ld 1 false (.t 68)), Jt 70 67 (.call 203 [(.t 69)]), Io 71 (.pick (.t 67) (.t 70) (.k (.bool false))), Im 72 71, Jt 73 72 (.fa 2 (.t 1)), Jt 74 72 (.ld 1 false (.t 73)), Jt 75 72 (.call 310 [(.t 74)]), Jt 76 72 (.not (.t 75)), Io 77 (.pick (.t 72) (.t 76) (.k (.bool false))), Im 2 77])
 (.ret)) (.seq (.reg [] [Io 79 (.bi .eql .i64 (.t 11) (.k (.int .i64 8))), Im 78 79])
 (.cond (.t 78) (.seq (.reg [] [If 80 1 1, Il 81 1 80, Io 82 (.bi .eql .i64 (.t 81) (.k (.int .i64 0))), Im 83 82, Jt 84 83 (.fa 2 (.t 1)), Jt 85 83 (.ld 1 false (.t 84)), Jt 86 83 (.call 203 [(.t 85)]), Io 87 (.pick (.t 83) (.t 86) (.k (.bool false))), Im 2 87])
 (.ret)) (.skip)))))))))))))))))
 (.seq (.reg [] [Io 2 (.mv (.k (.bool false)))])
 (.ret))))))⟩
theorem ck266:chkFn Tryz.prog 266 ir266=true:=by kernel_rfl
def ir267 : AFn := ⟨23, 1, [.t 2], .seq (.reg [] [Io 1 (.boxv (.t 0)), Io 2 (.mv (.k (.bool false)))])
 (.seq (.reg [] [If 3 1 1, Il 4 1 3, Io 5 (.bi .eql .i64 (.t 4) (.k (.int .i64 0))), Im 6 5, Jt 7 6 (.fa 2 (.t 1)), Jt 8 6 (.ld 1 false (.t 7)), Jt 9 6 (.bs .eql (.t 8) (.k (.str []))), Io 10 (.pick (.t 6) (.t 9) (.k (.bool false))), Im 11 10, Jt 12 11 (.fa 3 (.t 1)), Jt 13 11 (.ld 1 false (.t 12)), Jt 14 11 (.len (.t 13)), Jt 15 11 (.bi .eql .i64 (.t 14) (.k (.int .i64 0))), Io 16 (.pick (.t 11) (.t 15) (.k (.bool false))), Im 17 16, Jt 18 17 (.fa 4 (.t 1)), Jt 19 17 (.ld 1 false (.t 18)), Jt 20 17 (.len (.t 19)), Jt 21 17 (.bi .eql .i64 (.t 20) (.k (.int .i64 0))), Io 22 (.pick (.t 17) (.t 21) (.k (.bool false))), Im 2 22])
 (.ret))⟩
theorem ck267:chkFn Tryz.prog 267 ir267=true:=by kernel_rfl
def ir269 : AFn := ⟨4, 1, [.t 2], .seq (.reg [] [Io 2 (.mv (.k (.str [])))])
 (.seq (.seq (.reg [] [Im 3 0])
 (.cond (.t 3) (.seq (.reg [] [Io 2 (.mv (.k (.str [116, 114, 117, 101])))])
 (.ret)) (.skip)))
 (.seq (.reg [] [Io 2 (.mv (.k (.str [102, 97, 108, 115, 101])))])
 (.ret)))⟩
theorem ck269:chkFn Tryz.prog 269 ir269=true:=by kernel_rfl
def ir280 : AFn := ⟨63, 1, [.t 2], .seq (.reg [] [Io 2 (.mv (.k (.str [])))])
 (.seq (.reg [] [Im 6 0, Io 7 (.call 323 [(.t 6)]), Im 3 7])
 (.seq (.seq (.reg [] [Im 8 3, Io 9 (.call 324 [(.t 8)]), Im 4 9])
 (.seq (.reg [] [Im 10 4, Io 11 (.bi .gtr .i64 (.t 10) (.k (.int .i64 0)))])
 (.cond (.t 11) (.seq (.reg [] [Io 5 (.mv (.k (.int .i64 1)))])
 (.block 0 (.loop [3, 4, 5] (.seq (.seq (.reg [] [Im 12 5, Im 13 3, Io 14 (.len (.t 13)), Io 15 (.bi .lss .i64 (.t 12) (.t 14))])
 (.cond (.t 15) (.skip) (.exit 0)))
 (.seq (.block 1 (.reg [0, 1, 2, 3, 4, 5, 6, 7, 8, 9, 10, 11, 12, 13, 14, 15] [Im 18 3, Im 19 5, Im 20 3, Im 21 5, Io 22 (.ia 1 (.t 20) (.t 21)), Il 23 1 22, Im 24 4, Im 25 3, Im 26 5, Io 27 (.ia 1 (.t 25) (.t 26)), Il 28 1 27, Io 29 (.lens (.t 28)), Io 30 (.mm false (.t 24) [(.t 29)]), Io 31 (.sls (.t 23) (some (.t 30)) none), Io 32 (.ia 1 (.t 18) (.t 19)), ⟨none, none, .st 1 (.t 32) (.t 31), []⟩]))
 (.reg [] [Im 16 5, Io 17 (.bi .add .i64 (.t 16) (.k (.int .i64 1))), Im 5 17])))))) (.skip))))
 (.seq (.block 2 (.loop [3] (.seq (.seq (.reg [] [Im 33 3, Io 34 (.len (.t 33)), Io 35 (.bi .gtr .i64 (.t 34) (.k (.int .i64 0))), Im 36 35, Jt 37 36 (.mv (.t 3)), Jt 38 36 (.ia 1 (.t 37) (.k (.int .i64 0))), Jt 39 36 (.ld 1 false (.t 38)), Jt 40 36 (.call 325 [(.t 39)]), Io 41 (.pick (.t 36) (.t 40) (.k (.bool false)))])
 (.cond (.t 41) (.skip) (.exit 2)))
 (.block 3 (.reg [] [Im 42 3, Io 43 (.sll 1 (.t 42) (some (.k (.int .i64 1))) none none), Im 3 43])))))
 (.seq (.block 4 (.loop [3] (.seq (.seq (.reg [] [Im 44 3, Io 45 (.len (.t 44)), Io 46 (.bi .gtr .i64 (.t 45) (.k (.int .i64 0))), Im 47 46, Jt 48 47 (.mv (.t 3)), Jt 49 47 (.mv (.t 3)), Jt 50 47 (.len (.t 49)), Jt 51 47 (.bi .sub .i64 (.t 50) (.k (.int .i64 1))), Jt 52 47 (.ia 1 (.t 48) (.t 51)), Jt 53 47 (.ld 1 false (.t 52)), Jt 54 47 (.call 325 [(.t 53)]), Io 55 (.pick (.t 47) (.t 54) (.k (.bool false)))])
 (.cond (.t 55) (.skip) (.exit 4)))
 (.block 5 (.reg [] [Im 56 3, Im 57 3, Io 58 (.len (.t 57)), Io 59 (.bi .sub .i64 (.t 58) (.k (.int .i64 1))), Io 60 (.sll 1 (.t 56) none (some (.t 59)) none), Im 3 60])))))
 (.seq (.reg [] [Io 61 (.frz 1 (.t 3)), Io 62 (.call 121 [(.t 61), (.k (.str [10]))]), Im 2 62])
 (.ret))))))⟩
theorem ck280:chkFn Tryz.prog 280 ir280=true:=by kernel_rfl
def ir281 : AFn := ⟨48, 2, [.t 4], .seq (.reg [] [Io 4 (.mv (.k (.int .i64 0)))])
 (.seq (.seq (.reg [] [Im 8 1, Io 9 (.call 217 [(.t 8), (.k (.str [117]))])])
 (.cond (.t 9) (.seq (.reg [] [Im 11 1, Io 12 (.sls (.t 11) (some (.k (.int .i64 1))) none), Io 13 (.call 326 [(.t 12)]), Im 10 13, Io 14 (.ext (.t 10) 0), Io 15 (.ext (.t 10) 1), Im 5 14, Im 6 15])
 (.seq (.seq (.reg [] [Im 16 6, Io 17 (.not (.t 16))])
 (.cond (.t 17) (.seq (.reg [] [Io 4 (.mv (.k (.int .i64 0)))])
 (.ret)) (.skip)))
 (.seq (.reg [] [Im 18 0, Im 19 0, Io 20 (.nilchk (.t 19)), If 21 1 20, Il 22 1 21, Im 23 5, Io 24 (.bls 1 1 [.int .i64 0] [(0, (.t 23))]), Io 25 (.app 1 8 (.t 22) (.t 24)), Io 26 (.nilchk (.t 18)), If 27 1 26, ⟨none, none, .st 1 (.t 27) (.t 25), []⟩])
 (.seq (.reg [] [Io 4 (.mv (.k (.int .i64 5)))])
 (.ret))))) (.skip)))
 (.seq (.seq (.reg [] [Im 28 1, Io 29 (.bs .eql (.t 28) (.k (.str [])))])
 (.cond (.t 29) (.seq (.reg [] [Io 4 (.mv (.k (.int .i64 0)))])
 (.ret)) (.skip)))
 (.seq (.reg [] [Im 30 1, Io 31 (.ixs (.t 30) (.k (.int .i64 0))), Io 32 (.call 222 [(.k (.str [34, 92, 47, 98, 102, 110, 114, 116])), (.t 31)]), Im 7 32])
 (.seq (.seq (.reg [] [Im 33 7, Io 34 (.bi .lss .i64 (.t 33) (.k (.int .i64 0)))])
 (.cond (.t 34) (.seq (.reg [] [Io 4 (.mv (.k (.int .i64 0)))])
 (.ret)) (.skip)))
 (.seq (.reg [] [Im 35 0, Io 36 (.call 282 [(.t 35)])])
 (.seq (.reg [0, 1, 2, 3, 4, 5, 6, 7, 8, 9, 10, 11] [Im 37 0, Im 38 0, Io 39 (.nilchk (.t 38)), If 40 0 39, Il 41 1 40, Im 42 7, Io 43 (.ixs (.k (.str [34, 92, 47, 8, 12, 10, 13, 9])) (.t 42)), Io 44 (.bls 1 1 [.int .u8 0] [(0, (.t 43))]), Io 45 (.app 1 1 (.t 41) (.t 44)), Io 46 (.nilchk (.t 37)), If 47 0 46, ⟨none, none, .st 1 (.t 47) (.t 45), []⟩])
 (.seq (.reg [] [Io 4 (.mv (.k (.int .i64 1)))])
 (.ret))))))))⟩
theorem ck281:chkFn Tryz.prog 281 ir281=true:=by kernel_rfl
def ir282 : AFn := ⟨34, 1, [], .seq (.reg [] [Im 5 0, Io 6 (.nilchk (.t 5)), If 7 1 6, Il 8 1 7, Io 9 (.call 327 [(.t 8)]), Im 4 9, Io 10 (.ext (.t 4) 0), Io 11 (.ext (.t 4) 1), Im 2 10, Im 3 11])
 (.reg [0, 1, 2, 3, 4, 5, 6, 7, 9, 10, 11, 12, 8, 13, 14, 15, 16, 17, 18, 19, 20, 21, 22, 23, 24] [Im 12 0, Im 13 0, Im 14 0, Im 15 0, Io 16 (.nilchk (.t 15)), If 17 0 16, Il 18 1 17, Im 19 2, Im 21 0, Io 22 (.nilchk (.t 21)), If 23 2 22, Il 24 1 23, ⟨some 20, none, .apps (.t 18) (.t 19), [11]⟩, Im 25 24, Jt 26 25 (.mv (.t 3)), Io 27 (.pick (.t 25) (.t 26) (.k (.bool false))), Io 28 (.nilchk (.t 12)), If 29 0 28, ⟨none, none, .st 1 (.t 29) (.t 20), []⟩, Io 30 (.nilchk (.t 13)), If 31 1 30, ⟨none, none, .st 1 (.t 31) (.k (.sl .nil 1 [])), []⟩, Io 32 (.nilchk (.t 14)), If 33 2 32, ⟨none, none, .st 1 (.t 33) (.t 27), []⟩])⟩
theorem ck282:chkFn Tryz.prog 282 ir282=true:=by kernel_rfl
def ir284 : AFn := ⟨24, 1, [.t 2], .seq (.reg [] [Io 2 (.mv (.k (.int .i64 0)))])
 (.seq (.reg [] [Io 3 (.mv (.k (.int .i64 0)))])
 (.seq (.seq (.reg [] [Im 5 0, Io 6 (.call 217 [(.t 5), (.k (.str [45]))])])
 (.cond (.t 6) (.reg [] [Io 3 (.mv (.k (.int .i64 1)))]) (.skip)))
 (.seq (.reg [] [Im 7 0, Im 8 3, Io 9 (.sls (.t 7) (some (.t 8)) none), Io 10 (.call 285 [(.t 9)]), Im 4 10])
 (.seq (.block 0 (.seq (.reg [] [Im 12 4, Io 13 (.bi .eql .i64 (.t 12) (.k (.int .i64 0))), Im 11 13])
 (.cond (.t 11) (.seq (.reg [] [Io 2 (.mv (.k (.int .i64 0)))])
 (.ret)) (.seq (.reg [] [Im 15 0, Im 16 3, Io 17 (.ixs (.t 15) (.t 16)), Io 18 (.bi .eql .u8 (.t 17) (.k (.int .u8 48))), Im 14 18])
 (.cond (.t 14) (.seq (.reg [] [Im 19 3, Io 20 (.bi .add .i64 (.t 19) (.k (.int .i64 1))), Im 2 20])
 (.ret)) (.skip))))))
 (.seq (.reg [] [Im 21 3, Im 22 4, Io 23 (.bi .add .i64 (.t 21) (.t 22)), Im 2 23])
 (.ret))))))⟩
theorem ck284:chkFn Tryz.prog 284 ir284=true:=by kernel_rfl
def ir285 : AFn := ⟨17, 1, [.t 2], .seq (.reg [] [Io 2 (.mv (.k (.int .i64 0)))])
 (.seq (.reg [] [Io 3 (.mv (.k (.int .i64 0)))])
 (.seq (.block 0 (.loop [0, 3] (.seq (.seq (.reg [] [Im 4 3, Im 5 0, Io 6 (.lens (.t 5)), Io 7 (.bi .lss .i64 (.t 4) (.t 6)), Im 8 7, Jt 9 8 (.mv (.t 0)), Jt 10 8 (.mv (.t 3)), Jt 11 8 (.ixs (.t 9) (.t 10)), Jt 12 8 (.call 226 [(.t 11)]), Io 13 (.pick (.t 8) (.t 12) (.k (.bool false)))])
 (.cond (.t 13) (.skip) (.exit 0)))
 (.block 1 (.reg [] [Im 14 3, Io 15 (.bi .add .i64 (.t 14) (.k (.int .i64 1))), Im 3 15])))))
 (.seq (.reg [] [Im 16 3, Im 2 16])
 (.ret))))⟩
theorem ck285:chkFn Tryz.prog 285 ir285=true:=by kernel_rfl
def ir286 : AFn := ⟨39, 1, [.t 2], .seq (.reg [] [Io 2 (.mv (.k (.int .i64 0)))])
 (.seq (.seq (.reg [] [Im 5 0, Io 6 (.bs .eql (.t 5) (.k (.str []))), Im 7 6, Jf 8 7 (.mv (.t 0)), Jf 9 7 (.ixs (.t 8) (.k (.int .i64 0))), Jf 10 7 (.bi .neq .u8 (.t 9) (.k (.int .u8 101))), Jf 11 7 (.mv (.t 10)), Jt 12 11 (.mv (.t 0)), Jt 13 11 (.ixs (.t 12) (.k (.int .i64 0))), Jt 14 11 (.bi .neq .u8 (.t 13) (.k (.int .u8 69))), Jf 15 7 (.pick (.t 11) (.t 14) (.k (.bool false))), Io 16 (.pick (.t 7) (.k (.bool true)) (.t 15))])
 (.cond (.t 16) (.seq (.reg [] [Io 2 (.mv (.k (.int .i64 0)))])
 (.ret)) (.skip)))
 (.seq (.reg [] [Io 3 (.mv (.k (.int .i64 1)))])
 (.seq (.seq (.reg [] [Im 17 0, Io 18 (.lens (.t 17)), Io 19 (.bi .gtr .i64 (.t 18) (.k (.int .i64 1))), Im 20 19, Jt 21 20 (.mv (.t 0)), Jt 22 20 (.ixs (.t 21) (.k (.int .i64 1))), Jt 23 20 (.bi .eql .u8 (.t 22) (.k (.int .u8 43))), Jt 24 20 (.mv (.t 23)), Jf 25 24 (.mv (.t 0)), Jf 26 24 (.ixs (.t 25) (.k (.int .i64 1))), Jf 27 24 (.bi .eql .u8 (.t 26) (.k (.int .u8 45))), Jt 28 20 (.pick (.t 24) (.k (.bool true)) (.t 27)), Io 29 (.pick (.t 20) (.t 28) (.k (.bool false)))])
 (.cond (.t 29) (.reg [] [Io 3 (.mv (.k (.int .i64 2)))]) (.skip)))
 (.seq (.reg [] [Im 30 0, Im 31 3, Io 32 (.sls (.t 30) (some (.t 31)) none), Io 33 (.call 285 [(.t 32)]), Im 4 33])
 (.seq (.seq (.reg [] [Im 34 4, Io 35 (.bi .eql .i64 (.t 34) (.k (.int .i64 0)))])
 (.cond (.t 35) (.seq (.reg [] [Io 2 (.mv (.k (.int .i64 0)))])
 (.ret)) (.skip)))
 (.seq (.reg [] [Im 36 3, Im 37 4, Io 38 (.bi .add .i64 (.t 36) (.t 37)), Im 2 38])
 (.ret)))))))⟩
theorem ck286:chkFn Tryz.prog 286 ir286=true:=by kernel_rfl
def ir289 : AFn := ⟨19, 2, [.t 4], .seq (.reg [] [Io 4 (.mv (.k (.int .i64 0)))])
 (.seq (.seq (.reg [] [Im 6 0, Io 7 (.len (.t 6)), Io 8 (.mv (.k (.int .i64 0)))])
 (.block 0 (.loop [0, 1, 7, 8] (.seq (.reg [] [Io 9 (.bi .lss .i64 (.t 8) (.t 7))])
 (.seq (.cond (.t 9) (.skip) (.exit 0))
 (.seq (.block 1 (.seq (.reg [] [Im 10 8, Im 5 10])
 (.seq (.reg [] [Im 11 1, Im 12 0, Im 13 5, Io 14 (.ia 1 (.t 12) (.t 13)), Il 15 1 14, Io 16 (.bs .eql (.t 11) (.t 15))])
 (.cond (.t 16) (.seq (.reg [] [Im 17 5, Im 4 17])
 (.ret)) (.skip)))))
 (.reg [] [Io 18 (.bi .add .i64 (.t 8) (.k (.int .i64 1))), Im 8 18])))))))
 (.seq (.reg [] [Io 4 (.mv (.k (.int .i64 (-1))))])
 (.ret)))⟩
theorem ck289:chkFn Tryz.prog 289 ir289=true:=by kernel_rfl
def ir299 : AFn := ⟨31, 1, [.c 2 7 true], .seq (.reg [] [Io 2 (.alloc [.int .i64 0, .str [], .str [], .sl .nil 6 [], .sl .nil 2 [], .str [], .sl .nil 7 []])])
 (.seq (.seq (.reg [] [Im 4 0, Io 5 (.call 174 [(.t 4)]), Io 6 (.fld 0 1 false (.t 5)), Io 7 (.bi .eql .i64 (.t 6) (.k (.int .i64 2))), Im 8 7, Jt 9 8 (.mv (.t 0)), Jt 10 8 (.call 248 [(.t 9), (.k (.str [111, 110]))]), Jt 11 8 (.not (.t 10)), Io 12 (.pick (.t 8) (.t 11) (.k (.bool false)))])
 (.cond (.t 12) (.seq (.reg [] [Im 13 0, Io 14 (.call 183 [(.t 13)]), Im 15 0, Io 16 (.call 250 [(.t 15), (.k (.bool false))]), Io 17 (.bld [.int .i64 0, .str [], .str [], .sl .nil 6 [], .sl .nil 2 [], .str [], .sl .nil 7 []] [(0, 1, (.k (.int .i64 1))), (2, 1, (.t 14)), (4, 1, (.t 16))]), ⟨none, none, .st 7 (.t 2) (.t 17), []⟩])
 (.ret)) (.skip)))
 (.seq (.reg [] [Io 18 (.bld [.int .i64 0, .str [], .str [], .sl .nil 6 [], .sl .nil 2 [], .str [], .sl .nil 7 []] [(0, 1, (.k (.int .i64 2)))]), Io 3 (.alloc [.int .i64 0, .str [], .str [], .sl .nil 6 [], .sl .nil 2 [], .str [], .sl .nil 7 []]), ⟨none, none, .st 7 (.t 3) (.t 18), []⟩])
 (.seq (.seq (.reg [] [Im 19 0, Io 20 (.call 163 [(.t 19), (.k (.str [111, 110]))])])
 (.cond (.t 20) (.reg [] [Im 21 0, Io 22 (.call 183 [(.t 21)]), If 23 5 3, ⟨none, none, .st 1 (.t 23) (.t 22), []⟩]) (.skip)))
 (.seq (.reg [] [Im 24 0, Io 25 (.call 250 [(.t 24), (.k (.bool false))]), If 26 4 3, ⟨none, none, .st 1 (.t 26) (.t 25), []⟩])
 (.seq (.reg [] [Im 27 0, Io 28 (.call 162 [(.t 27)]), If 29 6 3, ⟨none, none, .st 1 (.t 29) (.t 28), []⟩])
 (.seq (.reg [] [Io 30 (.ld 7 true (.t 3)), ⟨none, none, .st 7 (.t 2) (.t 30), []⟩])
 (.ret)))))))⟩
theorem ck299:chkFn Tryz.prog 299 ir299=true:=by kernel_rfl
def ir300 : AFn := ⟨23, 2, [.t 4], .seq (.reg [] [Io 4 (.mv (.k (.sl .nil 6 [])))])
 (.seq (.seq (.reg [] [Im 6 0, Io 7 (.call 191 [(.t 6), (.k (.str [40]))]), Io 8 (.not (.t 7))])
 (.cond (.t 8) (.seq (.reg [] [Io 4 (.mv (.k (.sl .nil 6 [])))])
 (.ret)) (.skip)))
 (.seq (.reg [] [Im 9 0, Im 10 1, Io 11 (.call 181 [(.t 9), (.t 10)]), Io 12 (.bls 6 1 [.str [], .int .i64 0, .int .i64 0, .str [], .sl .nil 5 [], .sl .nil 6 []] [(0, (.t 11))]), Im 5 12])
 (.seq (.block 0 (.loop [0, 1, 5] (.seq (.seq (.reg [] [Im 13 0, Io 14 (.call 191 [(.t 13), (.k (.str [41]))]), Io 15 (.not (.t 14))])
 (.cond (.t 15) (.skip) (.exit 0)))
 (.block 1 (.reg [] [Im 16 5, Im 17 0, Im 18 1, Io 19 (.call 181 [(.t 17), (.t 18)]), Io 20 (.bls 6 1 [.str [], .int .i64 0, .int .i64 0, .str [], .sl .nil 5 [], .sl .nil 6 []] [(0, (.t 19))]), Io 21 (.app 6 96 (.t 16) (.t 20)), Im 5 21])))))
 (.seq (.reg [] [Im 22 5, Im 4 22])
 (.ret)))))⟩
theorem ck300:chkFn Tryz.prog 300 ir300=true:=by kernel_rfl
def ir309 : AFn := ⟨23, 1, [.t 2], .seq (.reg [] [Io 2 (.mv (.k (.bool false)))])
 (.seq (.reg [] [Im 6 0, Io 7 (.call 207 [(.t 6)]), Im 3 7])
 (.seq (.reg [] [Im 9 0, Io 10 (.call 176 [(.t 9)]), Im 8 10, Io 11 (.ext (.t 8) 0), Io 12 (.ext (.t 8) 1), Im 4 11, Im 5 12])
 (.seq (.reg [] [Im 13 3, Io 14 (.bi .eql .i64 (.t 13) (.k (.int .i64 4))), Im 15 14, Jf 16 15 (.mv (.t 3)), Jf 17 15 (.bi .eql .i64 (.t 16) (.k (.int .i64 3))), Jf 18 15 (.mv (.t 17)), Jt 19 18 (.mv (.t 5)), Jt 20 18 (.not (.t 19)), Jf 21 15 (.pick (.t 18) (.t 20) (.k (.bool false))), Io 22 (.pick (.t 15) (.k (.bool true)) (.t 21)), Im 2 22])
 (.ret))))⟩
theorem ck309:chkFn Tryz.prog 309 ir309=true:=by kernel_rfl
def ir310 : AFn := ⟨13, 1, [.t 2], .seq (.reg [] [Io 2 (.mv (.k (.bool false)))])
 (.seq (.reg [] [Im 3 0, Io 4 (.bs .eql (.t 3) (.k (.str [116, 114, 117, 101]))), Im 5 4, Jf 6 5 (.mv (.t 0)), Jf 7 5 (.bs .eql (.t 6) (.k (.str [102, 97, 108, 115, 101]))), Io 8 (.pick (.t 5) (.k (.bool true)) (.t 7)), Im 9 8, Jf 10 9 (.mv (.t 0)), Jf 11 9 (.bs .eql (.t 10) (.k (.str [110, 117, 108, 108]))), Io 12 (.pick (.t 9) (.k (.bool true)) (.t 11)), Im 2 12])
 (.ret))⟩
theorem ck310:chkFn Tryz.prog 310 ir310=true:=by kernel_rfl
def ir323 : AFn := ⟨57, 1, [.t 2], .seq (.reg [] [Io 2 (.mv (.k (.sl .nil 1 [])))])
 (.seq (.reg [] [Io 3 (.mv (.k (.sl .nil 1 [])))])
 (.seq (.reg [] [Io 4 (.mv (.k (.int .i64 0)))])
 (.seq (.seq (.reg [] [Io 5 (.mv (.k (.int .i64 0)))])
 (.block 0 (.loop [0, 3, 4, 5] (.seq (.seq (.reg [] [Im 6 5, Im 7 0, Io 8 (.lens (.t 7)), Io 9 (.bi .lss .i64 (.t 6) (.t 8))])
 (.cond (.t 9) (.skip) (.exit 0)))
 (.seq (.block 1 (.seq (.seq (.reg [] [Im 12 0, Im 13 5, Io 14 (.ixs (.t 12) (.t 13)), Io 15 (.bi .neq .u8 (.t 14) (.k (.int .u8 10))), Im 16 15, Jt 17 16 (.mv (.t 0)), Jt 18 16 (.mv (.t 5)), Jt 19 16 (.ixs (.t 17) (.t 18)), Jt 20 16 (.bi .neq .u8 (.t 19) (.k (.int .u8 13))), Io 21 (.pick (.t 16) (.t 20) (.k (.bool false)))])
 (.cond (.t 21) (.exit 1) (.skip)))
 (.seq (.reg [] [Im 22 3, Im 23 0, Im 24 4, Im 25 5, Io 26 (.sls (.t 23) (some (.t 24)) (some (.t 25))), Io 27 (.bls 1 1 [.str []] [(0, (.t 26))]), Io 28 (.appm 1 16 [.str []] (.t 22) (.t 27)), Im 3 28])
 (.seq (.seq (.reg [] [Im 29 0, Im 30 5, Io 31 (.ixs (.t 29) (.t 30)), Io 32 (.bi .eql .u8 (.t 31) (.k (.int .u8 13))), Im 33 32, Jt 34 33 (.mv (.t 5)), Jt 35 33 (.bi .add .i64 (.t 34) (.k (.int .i64 1))), Jt 36 33 (.mv (.t 0)), Jt 37 33 (.lens (.t 36)), Jt 38 33 (.bi .lss .i64 (.t 35) (.t 37)), Io 39 (.pick (.t 33) (.t 38) (.k (.bool false))), Im 40 39, Jt 41 40 (.mv (.t 0)), Jt 42 40 (.mv (.t 5)), Jt 43 40 (.bi .add .i64 (.t 42) (.k (.int .i64 1))), Jt 44 40 (.ixs (.t 41) (.t 43)), Jt 45 40 (.bi .eql .u8 (.t 44) (.k (.int .u8 10))), Io 46 (.pick (.t 40) (.t 45) (.k (.bool false)))])
 (.cond (.t 46) (.reg [] [Im 47 5, Io 48 (.bi .add .i64 (.t 47) (.k (.int .i64 1))), Im 5 48]) (.skip)))
 (.reg [] [Im 49 5, Io 50 (.bi .add .i64 (.t 49) (.k (.int .i64 1))), Im 4 50])))))
 (.reg [] [Im 10 5, Io 11 (.bi .add .i64 (.t 10) (.k (.int .i64 1))), Im 5 11]))))))
 (.seq (.reg [] [Im 51 3, Im 52 0, Im 53 4, Io 54 (.sls (.t 52) (some (.t 53)) none), Io 55 (.bls 1 1 [.str []] [(0, (.t 54))]), Io 56 (.appm 1 16 [.str []] (.t 51) (.t 55)), Im 2 56])
 (.ret)))))⟩
theorem ck323:chkFn Tryz.prog 323 ir323=true:=by kernel_rfl
def ir324 : AFn := ⟨36, 1, [.t 2], .seq (.reg [] [Io 2 (.mv (.k (.int .i64 0)))])
 (.scope (.seq (.reg [] [Io 3 (.mv (.k (.int .i64 (-1))))])
 (.seq (.skip)
 (.seq (.seq (.reg [] [Im 8 0, Io 9 (.len (.t 8)), Io 10 (.mv (.k (.int .i64 0)))])
 (.block 0 (.loop [3, 8, 9, 10] (.seq (.reg [] [Io 11 (.bi .lss .i64 (.t 10) (.t 9))])
 (.seq (.cond (.t 11) (.skip) (.exit 0))
 (.seq (.block 1 (.seq (.reg [] [Im 12 10, Io 13 (.ia 1 (.t 8) (.t 10)), Il 14 1 13, Im 4 12, Im 5 14])
 (.seq (.reg [] [Im 16 5, Io 17 (.call 345 [(.t 16)]), Im 15 17, Io 18 (.ext (.t 15) 0), Io 19 (.ext (.t 15) 1), Im 6 18, Im 7 19])
 (.seq (.seq (.reg [] [Im 20 4, Io 21 (.bi .eql .i64 (.t 20) (.k (.int .i64 0))), Im 22 21, Jf 23 22 (.mv (.t 7)), Jf 24 22 (.not (.t 23)), Io 25 (.pick (.t 22) (.k (.bool true)) (.t 24))])
 (.cond (.t 25) (.exit 1) (.skip)))
 (.seq (.reg [] [Im 26 3, Io 27 (.bi .lss .i64 (.t 26) (.k (.int .i64 0))), Im 28 27, Jf 29 28 (.mv (.t 6)), Jf 30 28 (.mv (.t 3)), Jf 31 28 (.bi .lss .i64 (.t 29) (.t 30)), Io 32 (.pick (.t 28) (.k (.bool true)) (.t 31))])
 (.cond (.t 32) (.reg [] [Im 33 6, Im 3 33]) (.skip)))))))
 (.reg [] [Io 34 (.bi .add .i64 (.t 10) (.k (.int .i64 1))), Im 10 34])))))))
 (.seq (.reg [] [Im 35 3, Im 2 35])
 (.ret))))))⟩
theorem ck324:chkFn Tryz.prog 324 ir324=true:=by kernel_rfl
def ir325 : AFn := ⟨12, 1, [.t 2], .seq (.reg [] [Io 2 (.mv (.k (.bool false)))])
 (.seq (.reg [] [Im 6 0, Io 7 (.call 345 [(.t 6)]), Im 5 7, Io 8 (.ext (.t 5) 0), Io 9 (.ext (.t 5) 1), Im 3 8, Im 4 9])
 (.seq (.reg [] [Im 10 4, Io 11 (.not (.t 10)), Im 2 11])
 (.ret)))⟩
theorem ck325:chkFn Tryz.prog 325 ir325=true:=by kernel_rfl
def ir326 : AFn := ⟨44, 1, [.t 2, .t 3], .seq (.reg [] [Io 2 (.mv (.k (.int .i64 0))), Io 3 (.mv (.k (.bool false)))])
 (.seq (.seq (.reg [] [Im 7 0, Io 8 (.lens (.t 7)), Io 9 (.bi .lss .i64 (.t 8) (.k (.int .i64 4)))])
 (.cond (.t 9) (.seq (.reg [] [Io 2 (.mv (.k (.int .i64 0))), Io 3 (.mv (.k (.bool false)))])
 (.ret)) (.skip)))
 (.seq (.reg [] [Io 4 (.mv (.k (.int .i64 0)))])
 (.seq (.seq (.reg [] [Io 10 (.mv (.k (.int .i64 0)))])
 (.block 0 (.loop [0, 4, 10] (.seq (.reg [] [Io 11 (.bi .lss .i64 (.t 10) (.k (.int .i64 4)))])
 (.seq (.cond (.t 11) (.skip) (.exit 0))
 (.seq (.block 1 (.seq (.reg [] [Im 12 10, Im 5 12])
 (.seq (.reg [] [Im 13 0, Im 14 5, Io 15 (.ixs (.t 13) (.t 14)), Io 16 (.bi .or .u8 (.t 15) (.k (.int .u8 32))), Io 17 (.call 222 [(.k (.str [48, 49, 50, 51, 52, 53, 54, 55, 56, 57, 97, 98, 99, 100, 101, 102])), (.t 16)]), Im 6 17])
 (.seq (.seq (.reg [] [Im 18 6, Io 19 (.bi .lss .i64 (.t 18) (.k (.int .i64 0))), Im 20 19, Jf 21 20 (.mv (.t 0)), Jf 22 20 (.mv (.t 5)), Jf 23 20 (.ixs (.t 21) (.t 22)), Jf 24 20 (.bi .lss .u8 (.t 23) (.k (.int .u8 48))), Io 25 (.pick (.t 20) (.k (.bool true)) (.t 24)), Im 26 25, Jf 27 26 (.mv (.t 0)), Jf 28 26 (.mv (.t 5)), Jf 29 26 (.ixs (.t 27) (.t 28)), Jf 30 26 (.bi .gtr .u8 (.t 29) (.k (.int .u8 57))), Jf 31 26 (.mv (.t 30)), Jt 32 31 (.mv (.t 0)), Jt 33 31 (.mv (.t 5)), Jt 34 31 (.ixs (.t 32) (.t 33)), Jt 35 31 (.bi .lss .u8 (.t 34) (.k (.int .u8 65))), Jf 36 26 (.pick (.t 31) (.t 35) (.k (.bool false))), Io 37 (.pick (.t 26) (.k (.bool true)) (.t 36))])
 (.cond (.t 37) (.seq (.reg [] [Io 2 (.mv (.k (.int .i64 0))), Io 3 (.mv (.k (.bool false)))])
 (.ret)) (.skip)))
 (.reg [] [Im 38 4, Io 39 (.bi .mul .i64 (.k (.int .i64 16)) (.t 38)), Im 40 6, Io 41 (.bi .add .i64 (.t 39) (.t 40)), Im 4 41])))))
 (.reg [] [Io 42 (.bi .add .i64 (.t 10) (.k (.int .i64 1))), Im 10 42])))))))
 (.seq (.reg [] [Im 43 4, Im 2 43, Io 3 (.mv (.k (.bool true)))])
 (.ret)))))⟩
theorem ck326:chkFn Tryz.prog 326 ir326=true:=by kernel_rfl
def ir327 : AFn := ⟨75, 1, [.t 2, .t 3], .seq (.reg [] [Io 2 (.mv (.k (.str []))), Io 3 (.mv (.k (.bool false)))])
 (.seq (.reg [] [Io 4 (.mv (.k (.sl .nil 1 [])))])
 (.seq (.seq (.reg [] [Io 5 (.mv (.k (.int .i64 0)))])
 (.block 0 (.loop [0, 4, 5] (.seq (.seq (.reg [] [Im 7 5, Im 8 0, Io 9 (.len (.t 8)), Io 10 (.bi .lss .i64 (.t 7) (.t 9))])
 (.cond (.t 10) (.skip) (.exit 0)))
 (.seq (.block 1 (.seq (.reg [] [Im 13 0, Im 14 5, Io 15 (.ia 1 (.t 13) (.t 14)), Il 16 1 15, Im 6 16])
 (.seq (.block 2 (.seq (.reg [] [Im 18 6, Io 19 (.bi .lss .i64 (.t 18) (.k (.int .i64 0))), Im 20 19, Jf 21 20 (.mv (.t 6)), Jf 22 20 (.bi .gtr .i64 (.t 21) (.k (.int .i64 65535))), Io 23 (.pick (.t 20) (.k (.bool true)) (.t 22)), Im 24 23, Jf 25 24 (.mv (.t 6)), Jf 26 24 (.bi .geq .i64 (.t 25) (.k (.int .i64 56320))), Jf 27 24 (.mv (.t 26)), Jt 28 27 (.mv (.t 6)), Jt 29 27 (.bi .leq .i64 (.t 28) (.k (.int .i64 57343))), Jf 30 24 (.pick (.t 27) (.t 29) (.k (.bool false))), Io 31 (.pick (.t 24) (.k (.bool true)) (.t 30)), Im 17 31])
 (.cond (.t 17) (.seq (.reg [] [Io 2 (.mv (.k (.str []))), Io 3 (.mv (.k (.bool false)))])
 (.ret)) (.seq (.reg [] [Im 33 6, Io 34 (.bi .geq .i64 (.t 33) (.k (.int .i64 55296))), Im 35 34, Jt 36 35 (.mv (.t 6)), Jt 37 35 (.bi .lss .i64 (.t 36) (.k (.int .i64 56320))), Io 38 (.pick (.t 35) (.t 37) (.k (.bool false))), Im 32 38])
 (.cond (.t 32) (.seq (.reg [] [Im 39 5, Io 40 (.bi .add .i64 (.t 39) (.k (.int .i64 1))), Im 5 40])
 (.seq (.seq (.reg [] [Im 41 5, Im 42 0, Io 43 (.len (.t 42)), Io 44 (.bi .eql .i64 (.t 41) (.t 43)), Im 45 44, Jf 46 45 (.mv (.t 0)), Jf 47 45 (.mv (.t 5)), Jf 48 45 (.ia 1 (.t 46) (.t 47)), Jf 49 45 (.ld 1 false (.t 48)), Jf 50 45 (.bi .lss .i64 (.t 49) (.k (.int .i64 56320))), Io 51 (.pick (.t 45) (.k (.bool true)) (.t 50)), Im 52 51, Jf 53 52 (.mv (.t 0)), Jf 54 52 (.mv (.t 5)), Jf 55 52 (.ia 1 (.t 53) (.t 54)), Jf 56 52 (.ld 1 false (.t 55)), Jf 57 52 (.bi .gtr .i64 (.t 56) (.k (.int .i64 57343))), Io 58 (.pick (.t 52) (.k (.bool true)) (.t 57))])
 (.cond (.t 58) (.seq (.reg [] [Io 2 (.mv (.k (.str []))), Io 3 (.mv (.k (.bool false)))])
 (.ret)) (.skip)))
 (.reg [] [Im 59 6, Io 60 (.bi .sub .i64 (.t 59) (.k (.int .i64 55296))), Io 61 (.bi .mul .i64 (.k (.int .i64 1024)) (.t 60)), Io 62 (.bi .add .i64 (.k (.int .i64 65536)) (.t 61)), Im 63 0, Im 64 5, Io 65 (.ia 1 (.t 63) (.t 64)), Il 66 1 65, Io 67 (.bi .add .i64 (.t 62) (.t 66)), Io 68 (.bi .sub .i64 (.t 67) (.k (.int .i64 56320))), Im 6 68]))) (.skip))))))
 (.reg [] [Im 69 4, Im 70 6, Io 71 (.cvi .i32 (.t 70)), Io 72 (.call 346 [(.t 69), (.t 71)]), Im 4 72]))))
 (.reg [] [Im 11 5, Io 12 (.bi .add .i64 (.t 11) (.k (.int .i64 1))), Im 5 12]))))))
 (.seq (.reg [] [Im 73 4, Io 74 (.cvb2s (.t 73)), Im 2 74, Io 3 (.mv (.k (.bool true)))])
 (.ret))))⟩
theorem ck327:chkFn Tryz.prog 327 ir327=true:=by kernel_rfl
def ir345 : AFn := ⟨24, 1, [.t 2, .t 3], .seq (.reg [] [Io 2 (.mv (.k (.int .i64 0))), Io 3 (.mv (.k (.bool false)))])
 (.seq (.seq (.reg [] [Im 5 0, Io 6 (.lens (.t 5)), Io 7 (.mv (.k (.int .i64 0)))])
 (.block 0 (.loop [0, 6, 7] (.seq (.reg [] [Io 8 (.bi .lss .i64 (.t 7) (.t 6))])
 (.seq (.cond (.t 8) (.skip) (.exit 0))
 (.seq (.block 1 (.seq (.reg [] [Im 9 7, Im 4 9])
 (.seq (.reg [] [Im 10 0, Im 11 4, Io 12 (.ixs (.t 10) (.t 11)), Io 13 (.bi .neq .u8 (.t 12) (.k (.int .u8 9))), Im 14 13, Jt 15 14 (.mv (.t 0)), Jt 16 14 (.mv (.t 4)), Jt 17 14 (.ixs (.t 15) (.t 16)), Jt 18 14 (.bi .neq .u8 (.t 17) (.k (.int .u8 32))), Io 19 (.pick (.t 14) (.t 18) (.k (.bool false)))])
 (.cond (.t 19) (.seq (.reg [] [Im 20 4, Im 2 20, Io 3 (.mv (.k (.bool true)))])
 (.ret)) (.skip)))))
 (.reg [] [Io 21 (.bi .add .i64 (.t 7) (.k (.int .i64 1))), Im 7 21])))))))
 (.seq (.reg [] [Im 22 0, Io 23 (.lens (.t 22)), Im 2 23, Io 3 (.mv (.k (.bool false)))])
 (.ret)))⟩
theorem ck345:chkFn Tryz.prog 345 ir345=true:=by kernel_rfl
def ir346 : AFn := ⟨16, 2, [.t 4], .seq (.reg [] [Io 4 (.mv (.k (.sl .nil 1 [])))])
 (.seq (.seq (.reg [] [Im 5 1, Io 6 (.cvi .u32 (.t 5)), Io 7 (.bi .leq .u32 (.t 6) (.k (.int .u32 127)))])
 (.cond (.t 7) (.seq (.reg [] [Im 8 0, Im 9 1, Io 10 (.cvi .u8 (.t 9)), Io 11 (.bls 1 1 [.int .u8 0] [(0, (.t 10))]), Io 12 (.app 1 1 (.t 8) (.t 11)), Im 4 12])
 (.ret)) (.skip)))
 (.seq (.reg [] [Im 13 0, Im 14 1, Io 15 (.call 356 [(.t 13), (.t 14)]), Im 4 15])
 (.ret)))⟩
theorem ck346:chkFn Tryz.prog 346 ir346=true:=by kernel_rfl
def ir356 : AFn := ⟨78, 2, [.t 4], .seq (.reg [] [Io 4 (.mv (.k (.sl .nil 1 [])))])
 (.seq (.reg [] [Im 6 1, Io 7 (.cvi .u32 (.t 6)), Im 5 7])
 (.block 0 (.seq (.reg [] [Im 12 5, Io 13 (.bi .leq .u32 (.t 12) (.k (.int .u32 2047))), Im 11 13])
 (.cond (.t 11) (.seq (.reg [] [Im 14 0, Im 15 1, Io 16 (.shf .shr (.t 15) (.k (.int .u64 6))), Io 17 (.cvi .u8 (.t 16)), Io 18 (.bi .or .u8 (.k (.int .u8 192)) (.t 17)), Im 19 1, Io 20 (.cvi .u8 (.t 19)), Io 21 (.bi .and .u8 (.t 20) (.k (.int .u8 63))), Io 22 (.bi .or .u8 (.k (.int .u8 128)) (.t 21)), Io 23 (.bls 1 2 [.int .u8 0] [(0, (.t 18)), (1, (.t 22))]), Io 24 (.app 1 1 (.t 14) (.t 23)), Im 4 24])
 (.ret)) (.seq (.seq (.reg [] [Im 26 5, Io 27 (.bi .lss .u32 (.t 26) (.k (.int .u32 55296))), Im 25 27])
 (.cond (.t 25) (.skip) (.reg [] [Im 28 5, Io 29 (.bi .lss .u32 (.k (.int .u32 57343)) (.t 28)), Im 30 29, Jt 31 30 (.mv (.t 5)), Jt 32 30 (.bi .leq .u32 (.t 31) (.k (.int .u32 65535))), Io 33 (.pick (.t 30) (.t 32) (.k (.bool false))), Im 25 33])))
 (.cond (.t 25) (.seq (.reg [] [Im 34 0, Im 35 1, Io 36 (.shf .shr (.t 35) (.k (.int .u64 12))), Io 37 (.cvi .u8 (.t 36)), Io 38 (.bi .or .u8 (.k (.int .u8 224)) (.t 37)), Im 39 1, Io 40 (.shf .shr (.t 39) (.k (.int .u64 6))), Io 41 (.cvi .u8 (.t 40)), Io 42 (.bi .and .u8 (.t 41) (.k (.int .u8 63))), Io 43 (.bi .or .u8 (.k (.int .u8 128)) (.t 42)), Im 44 1, Io 45 (.cvi .u8 (.t 44)), Io 46 (.bi .and .u8 (.t 45) (.k (.int .u8 63))), Io 47 (.bi .or .u8 (.k (.int .u8 128)) (.t 46)), Io 48 (.bls 1 3 [.int .u8 0] [(0, (.t 38)), (1, (.t 43)), (2, (.t 47))]), Io 49 (.app 1 1 (.t 34) (.t 48)), Im 4 49])
 (.ret)) (.seq (.reg [] [Im 51 5, Io 52 (.bi .gtr .u32 (.t 51) (.k (.int .u32 65535))), Im 53 52, Jt 54 53 (.mv (.t 5)), Jt 55 53 (.bi .leq .u32 (.t 54) (.k (.int .u32 1114111))), Io 56 (.pick (.t 53) (.t 55) (.k (.bool false))), Im 50 56])
 (.cond (.t 50) (.seq (.reg [] [Im 57 0, Im 58 1, Io 59 (.shf .shr (.t 58) (.k (.int .u64 18))), Io 60 (.cvi .u8 (.t 59)), Io 61 (.bi .or .u8 (.k (.int .u8 240)) (.t 60)), Im 62 1, Io 63 (.shf .shr (.t 62) (.k (.int .u64 12))), Io 64 (.cvi .u8 (.t 63)), Io 65 (.bi .and .u8 (.t 64) (.k (.int .u8 63))), Io 66 (.bi .or .u8 (.k (.int .u8 128)) (.t 65)), Im 67 1, Io 68 (.shf .shr (.t 67) (.k (.int .u64 6))), Io 69 (.cvi .u8 (.t 68)), Io 70 (.bi .and .u8 (.t 69) (.k (.int .u8 63))), Io 71 (.bi .or .u8 (.k (.int .u8 128)) (.t 70)), Im 72 1, Io 73 (.cvi .u8 (.t 72)), Io 74 (.bi .and .u8 (.t 73) (.k (.int .u8 63))), Io 75 (.bi .or .u8 (.k (.int .u8 128)) (.t 74)), Io 76 (.bls 1 4 [.int .u8 0] [(0, (.t 61)), (1, (.t 66)), (2, (.t 71)), (3, (.t 75))]), Io 77 (.app 1 1 (.t 57) (.t 76)), Im 4 77])
 (.ret)) (.seq (.reg [] [Im 8 0, Io 9 (.bls 1 3 [.int .u8 0] [(0, (.k (.int .u8 239))), (1, (.k (.int .u8 191))), (2, (.k (.int .u8 189)))]), Io 10 (.app 1 1 (.t 8) (.t 9)), Im 4 10])
 (.ret))))))))))⟩
theorem ck356:chkFn Tryz.prog 356 ir356=true:=by kernel_rfl
end Go.Proofs.YticbbfbpeimkbaaGreatDoor
namespace Go.Proofs.YticbbfbpeimkbaaGreatDoor
open Go.Ab
mutual
inductive Val where
 | mk (k n:Int) (s:List UInt8) (l:List Val) (m:List Mem)
inductive Mem where
 | mk (name:List UInt8) (v:Val)
end
mutual
def cV:Val→List AV
 | .mk k n s l m=>[.int .i64 k,.int .i64 n,.str s,.sl .no 5 (cVs l),.sl .no 6 (cMs m)]
def cVs:List Val→List (List AV)
 | []=>[]
 | v :: r=>cV v :: cVs r
def cM:Mem→List AV
 | .mk s v=>.str s :: cV v
def cMs:List Mem→List (List AV)
 | []=>[]
 | x :: r=>cM x :: cMs r
end
theorem cVs_map:∀ l,cVs l=l.map cV
 | []=>rfl
 | v :: r=>by rw [cVs,cVs_map r];rfl
theorem cMs_map:∀ l,cMs l=l.map cM
 | []=>rfl
 | v :: r=>by rw [cMs,cMs_map r];rfl
theorem cVs_len (l:List Val):(cVs l).length=l.length:=by rw [cVs_map];simp
theorem cMs_len (l:List Mem):(cMs l).length=l.length:=by rw [cMs_map];simp
theorem cVs_get {l a:List Val} {x:Val} {b:List Val} (h:l=a++x :: b):(cVs l).getD a.length []=cV x:=by rw [cVs_map,getD_mid' h]
theorem cMs_get {l a:List Mem} {x:Mem} {b:List Mem} (h:l=a++x :: b):(cMs l).getD a.length []=cM x:=by rw [cMs_map,getD_mid' h]
theorem cV_mk (k n:Int) (s:List UInt8) (l:List Val) (m:List Mem):cV (.mk k n s l m)=[.int .i64 k,.int .i64 n,.str s,.sl .no 5 (cVs l),.sl .no 6 (cMs m)]:=rfl
theorem cM_mk (s:List UInt8) (v:Val):cM (.mk s v)=.str s :: cV v:=rfl
theorem cV_strip (v:Val):(cV v).map AV.strip1=cV v:=by cases v;rfl
theorem cM_strip (v:Mem):(cM v).map AV.strip1=cM v:=by cases v with|mk s v=>cases v;rfl
theorem cVs_strip (l:List Val):(cVs l).map (·.map AV.strip1)=cVs l:=by
 rw [cVs_map,List.map_map];exact List.map_congr_left fun v _=>cV_strip v
theorem cMs_strip (l:List Mem):(cMs l).map (·.map AV.strip1)=cMs l:=by
 rw [cMs_map,List.map_map];exact List.map_congr_left fun v _=>cM_strip v
mutual
theorem Val.ind {P:Val→Prop} (h:∀ k n s l m,(∀ v ∈ l,P v)→(∀ s v,Mem.mk s v ∈ m→P v)→P (.mk k n s l m)):∀ v,P v
 | .mk k n s l m=>h k n s l m (Val.indL h l) (fun s v hm=>Val.indM h m s v hm)
theorem Val.indL {P:Val→Prop} (h:∀ k n s l m,(∀ v ∈ l,P v)→(∀ s v,Mem.mk s v ∈ m→P v)→P (.mk k n s l m)):∀ l:List Val,∀ v ∈ l,P v
 | [],_,hv=>by cases hv
 | x :: r,v,hv=>(List.mem_cons.1 hv).elim (fun e=>e▸Val.ind h x) (Val.indL h r v)
theorem Val.ind1 {P:Val→Prop} (h:∀ k n s l m,(∀ v ∈ l,P v)→(∀ s v,Mem.mk s v ∈ m→P v)→P (.mk k n s l m)):∀ m:Mem,∀ s v,m=.mk s v→P v
 | .mk s v,s',v',e=>by cases e;exact Val.ind h v
theorem Val.indM {P:Val→Prop} (h:∀ k n s l m,(∀ v ∈ l,P v)→(∀ s v,Mem.mk s v ∈ m→P v)→P (.mk k n s l m)):∀ l:List Mem,∀ s v,Mem.mk s v ∈ l→P v
 | [],_,_,hv=>by cases hv
 | x :: r,s,v,hv=>(List.mem_cons.1 hv).elim (fun e=>Val.ind1 h x s v e.symm) (Val.indM h r s v)
end
theorem cV_len (v:Val):(cV v).length=5:=by cases v;rfl
theorem cM_len (x:Mem):(cM x).length=6:=by cases x with|mk s v=>cases v;rfl
theorem cV_take (v:Val):(cV v).take 5=cV v:=by cases v;rfl
theorem cM_take (x:Mem):(cM x).take 6=cM x:=by cases x with|mk s v=>cases v;rfl
theorem cV_splice (a b c d e:AV) (v:Val):splice [a,b,c,d,e] 0 (cV v)=cV v:=by cases v;rfl
theorem cM_splice (a b c d e f:AV) (x:Mem):splice [a,b,c,d,e,f] 0 (cM x)=cM x:=by cases x with|mk s v=>cases v;rfl
mutual
def bV:Val→Nat
 | .mk _ _ s l m=>1+s.length+bVs l+bMs m
def bVs:List Val→Nat
 | []=>0
 | v :: r=>bV v+bVs r
def bM:Mem→Nat
 | .mk s v=>s.length+bV v
def bMs:List Mem→Nat
 | []=>0
 | x :: r=>bM x+bMs r
end
theorem bV_pos (v:Val):1≤bV v:=by cases v;simp only [bV];omega
theorem bM_pos (v:Mem):1≤bM v:=by cases v with|mk s v=>have:=bV_pos v;simp only [bM];omega
theorem bVs_len:∀ l,l.length≤bVs l
 | []=>by simp
 | v :: r=>by have:=bVs_len r;have:=bV_pos v;simp only [bVs,List.length_cons];omega
theorem bMs_len:∀ l,l.length≤bMs l
 | []=>by simp
 | v :: r=>by have:=bMs_len r;have:=bM_pos v;simp only [bMs,List.length_cons];omega
theorem bVs_mid (a:List Val) (x:Val) (b:List Val):bVs (a++x :: b)=bVs a+bV x+bVs b:=by
 induction a with
 | nil=>simp [bVs]
 | cons y a ih=>simp only [List.cons_append,bVs,ih];omega
theorem bMs_mid (a:List Mem) (x:Mem) (b:List Mem):bMs (a++x :: b)=bMs a+bM x+bMs b:=by
 induction a with
 | nil=>simp [bMs]
 | cons y a ih=>simp only [List.cons_append,bMs,ih];omega
abbrev Lim:Nat:=1099511627776
theorem sizeC:∀ v,bV v≤Lim→Pure Tryz.prog 53 [.agg (cV v)] (.int .i64 (bV v)):=by
 refine Val.ind fun k n s l m ihl ihm hb=>?_
 refine Pure.go ir53 ck53 (Nat.le_refl _) fun KP Q hQ=>?_
 have hl:=cVs_len l
 have hm:=cMs_len m
 have hll:=bVs_len l
 have hml:=bMs_len m
 have hb':1+s.length+bVs l+bMs m≤Lim:=hb
 simp only [Lim] at hb'
 simp (disch:=first|omega|assumption) only [ir53,cV_mk,wrap64,go_sem,↓reduceIte]
 refine goL_range l 4 (fun n:Int=>[(3,.int .i64 n)]) (fun done rest n H=>n+bVs rest=1+s.length+bVs l∧H=Heap.emp) (1+s.length) (by simp (disch:=first|omega|assumption) only [go_sem,↓reduceIte]) ⟨by omega,rfl⟩ ?_ ?_
 ·rintro n H J ⟨hn,rfl⟩ hlt
  simp only [bVs] at hn
  simp (disch:=first|omega|assumption) only [hl,hlt,go_sem,↓reduceIte]
  refine goL_range m 5 (fun n:Int=>[(3,.int .i64 n)]) (fun done rest n H=>n+bMs rest=1+s.length+bVs l+bMs m∧H=Heap.emp) n (by simp (disch:=first|omega|assumption) only [go_sem,↓reduceIte]) ⟨by omega,rfl⟩ ?_ ?_
  ·rintro n H J ⟨hn,rfl⟩ hlt
   simp only [bMs] at hn
   simp (disch:=first|omega|assumption) only [hm,hlt,go_sem,↓reduceIte]
   have:n=((bV (.mk k n s l m):Nat):Int):=by simp only [bV];omega
   exact hQ _ _ _ _ nofun rfl (by simp [tupOf,envOf,AV.strip,AV.strip1,bV,this])
  ·rintro done x rest n H J hd hlt _ ⟨hn,rfl⟩ hJ
   have hg:=cMs_get hd
   have hbm:=bMs_mid done x rest
   rw [← hd] at hbm
   cases x with
   | mk t v =>
   simp only [bMs,bM] at hn hbm
   simp (disch:=first|omega|assumption) only [cV_len,cV_take,cV_splice,cM_len,cM_take,cM_splice,cM_mk,hm,hlt,hg,wrap64,go_sem,↓reduceIte]
   refine goK_pure (ihm t v (by rw [hd];simp) (by simp only [Lim];omega)) ?_
   simp (disch:=first|omega|assumption) only [hl,hm,hlt,hg,cM_mk,wrap64,go_sem,↓reduceIte]
   refine goJ (hJ (n+t.length+bV v) Heap.emp ⟨by omega,rfl⟩) (by simp (disch:=first|omega|assumption) only [go_sem,↓reduceIte])
 ·rintro done x rest n H J hd hlt _ ⟨hn,rfl⟩ hJ
  have hg:=cVs_get hd
  have hbm:=bVs_mid done x rest
  rw [← hd] at hbm
  simp only [bVs] at hn
  simp (disch:=first|omega|assumption) only [cV_len,cV_take,cV_splice,cM_len,cM_take,cM_splice,cM_mk,hl,hlt,hg,go_sem,↓reduceIte]
  refine goK_pure (ihl x (by rw [hd];simp) (by simp only [Lim];omega)) ?_
  simp (disch:=first|omega|assumption) only [wrap64,go_sem,↓reduceIte]
  refine goJ (hJ (n+bV x) Heap.emp ⟨by omega,rfl⟩) (by simp (disch:=first|omega|assumption) only [go_sem,↓reduceIte])
noncomputable def eqd {α:Type} (a b:α):Bool:=@decide (a=b) (Classical.propDecidable _)
theorem eqd_true {α:Type} {a b:α} (h:a=b):eqd a b=true:=by simp [eqd,h]
theorem eqd_false {α:Type} {a b:α} (h:a≠b):eqd a b=false:=by simp [eqd,h]
def cT (l:List (List UInt8)):List (List AV):=l.map fun k=>[.str k]
theorem cT_len (l:List (List UInt8)):(cT l).length=l.length:=by simp [cT]
theorem cT_get {l a:List (List UInt8)} {x:List UInt8} {b:List (List UInt8)} (h:l=a++x :: b):(cT l).getD a.length []=[.str x]:=getD_mid' h
theorem two_mid {α:Type} {a b done rest:List α} {x:α} (h:a=done++x :: rest) (hl:a.length=b.length) (hp:b.take done.length=done):∃ y r,b=done++y :: r:=by
 have h1:done.length<b.length:=by rw [← hl,h];simp
 refine ⟨b[done.length],b.drop (done.length+1),?_⟩
 conv=>lhs;rw [← List.take_append_drop done.length b,hp,List.drop_eq_getElem_cons h1]
theorem two_step {α:Type} {b done r:List α} {y:α} (h:b=done++y :: r):b.take (done++[y]).length=done++[y]:=by
 subst h
 have e:done++y :: r=(done++[y])++r:=by simp
 rw [e,List.take_left'];rfl
theorem two_end {α:Type} {a b:List α} (hl:a.length=b.length) (hp:b.take a.length=a):a=b:=by
 rw [hl,List.take_length] at hp;exact hp.symm
theorem two_ne {α:Type} {a b done rest r:List α} {x y:α} (h:a=done++x :: rest) (h':b=done++y :: r) (hxy:x≠y):a≠b:=fun e=>by
 rw [h,h'] at e
 exact hxy (List.cons.inj (List.append_cancel_left e)).1
end Go.Proofs.YticbbfbpeimkbaaGreatDoor
namespace Go.Proofs.YticbbfbpeimkbaaGreatDoor
open Go.Ab
mutual
def depthV:Val→Int
 | .mk k _ _ l m=>if k=6 then depthVs l 0+1 else if k=7 then depthMs m 0+1 else 0
def depthVs:List Val→Int→Int
 | [],n=>n
 | v :: r,n=>depthVs r (mm2 true n (depthV v))
def depthM:Mem→Int
 | .mk _ v=>depthV v
def depthMs:List Mem→Int→Int
 | [],n=>n
 | x :: r,n=>depthMs r (mm2 true n (depthM x))
end
theorem mm2_ge (a b:Int):a≤mm2 true a b:=by simp only [mm2,if_true];split<;>omega
mutual
theorem depthV_le:∀ v,0≤depthV v∧depthV v≤bV v
 | .mk k n s l m=>by
  have h1:=depthVs_le l 0
  have h2:=depthMs_le m 0
  simp only [depthV,bV]
  split
  ·omega
  ·split<;>omega
theorem depthVs_le:∀ l (n:Int),n≤depthVs l n∧(depthVs l n≤n∨depthVs l n≤bVs l)
 | [],n=>by simp [depthVs,bVs]
 | v :: r,n=>by
  have h1:=depthV_le v
  have h2:=depthVs_le r (mm2 true n (depthV v))
  have h3:=mm2_ge n (depthV v)
  have h4:mm2 true n (depthV v)=n∨mm2 true n (depthV v)=depthV v:=by simp only [mm2,if_true];split<;>simp
  simp only [depthVs,bVs]
  omega
theorem depthM_le:∀ x,0≤depthM x∧depthM x≤bM x
 | .mk s v=>by have:=depthV_le v;simp only [depthM,bM];omega
theorem depthMs_le:∀ l (n:Int),n≤depthMs l n∧(depthMs l n≤n∨depthMs l n≤bMs l)
 | [],n=>by simp [depthMs,bMs]
 | v :: r,n=>by
  have h1:=depthM_le v
  have h2:=depthMs_le r (mm2 true n (depthM v))
  have h3:=mm2_ge n (depthM v)
  have h4:mm2 true n (depthM v)=n∨mm2 true n (depthM v)=depthM v:=by simp only [mm2,if_true];split<;>simp
  simp only [depthMs,bMs]
  omega
end
theorem depthC:∀ v,bV v≤Lim→Pure Tryz.prog 116 [.agg (cV v)] (.int .i64 (depthV v)):=by
 refine Val.ind fun k n s l m ihl ihm hb=>?_
 refine Pure.go ir116 ck116 (Nat.le_refl _) fun KP Q hQ=>?_
 have hl:=cVs_len l
 have hm:=cMs_len m
 have hll:=bVs_len l
 have hml:=bMs_len m
 have hb':1+s.length+bVs l+bMs m≤Lim:=hb
 simp only [Lim] at hb'
 have d1:=depthVs_le l 0
 have d2:=depthMs_le m 0
 by_cases k6:k=6
 ·subst k6
  simp (disch:=first|omega|assumption) only [ir116,cV_mk,hl,go_sem,↓reduceIte]
  refine goL_range l 15 (fun n:Int=>[(3,.int .i64 n)]) (fun done rest n H=>depthVs rest n=depthVs l 0) 0 (by simp (disch:=first|omega|assumption) only [go_sem,↓reduceIte]) rfl ?_ ?_
  ·rintro n H J hn hlt
   simp only [depthVs] at hn
   simp (disch:=first|omega|assumption) only [hl,hlt,wrap64,hn,go_sem,↓reduceIte]
   exact hQ _ _ _ _ nofun rfl (by simp [tupOf,envOf,AV.strip,AV.strip1,depthV])
  ·rintro done x rest n H J hd hlt _ hn hJ
   have hg:=cVs_get hd
   have hbm:=bVs_mid done x rest
   rw [← hd] at hbm
   simp only [depthVs] at hn
   simp (disch:=first|omega|assumption) only [cV_len,cV_take,cV_splice,cM_len,cM_take,cM_splice,cM_mk,hl,hlt,hg,go_sem,↓reduceIte]
   refine goA_intro fun b hb=>?_
   simp (disch:=first|omega|assumption) only [cV_len,cV_take,cV_splice,cM_len,cM_take,cM_splice,cM_mk,go_sem,↓reduceIte]
   refine goK_pure (ihl x (by rw [hd];simp) (by simp only [Lim];omega)) ?_
   simp (disch:=first|omega|assumption) only [wrap64,go_sem,↓reduceIte]
   exact goJ (hJ _ _ hn) (by simp (disch:=first|omega|assumption) only [go_sem,↓reduceIte])
 by_cases k7:k=7
 ·subst k7
  simp (disch:=first|omega|assumption) only [ir116,cV_mk,hm,go_sem,↓reduceIte]
  refine goL_range m 29 (fun n:Int=>[(3,.int .i64 n)]) (fun done rest n H=>depthMs rest n=depthMs m 0) 0 (by simp (disch:=first|omega|assumption) only [go_sem,↓reduceIte]) rfl ?_ ?_
  ·rintro n H J hn hlt
   simp only [depthMs] at hn
   simp (disch:=first|omega|assumption) only [hm,hlt,wrap64,hn,go_sem,↓reduceIte]
   exact hQ _ _ _ _ nofun rfl (by simp [tupOf,envOf,AV.strip,AV.strip1,depthV])
  ·rintro done x rest n H J hd hlt _ hn hJ
   have hg:=cMs_get hd
   have hbm:=bMs_mid done x rest
   rw [← hd] at hbm
   cases x with
   | mk t v =>
   simp only [depthMs,depthM,bM] at hn hbm
   simp (disch:=first|omega|assumption) only [cV_len,cV_take,cV_splice,cM_len,cM_take,cM_splice,cM_mk,hm,hlt,hg,go_sem,↓reduceIte]
   refine goA_intro fun b hb=>?_
   simp (disch:=first|omega|assumption) only [cV_len,cV_take,cV_splice,cM_len,cM_take,cM_splice,cM_mk,go_sem,↓reduceIte]
   refine goK_pure (ihm t v (by rw [hd];simp) (by simp only [Lim];omega)) ?_
   simp (disch:=first|omega|assumption) only [wrap64,go_sem,↓reduceIte]
   exact goJ (hJ _ _ hn) (by simp (disch:=first|omega|assumption) only [go_sem,↓reduceIte])
 ·simp (disch:=first|omega|assumption) only [ir116,cV_mk,k6,k7,go_sem,↓reduceIte]
  exact hQ _ _ _ _ nofun rfl (by simp [tupOf,envOf,AV.strip,AV.strip1,depthV,k6,k7])
def zV:Val:=.mk 0 0 [] [] []
theorem intP (n:Int):Pure Tryz.prog 177 [.int .i64 n] (.agg (cV (.mk 2 n [] [] []))):=by
 refine Pure.go ir177 ck177 (Nat.le_refl _) fun KP Q hQ=>?_
 simp (disch:=first|omega|assumption) only [ir177,go_sem,↓reduceIte]
 refine goA_intro fun b hb=>?_
 simp (disch:=first|omega|assumption) only [go_sem,↓reduceIte]
 exact hQ _ _ _ [.agg [.int .i64 2,.int .i64 n,.str [],.sl .nil 5 [],.sl .nil 6 []]] nofun (by simp (disch:=first|omega|assumption) only [ir177,resvs,resv,go_sem,↓reduceIte]) rfl
theorem textP (t:List UInt8):Pure Tryz.prog 178 [.str t] (.agg (cV (.mk 4 0 t [] []))):=by
 refine Pure.go ir178 ck178 (Nat.le_refl _) fun KP Q hQ=>?_
 simp (disch:=first|omega|assumption) only [ir178,go_sem,↓reduceIte]
 refine goA_intro fun b hb=>?_
 simp (disch:=first|omega|assumption) only [go_sem,↓reduceIte]
 exact hQ _ _ _ [.agg [.int .i64 4,.int .i64 0,.str t,.sl .nil 5 [],.sl .nil 6 []]] nofun (by simp (disch:=first|omega|assumption) only [ir178,resvs,resv,go_sem,↓reduceIte]) rfl
end Go.Proofs.YticbbfbpeimkbaaGreatDoor
