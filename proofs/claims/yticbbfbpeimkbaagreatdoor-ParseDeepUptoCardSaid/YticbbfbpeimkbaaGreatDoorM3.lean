/- Texts joined: Shelf Lib Row Ir Dat Val ValB Sam ValC ValD Num NumB NumC ValE RowJ RowV Doc Jm Jn Pm Ta Sep LibB. -/
import Derived.Shelf.Strings.Builder1
import Derived.Shelf.Strings.Builder2
import Derived.Shelf.Strings.OnBuilder
import Derived.Shelf.Small.Utf8
import Derived.Shelf.Small.Strs
import Derived.Shelf.Small.Wraps
import Derived.Shelf.Strings.BuilderF
import Derived.Shelf.Strings.BuilderK
import Derived.Shelf.Utf8.AppendRune
import Derived.Shelf.Strconv.Itoa0
import Derived.Shelf.Strconv.Itoa1
import Derived.Shelf.LaysM
import Derived.Shelf.Strconv.Itoa2
import Derived.Shelf.Strconv.Itoa3
import Derived.Shelf.Strconv.Itoa4
import Derived.Shelf.Strconv.ParseIntEmpty
import Derived.Shelf.Strconv.Clone
import Derived.Shelf.Strconv.SyntaxError
import Derived.Shelf.LaysC
import Derived.Shelf.Strconv.ToError
import Derived.Shelf.Strconv.Lower
import Derived.Shelf.Strconv.ParseUint10
import Derived.Shelf.Strconv.ParseUint10Empty
import Derived.Shelf.Strconv.ParseUint10Any
import Derived.Shelf.Strconv.ParseInt10
import Derived.Shelf.Strconv.RangeError
import Derived.Shelf.Strconv.ToErrorRange
import Derived.Shelf.Strconv.ParseUintEmpty
import Derived.Shelf.Strconv.ParseUint10b64
import Derived.Shelf.Strconv.ParseUint10b32
import Derived.Shelf.Strconv.ParseUint10b16
import Derived.Shelf.Strconv.ParseUint10b8
import Derived.Shelf.Strconv.ParseUint10At
import Derived.Shelf.Strconv.ParseInt10At64
import Derived.Shelf.Strconv.ParseInt10At32
import Derived.Shelf.Strconv.ParseInt10At16
import Derived.Shelf.Strconv.ParseInt10At8
import Derived.Shelf.Strconv.ParseInt10All
import Derived.Shelf.Strconv.ParseIntPublic10
import Derived.Shelf.Strconv.ErrVarParseInt
import Derived.Shelf.Strings.Search1
import Derived.Shelf.Strings.Search2
import Derived.Shelf.Strings.Search3
import Derived.Shelf.Strings.Shaped
import Derived.Shelf.Strings.Prefix
import Derived.Shelf.Unicode.Decode
import Derived.Shelf.Strings.Runes
import Derived.Shelf.Strings.IndexAny
import Derived.Shelf.Strings.AsciiSet
import Derived.Shelf.Strings.IndexAnyAll
import Derived.Shelf.Bits.Mul64
import Derived.Shelf.Unicode.DecodeSlow
import Derived.Shelf.Unicode.DecodeAny
import Derived.Test.YticbbfbpeimkbaaGreatDoorProg
import Derived.Shelf.Unicode.ValidAny
import Derived.Test.YticbbfbpeimkbaaGreatDoorCards
import Derived.Test.YticbbfbpeimkbaaGreatDoorTie
import Derived.Lib.LaidIn
import Derived.Lib.LaidU8T
import Derived.Lib.LaidTab
import Derived.Deep.DeepHandedRow
import Derived.Deep.DeepWitnessRowRef
import Derived.ProofKit
import Derived.SizedLaws
import Derived.OpenShut
import Derived.Test.YticbbfbpeimkbaaGreatDoorRows
import Derived.JoinedOf
import Derived.Lib.ItoaMem
import Derived.Lib.ItoaLen
import Derived.Test.YticbbfbpeimkbaaGreatDoorM1
import Derived.Test.YticbbfbpeimkbaaGreatDoorM2
set_option maxRecDepth 100000
set_option linter.unusedSimpArgs false
set_option linter.unusedVariables false
namespace Go.Proofs
open Go.Shelf
def Tryz.lays156_ren:Go.Shelf.Ren:=⟨fun|156=>121|165=>213|166=>214|169=>215|240=>273|241=>274|276=>318|277=>319|n=>n,fun|31=>73|9=>9|3=>3|4=>4|0=>0|20=>20|72=>222|76=>226|70=>220|37=>213|75=>225|127=>259|164=>290|5=>5|80=>137|n=>n,fun|n=>n⟩
theorem Tryz.lays156:Go.Proofs.Lays.n156 Tryz.prog Tryz.lays156_ren:={
 mixed:=by kernel_rfl
 f156:=Tryz.func121.trans (congrArg some (by kernel_rfl))
 f165:=Tryz.func213.trans (congrArg some (by kernel_rfl))
 f166:=Tryz.func214.trans (congrArg some (by kernel_rfl))
 f169:=Tryz.func215.trans (congrArg some (by kernel_rfl))
 f240:=Tryz.func273.trans (congrArg some (by kernel_rfl))
 f241:=Tryz.func274.trans (congrArg some (by kernel_rfl))
 f276:=Tryz.func318.trans (congrArg some (by kernel_rfl))
 f277:=Tryz.func319.trans (congrArg some (by kernel_rfl))
 t0:=Tryz.underlying0
 a0:=Tryz.isAgg0
 z0:=Tryz.sizeOf0
 v0:=Tryz.zeroValue0
 t3:=Tryz.underlying3
 a3:=Tryz.isAgg3
 z3:=Tryz.sizeOf3
 v3:=Tryz.zeroValue3
 t4:=Tryz.underlying4
 a4:=Tryz.isAgg4
 z4:=Tryz.sizeOf4
 v4:=Tryz.zeroValue4
 t9:=Tryz.underlying9
 a9:=Tryz.isAgg9
 z9:=Tryz.sizeOf9
 v9:=Tryz.zeroValue9
 t20:=Tryz.underlying20
 a20:=Tryz.isAgg20
 z20:=Tryz.sizeOf20
 v20:=Tryz.zeroValue20
 t31:=Tryz.underlying73
 a31:=Tryz.isAgg73
 z31:=Tryz.sizeOf73
 v31:=Tryz.zeroValue73
 t37:=Tryz.underlying213
 a37:=Tryz.isAgg213
 z37:=Tryz.sizeOf213
 v37:=Tryz.zeroValue213
 t70:=Tryz.underlying220
 a70:=Tryz.isAgg220
 z70:=Tryz.sizeOf220
 v70:=Tryz.zeroValue220
 t72:=Tryz.underlying222
 a72:=Tryz.isAgg222
 z72:=Tryz.sizeOf222
 v72:=Tryz.zeroValue222
 t75:=Tryz.underlying225
 a75:=Tryz.isAgg225
 z75:=Tryz.sizeOf225
 v75:=Tryz.zeroValue225
 t76:=Tryz.underlying226
 a76:=Tryz.isAgg226
 z76:=Tryz.sizeOf226
 v76:=Tryz.zeroValue226
 t127:=Tryz.underlying259
 a127:=Tryz.isAgg259
 z127:=Tryz.sizeOf259
 v127:=Tryz.zeroValue259
 t164:=Tryz.underlying290
 a164:=Tryz.isAgg290
 z164:=Tryz.sizeOf290
 v164:=Tryz.zeroValue290 }
def Tryz.lays137_ren:Go.Shelf.Ren:=⟨fun|137=>222|217=>283|266=>328|n=>n,fun|9=>9|5=>5|3=>3|n=>n,fun|n=>n⟩
theorem Tryz.lays137:Go.Proofs.Lays.n137 Tryz.prog Tryz.lays137_ren:={
 mixed:=by kernel_rfl
 f137:=Tryz.func222.trans (congrArg some (by kernel_rfl))
 f217:=Tryz.func283.trans (congrArg some (by kernel_rfl))
 f266:=Tryz.func328.trans (congrArg some (by kernel_rfl))
 t3:=Tryz.underlying3
 a3:=Tryz.isAgg3
 z3:=Tryz.sizeOf3
 v3:=Tryz.zeroValue3
 t5:=Tryz.underlying5
 a5:=Tryz.isAgg5
 z5:=Tryz.sizeOf5
 v5:=Tryz.zeroValue5
 t9:=Tryz.underlying9
 a9:=Tryz.isAgg9
 z9:=Tryz.sizeOf9
 v9:=Tryz.zeroValue9 }
def Tryz.laysC174_ren:Go.Shelf.Ren:=⟨fun|174=>260|247=>306|245=>307|287=>334|279=>335|280=>336|281=>337|282=>338|321=>348|322=>349|316=>350|171=>352|205=>351|243=>357|246=>270|283=>312|284=>313|285=>314|286=>315|129=>340|317=>339|318=>341|319=>342|320=>343|337=>353|338=>354|n=>n,fun|9=>9|3=>3|2=>2|75=>225|85=>254|4=>4|167=>302|5=>5|53=>271|175=>303|46=>173|168=>305|37=>213|0=>0|210=>315|21=>21|127=>259|145=>321|143=>319|171=>285|173=>288|212=>309|51=>268|20=>20|213=>310|232=>322|233=>323|80=>137|n=>n,fun|15=>4|16=>5|17=>2|18=>6|19=>7|n=>n⟩
theorem Tryz.laysC174:Go.Proofs.LaysC.n174 Tryz.prog Tryz.laysC174_ren:={
 mixed:=by kernel_rfl
 f129:=Tryz.func340.trans (congrArg some (by kernel_rfl))
 f171:=Tryz.func352.trans (congrArg some (by kernel_rfl))
 f174:=Tryz.func260.trans (congrArg some (by kernel_rfl))
 f205:=Tryz.func351.trans (congrArg some (by kernel_rfl))
 f243:=Tryz.func357.trans (congrArg some (by kernel_rfl))
 f245:=Tryz.func307.trans (congrArg some (by kernel_rfl))
 f246:=Tryz.func270.trans (congrArg some (by kernel_rfl))
 f247:=Tryz.func306.trans (congrArg some (by kernel_rfl))
 f279:=Tryz.func335.trans (congrArg some (by kernel_rfl))
 f280:=Tryz.func336.trans (congrArg some (by kernel_rfl))
 f281:=Tryz.func337.trans (congrArg some (by kernel_rfl))
 f282:=Tryz.func338.trans (congrArg some (by kernel_rfl))
 f283:=Tryz.func312.trans (congrArg some (by kernel_rfl))
 f284:=Tryz.func313.trans (congrArg some (by kernel_rfl))
 f285:=Tryz.func314.trans (congrArg some (by kernel_rfl))
 f286:=Tryz.func315.trans (congrArg some (by kernel_rfl))
 f287:=Tryz.func334.trans (congrArg some (by kernel_rfl))
 f316:=Tryz.func350.trans (congrArg some (by kernel_rfl))
 f317:=Tryz.func339.trans (congrArg some (by kernel_rfl))
 f318:=Tryz.func341.trans (congrArg some (by kernel_rfl))
 f319:=Tryz.func342.trans (congrArg some (by kernel_rfl))
 f320:=Tryz.func343.trans (congrArg some (by kernel_rfl))
 f321:=Tryz.func348.trans (congrArg some (by kernel_rfl))
 f322:=Tryz.func349.trans (congrArg some (by kernel_rfl))
 f337:=Tryz.func353.trans (congrArg some (by kernel_rfl))
 f338:=Tryz.func354.trans (congrArg some (by kernel_rfl))
 t0:=Tryz.underlying0
 a0:=Tryz.isAgg0
 z0:=Tryz.sizeOf0
 v0:=Tryz.zeroValue0
 t2:=Tryz.underlying2
 a2:=Tryz.isAgg2
 z2:=Tryz.sizeOf2
 v2:=Tryz.zeroValue2
 t3:=Tryz.underlying3
 a3:=Tryz.isAgg3
 z3:=Tryz.sizeOf3
 v3:=Tryz.zeroValue3
 t4:=Tryz.underlying4
 a4:=Tryz.isAgg4
 z4:=Tryz.sizeOf4
 v4:=Tryz.zeroValue4
 t5:=Tryz.underlying5
 a5:=Tryz.isAgg5
 z5:=Tryz.sizeOf5
 v5:=Tryz.zeroValue5
 t9:=Tryz.underlying9
 a9:=Tryz.isAgg9
 z9:=Tryz.sizeOf9
 v9:=Tryz.zeroValue9
 t20:=Tryz.underlying20
 a20:=Tryz.isAgg20
 z20:=Tryz.sizeOf20
 v20:=Tryz.zeroValue20
 t21:=Tryz.underlying21
 a21:=Tryz.isAgg21
 z21:=Tryz.sizeOf21
 v21:=Tryz.zeroValue21
 t37:=Tryz.underlying213
 a37:=Tryz.isAgg213
 z37:=Tryz.sizeOf213
 v37:=Tryz.zeroValue213
 t46:=Tryz.underlying173
 a46:=Tryz.isAgg173
 z46:=Tryz.sizeOf173
 v46:=Tryz.zeroValue173
 t51:=Tryz.underlying268
 a51:=Tryz.isAgg268
 z51:=Tryz.sizeOf268
 v51:=Tryz.zeroValue268
 t53:=Tryz.underlying271
 a53:=Tryz.isAgg271
 z53:=Tryz.sizeOf271
 v53:=Tryz.zeroValue271
 t75:=Tryz.underlying225
 a75:=Tryz.isAgg225
 z75:=Tryz.sizeOf225
 v75:=Tryz.zeroValue225
 t85:=Tryz.underlying254
 a85:=Tryz.isAgg254
 z85:=Tryz.sizeOf254
 v85:=Tryz.zeroValue254
 t127:=Tryz.underlying259
 a127:=Tryz.isAgg259
 z127:=Tryz.sizeOf259
 v127:=Tryz.zeroValue259
 t143:=Tryz.underlying319
 a143:=Tryz.isAgg319
 z143:=Tryz.sizeOf319
 v143:=Tryz.zeroValue319
 t145:=Tryz.underlying321
 a145:=Tryz.isAgg321
 z145:=Tryz.sizeOf321
 v145:=Tryz.zeroValue321
 t167:=Tryz.underlying302
 a167:=Tryz.isAgg302
 z167:=Tryz.sizeOf302
 v167:=Tryz.zeroValue302
 t168:=Tryz.underlying305
 a168:=Tryz.isAgg305
 z168:=Tryz.sizeOf305
 v168:=Tryz.zeroValue305
 t171:=Tryz.underlying285
 a171:=Tryz.isAgg285
 z171:=Tryz.sizeOf285
 v171:=Tryz.zeroValue285
 t173:=Tryz.underlying288
 a173:=Tryz.isAgg288
 z173:=Tryz.sizeOf288
 v173:=Tryz.zeroValue288
 t175:=Tryz.underlying303
 a175:=Tryz.isAgg303
 z175:=Tryz.sizeOf303
 v175:=Tryz.zeroValue303
 t210:=Tryz.underlying315
 a210:=Tryz.isAgg315
 z210:=Tryz.sizeOf315
 v210:=Tryz.zeroValue315
 t212:=Tryz.underlying309
 a212:=Tryz.isAgg309
 z212:=Tryz.sizeOf309
 v212:=Tryz.zeroValue309
 t213:=Tryz.underlying310
 a213:=Tryz.isAgg310
 z213:=Tryz.sizeOf310
 t232:=Tryz.underlying322
 a232:=Tryz.isAgg322
 z232:=Tryz.sizeOf322
 v232:=Tryz.zeroValue322
 t233:=Tryz.underlying323
 a233:=Tryz.isAgg323
 z233:=Tryz.sizeOf323
 v233:=Tryz.zeroValue323
 g15:=by kernel_rfl
 g16:=by kernel_rfl
 g17:=by kernel_rfl
 g18:=by kernel_rfl
 g19:=by kernel_rfl
 t80:=Tryz.underlying137
 a80:=Tryz.isAgg137
 z80:=Tryz.sizeOf137
 v80:=Tryz.zeroValue137
 i0:=by kernel_rfl
 i2:=by kernel_rfl
 i3:=by kernel_rfl
 i4:=by kernel_rfl
 i5:=by kernel_rfl
 i9:=by kernel_rfl
 i20:=by kernel_rfl
 i21:=by kernel_rfl
 i37:=by kernel_rfl
 i46:=by kernel_rfl
 i51:=by kernel_rfl
 i53:=by kernel_rfl
 i75:=by kernel_rfl
 i80:=by kernel_rfl
 i85:=by kernel_rfl
 i127:=by kernel_rfl
 i143:=by kernel_rfl
 i145:=by kernel_rfl
 i167:=by kernel_rfl
 i168:=by kernel_rfl
 i171:=by kernel_rfl
 i173:=by kernel_rfl
 i175:=by kernel_rfl
 i210:=by kernel_rfl
 i212:=by kernel_rfl
 i232:=by kernel_rfl
 i233:=by kernel_rfl
 m15:=by kernel_rfl
 m16:=by kernel_rfl
 m17:=by kernel_rfl
 m18:=by kernel_rfl
 m19:=by kernel_rfl
 c0:=by kernel_rfl
 c2:=by kernel_rfl
 c3:=by kernel_rfl
 c4:=by kernel_rfl
 c5:=by kernel_rfl
 c9:=by kernel_rfl
 c20:=by kernel_rfl
 c21:=by kernel_rfl
 c37:=by kernel_rfl
 c46:=by kernel_rfl
 c51:=by kernel_rfl
 c53:=by kernel_rfl
 c75:=by kernel_rfl
 c80:=by kernel_rfl
 c85:=by kernel_rfl
 c127:=by kernel_rfl
 c143:=by kernel_rfl
 c145:=by kernel_rfl
 c167:=by kernel_rfl
 c168:=by kernel_rfl
 c171:=by kernel_rfl
 c173:=by kernel_rfl
 c175:=by kernel_rfl
 c210:=by kernel_rfl
 c212:=by kernel_rfl
 c213:=by kernel_rfl
 c232:=by kernel_rfl
 c233:=by kernel_rfl }
def Tryz.lays99_ren:Go.Shelf.Ren:=⟨fun|99=>217|206=>275|n=>n,fun|9=>9|4=>4|3=>3|n=>n,fun|n=>n⟩
theorem Tryz.lays99:Go.Proofs.Lays.n99 Tryz.prog Tryz.lays99_ren:={
 mixed:=by kernel_rfl
 f99:=Tryz.func217.trans (congrArg some (by kernel_rfl))
 f206:=Tryz.func275.trans (congrArg some (by kernel_rfl))
 t3:=Tryz.underlying3
 a3:=Tryz.isAgg3
 z3:=Tryz.sizeOf3
 v3:=Tryz.zeroValue3
 t4:=Tryz.underlying4
 a4:=Tryz.isAgg4
 z4:=Tryz.sizeOf4
 v4:=Tryz.zeroValue4
 t9:=Tryz.underlying9
 a9:=Tryz.isAgg9
 z9:=Tryz.sizeOf9
 v9:=Tryz.zeroValue9 }
def Tryz.lays153_ren:Go.Shelf.Ren:=⟨fun|153=>218|152=>276|226=>277|227=>278|228=>279|137=>222|119=>320|224=>321|225=>322|217=>283|266=>328|n=>n,fun|9=>9|3=>3|4=>4|5=>5|21=>21|117=>263|116=>262|0=>0|46=>173|124=>295|n=>n,fun|n=>n⟩
theorem Tryz.lays153:Go.Proofs.Lays.n153 Tryz.prog Tryz.lays153_ren:={
 mixed:=by kernel_rfl
 f119:=Tryz.func320.trans (congrArg some (by kernel_rfl))
 f137:=Tryz.func222.trans (congrArg some (by kernel_rfl))
 f152:=Tryz.func276.trans (congrArg some (by kernel_rfl))
 f153:=Tryz.func218.trans (congrArg some (by kernel_rfl))
 f217:=Tryz.func283.trans (congrArg some (by kernel_rfl))
 f224:=Tryz.func321.trans (congrArg some (by kernel_rfl))
 f225:=Tryz.func322.trans (congrArg some (by kernel_rfl))
 f226:=Tryz.func277.trans (congrArg some (by kernel_rfl))
 f227:=Tryz.func278.trans (congrArg some (by kernel_rfl))
 f228:=Tryz.func279.trans (congrArg some (by kernel_rfl))
 f266:=Tryz.func328.trans (congrArg some (by kernel_rfl))
 t0:=Tryz.underlying0
 a0:=Tryz.isAgg0
 z0:=Tryz.sizeOf0
 v0:=Tryz.zeroValue0
 t3:=Tryz.underlying3
 a3:=Tryz.isAgg3
 z3:=Tryz.sizeOf3
 v3:=Tryz.zeroValue3
 t4:=Tryz.underlying4
 a4:=Tryz.isAgg4
 z4:=Tryz.sizeOf4
 v4:=Tryz.zeroValue4
 t5:=Tryz.underlying5
 a5:=Tryz.isAgg5
 z5:=Tryz.sizeOf5
 v5:=Tryz.zeroValue5
 t9:=Tryz.underlying9
 a9:=Tryz.isAgg9
 z9:=Tryz.sizeOf9
 v9:=Tryz.zeroValue9
 t21:=Tryz.underlying21
 a21:=Tryz.isAgg21
 z21:=Tryz.sizeOf21
 v21:=Tryz.zeroValue21
 t46:=Tryz.underlying173
 a46:=Tryz.isAgg173
 z46:=Tryz.sizeOf173
 v46:=Tryz.zeroValue173
 t116:=Tryz.underlying262
 a116:=Tryz.isAgg262
 z116:=Tryz.sizeOf262
 t117:=Tryz.underlying263
 a117:=Tryz.isAgg263
 z117:=Tryz.sizeOf263
 v117:=Tryz.zeroValue263
 t124:=Tryz.underlying295
 a124:=Tryz.isAgg295
 z124:=Tryz.sizeOf295
 v124:=Tryz.zeroValue295 }
def Tryz.lays197_ren:Go.Shelf.Ren:=⟨fun|197=>272|260=>317|n=>n,fun|9=>9|21=>21|3=>3|4=>4|5=>5|105=>257|119=>281|0=>0|46=>173|139=>284|138=>283|n=>n,fun|3=>0|4=>1|n=>n⟩
theorem Tryz.lays197:Go.Proofs.Lays.n197 Tryz.prog Tryz.lays197_ren:={
 mixed:=by kernel_rfl
 f197:=Tryz.func272.trans (congrArg some (by kernel_rfl))
 f260:=Tryz.func317.trans (congrArg some (by kernel_rfl))
 t0:=Tryz.underlying0
 a0:=Tryz.isAgg0
 z0:=Tryz.sizeOf0
 v0:=Tryz.zeroValue0
 t3:=Tryz.underlying3
 a3:=Tryz.isAgg3
 z3:=Tryz.sizeOf3
 v3:=Tryz.zeroValue3
 t4:=Tryz.underlying4
 a4:=Tryz.isAgg4
 z4:=Tryz.sizeOf4
 v4:=Tryz.zeroValue4
 t5:=Tryz.underlying5
 a5:=Tryz.isAgg5
 z5:=Tryz.sizeOf5
 v5:=Tryz.zeroValue5
 t9:=Tryz.underlying9
 a9:=Tryz.isAgg9
 z9:=Tryz.sizeOf9
 v9:=Tryz.zeroValue9
 t21:=Tryz.underlying21
 a21:=Tryz.isAgg21
 z21:=Tryz.sizeOf21
 v21:=Tryz.zeroValue21
 t46:=Tryz.underlying173
 a46:=Tryz.isAgg173
 z46:=Tryz.sizeOf173
 v46:=Tryz.zeroValue173
 t105:=Tryz.underlying257
 a105:=Tryz.isAgg257
 z105:=Tryz.sizeOf257
 v105:=Tryz.zeroValue257
 t119:=Tryz.underlying281
 a119:=Tryz.isAgg281
 z119:=Tryz.sizeOf281
 t138:=Tryz.underlying283
 a138:=Tryz.isAgg283
 z138:=Tryz.sizeOf283
 v138:=Tryz.zeroValue283
 t139:=Tryz.underlying284
 a139:=Tryz.isAgg284
 z139:=Tryz.sizeOf284
 v139:=Tryz.zeroValue284
 g3:=by kernel_rfl
 g4:=by kernel_rfl }
open Go.RowKit in
theorem Tryz.strings_IndexByte (s:ByteArray) (c:Int) (w:World) :
  Calls Tryz.prog 222 #[.string s,.int .u8 c] w fun e w'=>e=.returned (.int .i64 (Lib.indexByte s.data.toList c.toNat.toUInt8))∧w'=w:=Any.strings_IndexByte Tryz.lays137 s c w
open Go.RowKit in
theorem Tryz.strconv_ParseInt_10_at64_ok (s:ByteArray) (hmax:s.size≤9223372036854775806) (v:Int) (h:Lib.parseIntB 64 s.data.toList=.ok v) (w:World) :
  Calls Tryz.prog 260 #[.string s,.int .i64 10,.int .i64 64] w fun e w'=>e=.returned (.tuple #[.int .i64 v,.nilIface])∧(w'=w∨∃ t,w'=Lib.bytesWorld w 5 t):=Any.strconv_ParseInt_10_at64_ok Tryz.laysC174 s hmax v h w
open Go.RowKit in
theorem Tryz.strconv_ParseInt_10_at64_syntax (s:ByteArray) (hlim:s.size≤281474976710656) (h:Lib.parseIntB 64 s.data.toList=Lib.NumEnd.syntax) (ev:Value) (w:World) (hv:w.cell? ⟨4,0,none⟩=some ev) (hev:ev=.nilIface∨∃ te pe,ev=.iface te pe) :
  Calls Tryz.prog 260 #[.string s,.int .i64 10,.int .i64 64] w fun e w'=>∃ N,e=.returned (.tuple #[.int .i64 (0),.iface 305 (.pointer (some ⟨N,0,none⟩))])∧w.heap.size≤N∧w'.heap[N]?=some (.cells #[.string ⟨#[80,97,114,115,101,73,110,116]⟩,.string s,ev] 315 (0,0))∧Below w.heap.size w w':=Any.strconv_ParseInt_10_at64_syntax Tryz.laysC174 s hlim h ev w hv hev
open Go.RowKit in
theorem Tryz.strconv_ParseInt_10_at64_range (s:ByteArray) (hlim:s.size≤281474976710656) (h:Lib.parseIntB 64 s.data.toList=.range) (ev:Value) (w:World) (hv:w.cell? ⟨5,0,none⟩=some ev) (hev:ev=.nilIface∨∃ te pe,ev=.iface te pe) :
  Calls Tryz.prog 260 #[.string s,.int .i64 10,.int .i64 64] w fun e w'=>∃ N,e=.returned (.tuple #[.int .i64 (Lib.intSat 64 s.data.toList),.iface 305 (.pointer (some ⟨N,0,none⟩))])∧w.heap.size≤N∧w'.heap[N]?=some (.cells #[.string ⟨#[80,97,114,115,101,73,110,116]⟩,.string s,ev] 315 (0,0))∧Below w.heap.size w w':=Any.strconv_ParseInt_10_at64_range Tryz.laysC174 s hlim h ev w hv hev
open Go.RowKit Go.Lib in
theorem Tryz.strings_HasPrefix (s p:ByteArray) (w:World) :
  Calls Tryz.prog 217 #[.string s,.string p] w fun e w'=>e=.returned (.bool (Lib.hasPrefix s.data.toList p.data.toList))∧w'=w:=Any.strings_HasPrefix Tryz.lays99 s p w
open Go.RowKit Go.Lib in
theorem Tryz.strings_IndexAny_long (hv116:∀ w,(zeroValue 262).run Tryz.prog w=.ok (.agg (Array.replicate 256 (.bool false))) w) (s chars:ByteArray) (w:World) (h2:2≤chars.size) (h8:8<s.size) (hs:s.size<4294967281) (hcs:chars.size<4294967281) (hascii:∀ (j:Nat) b,chars.data.toList[j]?=some b→b.toNat<128) :
  Calls Tryz.prog 218 #[.string s,.string chars] w fun e w'=>e=.returned (.int .i64 (Lib.indexAny s.data.toList chars.data.toList))∧w'=((w.alloc (.cells (Lib.setCells chars.data.toList) 262)).alloc (.cells (Lib.setCells chars.data.toList) 262)):=Any.strings_IndexAny_long Tryz.lays153 hv116 (by kernel_rfl) s chars w h2 h8 hs hcs hascii
open Go.RowKit Go.Lib in
theorem Tryz.utf8_DecodeRuneInString (s:ByteArray) (w:World) (hT:Lib.Utf8Tabs 0 1 w) :
  Calls Tryz.prog 272 #[.string s] w fun e w'=>e=.returned (.tuple #[.int .i32 (Lib.decodeGo s).1,.int .i64 (Lib.decodeGo s).2])∧Below w.heap.size w w':=Any.utf8_DecodeRuneInString Tryz.lays197 s w hT
def Tryz.lays196_ren:Go.Shelf.Ren:=⟨fun|196=>268|259=>311|n=>n,fun|9=>9|4=>4|3=>3|5=>5|12=>12|119=>281|0=>0|46=>173|139=>284|138=>283|53=>271|n=>n,fun|3=>0|4=>1|n=>n⟩
theorem Tryz.lays196:Go.Proofs.Lays.n196 Tryz.prog Tryz.lays196_ren:={
 mixed:=by kernel_rfl
 f196:=Tryz.func268.trans (congrArg some (by kernel_rfl))
 f259:=Tryz.func311.trans (congrArg some (by kernel_rfl))
 t0:=Tryz.underlying0
 a0:=Tryz.isAgg0
 z0:=Tryz.sizeOf0
 v0:=Tryz.zeroValue0
 t3:=Tryz.underlying3
 a3:=Tryz.isAgg3
 z3:=Tryz.sizeOf3
 v3:=Tryz.zeroValue3
 t4:=Tryz.underlying4
 a4:=Tryz.isAgg4
 z4:=Tryz.sizeOf4
 v4:=Tryz.zeroValue4
 t5:=Tryz.underlying5
 a5:=Tryz.isAgg5
 z5:=Tryz.sizeOf5
 v5:=Tryz.zeroValue5
 t9:=Tryz.underlying9
 a9:=Tryz.isAgg9
 z9:=Tryz.sizeOf9
 v9:=Tryz.zeroValue9
 t12:=Tryz.underlying12
 a12:=Tryz.isAgg12
 z12:=Tryz.sizeOf12
 v12:=Tryz.zeroValue12
 t46:=Tryz.underlying173
 a46:=Tryz.isAgg173
 z46:=Tryz.sizeOf173
 v46:=Tryz.zeroValue173
 t53:=Tryz.underlying271
 a53:=Tryz.isAgg271
 z53:=Tryz.sizeOf271
 v53:=Tryz.zeroValue271
 t119:=Tryz.underlying281
 a119:=Tryz.isAgg281
 z119:=Tryz.sizeOf281
 t138:=Tryz.underlying283
 a138:=Tryz.isAgg283
 z138:=Tryz.sizeOf283
 v138:=Tryz.zeroValue283
 t139:=Tryz.underlying284
 a139:=Tryz.isAgg284
 z139:=Tryz.sizeOf284
 v139:=Tryz.zeroValue284
 g3:=by kernel_rfl
 g4:=by kernel_rfl }
end Go.Proofs
namespace Go.Proofs.YticbbfbpeimkbaaGreatDoor
open Go.Ab Go.RowKit Go.Sort Go.Lib
theorem ext_below {γ:Gh} {w w':World} (h:Below w.heap.size w w'):Ext (fun _=>False) γ w γ w':=by
 refine ⟨⟨h.size,fun b o v hc hp=>⟨hp,?_⟩,fun b arr E fr hb=>⟨arr,?_,rfl⟩⟩,h.os,h.output,fun a ha=>?_,fun b hb _=>⟨rfl,h.block b hb⟩⟩
 ·have hlt:=World.block_lt_of_cell? w _ hc
  unfold World.cell? at hc ⊢
  rw [h.block _ hlt];exact hc
 ·have hlt:=(Array.getElem?_eq_some_iff.1 hb).1
  rw [h.block b hlt];exact hb
 ·exact World.frozen?_of_block (h.block _ ha)
theorem Pure.of_below {P:Program} {f:FuncId} {args:List AV} {r:AV} (h:∀ (γ:Gh) (w:World) (vs:List Value),TabOk γ w→RepAll γ w args vs→Calls P f vs.toArray w fun e w'=>Below w.heap.size w w'∧∃ v,e=.returned v∧Rep γ w' r v):Pure P f args r:=by
 intro γ w vs ht _ hv
 refine (h γ w vs ht hv).mono fun e w' ⟨hw,v,he,hr⟩=>?_
 subst he
 exact ⟨γ,Heap.emp,.ret r,(ext_below hw).weaken fun _ f=>f.elim,fun b o hb=>by simp [Heap.emp] at hb,fun b hb=>by simp [Heap.emp] at hb,hr,rfl,rfl⟩
theorem below_bytes (w:World) (e:TypeId) (t:ByteArray):Below w.heap.size w (Lib.bytesWorld w e t):=by
 have h1:Below w.heap.size w (w.drew.alloc (.cells (bytesCells w e t) e)):=(Below.refl _ w).drew.alloc (Nat.le_refl _) _
 unfold Lib.bytesWorld World.freeze
 simp only [Nat.one_ne_zero,if_false]
 refine ⟨h1.os,h1.tape,h1.output,?_,fun i hi=>?_⟩
 ·rw [Array.size_modify];exact h1.size
 ·rw [Array.getElem?_modify]
  have:¬ (w.heap.size=i):=by omega
  simp only [this,if_false]
  exact h1.block i hi
theorem tab_at {γ:Gh} {w:World} (h:TabOk γ w) {i b:Nat} {ps:List (Value→Prop)} (hi:tabL[i]?=some (b,ps)) {j:Nat} {p:Value→Prop} (hj:ps[j]?=some p):∃ v,w.cell? ⟨b,j,none⟩=some v∧p v:=by
 obtain ⟨v,h1,h2⟩:=(h _ (List.mem_of_getElem? hi)).2 j p hj
 exact ⟨v,h1.1,h2⟩
theorem first_at:∀ c:Fin 256,Go.Pinned.utf8FirstZ[c.val]?=some (Lib.firstT c.val):=by decide +kernel
def accZ:List Nat:=[128,191,160,191,128,159,144,191,128,143,0,0,0,0,0,0,0,0,0,0,0,0,0,0,0,0,0,0,0,0,0,0]
theorem acc_at:∀ c:Fin 16,accZ[2*c.val]?=some (Lib.accLo c.val)∧accZ[2*c.val+1]?=some (Lib.accHi c.val):=by decide +kernel
theorem utf8Tabs {γ:Gh} {w:World} (h:TabOk γ w):Lib.Utf8Tabs 0 1 w:=by
 refine ⟨fun c hc=>?_,fun c hc=>?_⟩
 ·have hf:=first_at ⟨c,hc⟩
  obtain ⟨v,h1,h2⟩:=tab_at h (i:=0) rfl (j:=c) (p:=fun v=>v=.int .u8 (Lib.firstT c)) (by rw [List.getElem?_map,hf];rfl)
  rw [h1,h2]
 ·obtain ⟨g1,g2⟩:=acc_at ⟨c,hc⟩
  have hi:tabL[1]?=some (1,accZ.map fun (n:Nat) (v:Value)=>v=.int .u8 n):=rfl
  obtain ⟨v,h1,h2⟩:=tab_at h hi (j:=2*c) (p:=fun v=>v=.int .u8 (Lib.accLo c)) (by rw [List.getElem?_map,g1];rfl)
  obtain ⟨u,h3,h4⟩:=tab_at h hi (j:=2*c+1) (p:=fun v=>v=.int .u8 (Lib.accHi c)) (by rw [List.getElem?_map,g2];rfl)
  exact ⟨by rw [h1,h2],by rw [h3,h4]⟩
theorem arg_str {γ:Gh} {w:World} {s:List UInt8} {vs:List Value} (h:RepAll γ w [.str s] vs):vs=[.string ⟨s.toArray⟩]:=by
 obtain ⟨hl,hr⟩:=h
 match vs,hl with
 | [v],_=>cases hr 0 _ _ rfl rfl;rfl
theorem prefixC (s p:List UInt8):Pure Tryz.prog 217 [.str s,.str p] (.bool (p.isPrefixOf s)):=by
 refine Pure.of_below fun γ w vs ht hv=>?_
 obtain ⟨hl,hr⟩:=hv
 match vs,hl with
 | [v,u],_ =>
  cases hr 0 _ _ rfl rfl
  cases hr 1 _ _ rfl rfl
  exact (Tryz.strings_HasPrefix ⟨s.toArray⟩ ⟨p.toArray⟩ w).mono fun e w' ⟨he,hw⟩=>⟨by rw [hw];exact Below.refl _ _,_,he,.bool _⟩
theorem errRange_at {γ:Gh} {w:World} (h:TabOk γ w):∃ v,w.cell? ⟨5,0,none⟩=some v∧∃ te pe,v=.iface te pe:=tab_at h (i:=5) rfl (j:=0) rfl
theorem errSyntax_at {γ:Gh} {w:World} (h:TabOk γ w):∃ v,w.cell? ⟨4,0,none⟩=some v∧∃ te pe,v=.iface te pe:=tab_at h (i:=4) rfl (j:=0) rfl
def parseA (s:List UInt8):AV :=
 match Lib.parseIntB 64 s with
 | .ok v=>.tup [.int .i64 v,.oth .nilIface]
 | Lib.NumEnd.syntax=>.tup [.int .i64 0,.ifc 305 .any]
 | .range=>.tup [.int .i64 (Lib.intSat 64 s),.ifc 305 .any]
theorem rep_two {γ:Gh} {w:World} {a b:AV} {v u:Value} (h1:Rep γ w a v) (h2:Rep γ w b u):Rep γ w (.tup [a,b]) (.tuple #[v,u]):=.tup _ [v,u] rfl (RepAll.cons h1 (RepAll.cons h2 RepAll.nil)).2
theorem parseIntC (s:List UInt8) (hs:s.length≤281474976710656):Pure Tryz.prog 260 [.str s,.int .i64 10,.int .i64 64] (parseA s):=by
 refine Pure.of_below fun γ w vs ht hv=>?_
 obtain ⟨hl,hr⟩:=hv
 match vs,hl with
 | [v,u,x],_ =>
  cases hr 0 _ _ rfl rfl
  cases hr 1 _ _ rfl rfl
  cases hr 2 _ _ rfl rfl
  have hsz:(⟨s.toArray⟩:ByteArray).size=s.length:=rfl
  unfold parseA
  rcases hp:Lib.parseIntB 64 s with v|_|_
  ·refine (Tryz.strconv_ParseInt_10_at64_ok ⟨s.toArray⟩ (by rw [hsz];omega) v hp w).mono fun e w' ⟨he,hw⟩=>⟨?_,_,he,rep_two (.int _ _) (.oth _)⟩
   rcases hw with rfl|⟨t,rfl⟩
   ·exact Below.refl _ _
   ·exact below_bytes _ _ _
  ·obtain ⟨ev,h1,h2⟩:=errSyntax_at ht
   exact (Tryz.strconv_ParseInt_10_at64_syntax ⟨s.toArray⟩ (by rw [hsz];omega) hp ev w h1 (.inr h2)).mono fun e w' ⟨N,he,_,_,hb⟩=>⟨hb,_,he,rep_two (.int _ _) (.ifc _ _ _ (.any _))⟩
  ·obtain ⟨ev,h1,h2⟩:=errRange_at ht
   exact (Tryz.strconv_ParseInt_10_at64_range ⟨s.toArray⟩ (by rw [hsz];omega) hp ev w h1 (.inr h2)).mono fun e w' ⟨N,he,_,_,hb⟩=>⟨hb,_,he,rep_two (.int _ _) (.ifc _ _ _ (.any _))⟩
end Go.Proofs.YticbbfbpeimkbaaGreatDoor
namespace Go.Proofs.YticbbfbpeimkbaaGreatDoor
open Go.Ab Go.Lib
open Go.ChangeShapes Go.WideShapes Go.ChangeAt Go.RowKit Go.WideElems
mutual
theorem bulk_eq {H:Type}:∀ d:DataW H,Rows.uptoBulk d=blk d
 | .lit (.string _)=>rfl
 | .lit (.bool _)=>rfl
 | .lit (.int _ _)=>rfl
 | .lit (.float _ _)=>rfl
 | .lit .nil=>rfl
 | .nil=>rfl
 | .ptr d=>by simp only [Rows.uptoBulk,blk,bulk_eq d]
 | .slice e s=>by simp only [Rows.uptoBulk,blk,bulkAll_eq e,bulkAll_eq s]
 | .agg e=>by simp only [Rows.uptoBulk,blk,bulkAll_eq e]
 | .iface _ d=>by simp only [Rows.uptoBulk,blk,bulk_eq d]
 | .map e=>by simp only [Rows.uptoBulk,blk,bulkEs_eq e]
 | .held _=>rfl
theorem bulkAll_eq {H:Type}:∀ d:List (DataW H),Rows.uptoBulkAll d=blkAll d
 | []=>rfl
 | d :: r=>by simp only [Rows.uptoBulkAll,blkAll,bulk_eq d,bulkAll_eq r]
theorem bulkEs_eq {H:Type}:∀ d:List (Lit × DataW H),Rows.uptoBulkEntries d=blkEs d
 | []=>rfl
 | x :: r=>by simp only [Rows.uptoBulkEntries,blkEs,bulkE_eq x,bulkEs_eq r]
theorem bulkE_eq {H:Type}:∀ d:Lit × DataW H,Rows.uptoBulkEntry d=blkE d
 | (.string _,d)=>by simp only [Rows.uptoBulkEntry,blkE,bulk_eq d]
 | (.bool _,d)=>by simp only [Rows.uptoBulkEntry,blkE,bulk_eq d]
 | (.int _ _,d)=>by simp only [Rows.uptoBulkEntry,blkE,bulk_eq d]
 | (.float _ _,d)=>by simp only [Rows.uptoBulkEntry,blkE,bulk_eq d]
 | (.nil,d)=>by simp only [Rows.uptoBulkEntry,blkE,bulk_eq d]
end
def EntryOk (W:World) (g:Nat) (ps:List (Value→Prop)):Prop :=
 (∃ (arr:Array Value) (E:TypeId) (fr:Nat × Nat),W.heap[g]?=some (.cells arr E fr)∧arr.size=ps.length)∧∀ (j:Nat) (p:Value→Prop),ps[j]?=some p→∃ v,CellIs immG W g j v∧p v
theorem entry_of_var {W:World} {n:String} {g:Nat} {cs:Array Value} {ps:List (Value→Prop)} (hg:Tryz.prog.globalNamed n=some g) (hv:W.var? Tryz.prog n=some cs) (hl:cs.size=ps.length)
  (h:∀ (j:Nat) (p:Value→Prop) v,ps[j]?=some p→cs[j]?=some v→v.oneCell'=true∧p v):EntryOk W g ps:=by
 refine ⟨?_,fun j p hp=>?_⟩
 ·have h1:=hv
  simp only [World.var?,hg,Option.bind_some] at h1
  split at h1
  ·rename_i c t fr he
   cases h1
   exact ⟨_,_,_,he,hl⟩
  ·cases h1
 ·have hj:j<cs.size:=by
   have:=(List.getElem?_eq_some_iff.1 hp).1
   omega
  have h1:=h j p cs[j] hp (Array.getElem?_eq_getElem hj)
  refine ⟨cs[j],⟨?_,trivial,h1.1⟩,h1.2⟩
  rw [World.var?_cell hg hv j,Array.getElem?_eq_getElem hj]
theorem entry_ints {W:World} {n:String} {g cnt:Nat} {t e:TypeId} {k:IntKind} {zs:List Nat} (hg:Tryz.prog.globalNamed n=some g) (hty:(Tryz.prog.globals[g]?).map (·.type)=some t) (ht:Tryz.prog.underlying t=some (.array cnt e)) (he:Tryz.prog.underlying e=some (.int k)) (hce:Tryz.prog.cellsOf e=1) (hct:Tryz.prog.cellsOf t=cnt)
  (h:VarReads Tryz.prog W n (tabData k (zs.map fun (z:Nat)=>(z:Int)))):EntryOk W g (zs.map fun (z:Nat) (v:Value)=>v=.int k z):=by
 obtain ⟨g',t',cs,fuel,p,hg',ht',hvar,hd⟩:=h
 obtain rfl:=Option.some.inj (hg.symm.trans hg')
 obtain rfl:=Option.some.inj (hty.symm.trans ht')
 have hcs:=cells_of_tab ht he hce hct hd
 refine entry_of_var hg hvar (by rw [← Array.length_toList,hcs];simp) fun j p v hp hj=>?_
 rw [← Array.getElem?_toList,hcs] at hj
 simp only [List.getElem?_map,Option.map_eq_some_iff] at hp hj
 obtain ⟨z,hz,rfl⟩:=hp
 obtain ⟨y,⟨z',hz',rfl⟩,rfl⟩:=hj
 rw [hz] at hz'
 cases hz'
 exact ⟨rfl,rfl⟩
theorem u8x:U8Extra Tryz.prog Tryz.lays196_ren:=⟨by kernel_rfl,by kernel_rfl,by kernel_rfl,by kernel_rfl,by kernel_rfl,by kernel_rfl,by kernel_rfl⟩
theorem acc_at2:∀ c:Fin 32,accZ[c.val]?=some (if c.val % 2=0 then Lib.accLo (c.val / 2) else Lib.accHi (c.val / 2)):=by decide +kernel
theorem entry_accept {W : World} (h1 : VarReads Tryz.prog W "unicode/utf8.first" firstData) (h2 : VarReads Tryz.prog W "unicode/utf8.acceptRanges" acceptData) : EntryOk W 1 (accZ.map fun (n : Nat) (v : Value) => v = .int .u8 n) := by
 have ht:=utf8Tabs_of_readsT (U8Types.of196 Tryz.lays196) u8x h1 h2
 obtain ⟨g',t',cs,fuel,p,hg',ht',hvar,hd⟩:=h2
 obtain rfl := Option.some.inj ((show Tryz.prog.globalNamed "unicode/utf8.acceptRanges" = some 1 by kernel_rfl).symm.trans hg')
 obtain rfl:=Option.some.inj (u8x.y4.symm.trans ht')
 have hcs:cs.size=32:=by
  have h3:fuel≠0:=fun e=>by subst e;simp [DataW.trod] at hd
  obtain ⟨fuel,rfl⟩:=Nat.exists_eq_succ_of_ne_zero h3
  have h4:cs.toList.length=Tryz.prog.cellsOf (Tryz.lays196_ren.t 139):=by
   have hu:=(U8Types.of196 Tryz.lays196).t139
   simp only [DataW.trod,hu,u8x.c138] at hd
   split at hd
   ·rename_i hl;simpa using hl
   ·cases hd
  rw [← Array.length_toList,h4];exact (show Tryz.prog.cellsOf (Tryz.lays196_ren.t 139)=32 by kernel_rfl)
 refine entry_of_var hg' hvar (by rw [hcs];rfl) fun j p v hp hj=>?_
 have hj32:j<32:=by rw [← hcs];exact (Array.getElem?_eq_some_iff.1 hj).1
 simp only [List.getElem?_map,Option.map_eq_some_iff] at hp
 obtain ⟨z,hz,rfl⟩:=hp
 rw [acc_at2 ⟨j,hj32⟩] at hz
 cases hz
 have ⟨a1,a2⟩:=ht.2 (j / 2) (by omega)
 rcases Nat.mod_two_eq_zero_or_one j with e|e
 ·have e2:2*(j / 2)=j:=by omega
  rw [e2] at a1
  have h5:=(World.var?_cell hg' hvar j).symm.trans a1
  rw [hj] at h5
  cases h5
  simp [e,Value.oneCell']
 ·have e2:2*(j / 2)+1=j:=by omega
  rw [e2] at a2
  have h5:=(World.var?_cell hg' hvar j).symm.trans a2
  rw [hj] at h5
  cases h5
  simp [e,Value.oneCell']
theorem entry_err {W:World} {n:String} {g:Nat} {t:TypeId} {s:String} {d:DataW Unit} (hg:Tryz.prog.globalNamed n=some g) (hty:(Tryz.prog.globals[g]?).map (·.type)=some t) {ms:Array (String × TypeId)} (hu:Tryz.prog.underlying t=some (.interface ms)) (h:VarReads Tryz.prog W n (.iface s d)):EntryOk W g [fun v=>∃ te pe,v=.iface te pe]:=by
 obtain ⟨g',t',cs,fuel,p,hg',ht',hvar,hd⟩:=h
 obtain rfl:=Option.some.inj (hg.symm.trans hg')
 obtain rfl:=Option.some.inj (hty.symm.trans ht')
 have h1:∃ te pe,cs.toList=[.iface te pe]:=by
  cases fuel with
  | zero=>simp [DataW.trod] at hd
  | succ fuel =>
   simp only [DataW.trod,hu] at hd
   split at hd
   all_goals first
    | (cases hd;done)
    | skip
   all_goals simp_all
   done
 obtain ⟨te,pe,he⟩:=h1
 refine entry_of_var hg hvar (by rw [← Array.length_toList,he];rfl) fun j p v hp hj=>?_
 rw [← Array.getElem?_toList,he] at hj
 match j,hp,hj with
 | 0,hp,hj=>cases hp;cases hj;exact ⟨rfl,_,_,rfl⟩
 | j+1,hp,hj=>simp at hp
theorem entry_int {W:World} (hS:W.ShapedOpen Tryz.prog) {g:Nat} {z:Array Value} {t:TypeId} {k:IntKind} (hg:g<Tryz.prog.globals.size) (h0:(((begin Tryz.prog (fun _ _=>0) default).world.heap[g]?).bind Obj.row?)=some (z,t)) (hz:z.size=1) (hb:Tryz.prog.buildable t=true)
  (hts:Tryz.prog.cellTypes Tryz.prog.depth t=some [t]) (ht:Tryz.prog.underlying t=some (.int k)):EntryOk W g [fun v=>∃ m,v=.int k m]:=by
 obtain ⟨cs,h1,h2,h3⟩:=hS.1 g z t hg h0
 have hsz:cs.size=1:=by rw [h2,hz]
 obtain ⟨ts,hts',_,hall⟩:=h3 hb
 rw [hts] at hts'
 cases hts'
 have h4:cs[0]?=some cs[0]:=Array.getElem?_eq_getElem (by omega)
 obtain ⟨u,hu,hc⟩:=hall 0 cs[0] h4
 cases hu
 have h5:∃ m,cs[0]=.int k m:=by
  unfold Cell.ok at hc
  rw [ht] at hc
  generalize cs[0]=v at hc
  cases v<;>first|exact hc.elim|(obtain ⟨rfl,_⟩:=hc;exact ⟨_,rfl⟩)
 obtain ⟨m,hm⟩:=h5
 refine ⟨⟨cs,t,_,h1,hsz⟩,fun j p hp=>?_⟩
 match j,hp with
 | 0,hp =>
  cases hp
  refine ⟨.int k m,⟨?_,trivial,rfl⟩,m,rfl⟩
  unfold World.cell?
  simp only [h1,h4,hm]
  simp
 | j+1,hp=>simp at hp
abbrev T64:List Nat:=[1,10,100,1000,10000,100000,1000000,10000000,100000000,1000000000,10000000000,100000000000,1000000000000,10000000000000,100000000000000,1000000000000000,10000000000000000,100000000000000000,1000000000000000000,10000000000000000000]
abbrev B32:List Nat:=[0,1,28,2,29,14,24,3,30,22,20,15,25,17,4,8,31,27,13,23,21,19,16,7,26,12,18,6,11,5,10,9]
abbrev B64:List Nat:=[0,1,56,2,57,49,28,3,61,58,42,50,38,29,17,4,62,47,59,36,45,43,51,22,53,39,33,30,24,18,12,5,63,55,48,27,60,41,37,16,46,35,44,21,52,32,23,11,54,26,40,15,34,20,31,10,25,14,19,9,13,8,7,6]
abbrev laidL : List (String × DataW Unit) := [("math/bits.deBruijn32tab", Rows.laid_math_bits_deBruijn32tab), ("math/bits.deBruijn64tab", Rows.laid_math_bits_deBruijn64tab), ("internal/strconv.uint64pow10", Rows.laid_internal_strconv_uint64pow10), ("unicode/utf8.acceptRanges", Rows.laid_unicode_utf8_acceptRanges), ("strconv.ErrRange", Rows.laid_strconv_ErrRange), ("strconv.ErrSyntax", Rows.laid_strconv_ErrSyntax), ("unicode/utf8.first", Rows.laid_unicode_utf8_first)]
theorem tabs_ok {W:World} (hL:laidMetH Tryz.prog laidL W) (hS:W.ShapedOpen Tryz.prog):TabOk immG W:=by
 have hL':laidMet Tryz.prog laidL W:=hL
 have m1 : VarReads Tryz.prog W "unicode/utf8.first" (tabData .u8 (Go.Pinned.utf8FirstZ.map fun (z : Nat) => (z : Int))) := laidMet.reads hL' (d := Rows.laid_unicode_utf8_first) (.tail _ (.tail _ (.tail _ (.tail _ (.tail _ (.tail _ (.head _)))))))
 have m2 : VarReads Tryz.prog W "unicode/utf8.acceptRanges" acceptData := laidMet.reads hL' (d := Rows.laid_unicode_utf8_acceptRanges) (.tail _ (.tail _ (.tail _ (.head _))))
 have m3 : VarReads Tryz.prog W "internal/strconv.uint64pow10" (tabData .u64 (T64.map fun (z : Nat) => (z : Int))) := laidMet.reads hL' (d := Rows.laid_internal_strconv_uint64pow10) (.tail _ (.tail _ (.head _)))
 have m4 : VarReads Tryz.prog W "math/bits.deBruijn32tab" (tabData .u8 (B32.map fun (z : Nat) => (z : Int))) := laidMet.reads hL' (d := Rows.laid_math_bits_deBruijn32tab) (.head _)
 have m5 : VarReads Tryz.prog W "math/bits.deBruijn64tab" (tabData .u8 (B64.map fun (z : Nat) => (z : Int))) := laidMet.reads hL' (d := Rows.laid_math_bits_deBruijn64tab) (.tail _ (.head _))
 have m6 : VarReads Tryz.prog W "strconv.ErrSyntax" Rows.laid_strconv_ErrSyntax := laidMet.reads hL' (.tail _ (.tail _ (.tail _ (.tail _ (.tail _ (.head _))))))
 have m7 : VarReads Tryz.prog W "strconv.ErrRange" Rows.laid_strconv_ErrRange := laidMet.reads hL' (.tail _ (.tail _ (.tail _ (.tail _ (.head _)))))
 have m8:firstData=tabData .u8 (Go.Pinned.utf8FirstZ.map fun (z:Nat)=>(z:Int)):=by kernel_rfl
 have e1:EntryOk W 0 (Go.Pinned.utf8FirstZ.map fun (n:Nat) (v:Value)=>v=.int .u8 n) :=
  entry_ints (t:=Tryz.lays196_ren.t 119) u8x.n3 u8x.y3 (U8Types.of196 Tryz.lays196).t119 (U8Types.of196 Tryz.lays196).t5 u8x.c5 u8x.c119 m1
 have e2:EntryOk W 1 (accZ.map fun (n:Nat) (v:Value)=>v=.int .u8 n):=entry_accept (m8▸m1) m2
 have e3:EntryOk W 2 (T64.map fun (n:Nat) (v:Value)=>v=.int .u64 n) :=
  entry_ints (t:=309) (e:=271) (cnt:=20) (by kernel_rfl) (by kernel_rfl) (by kernel_rfl) (by kernel_rfl) (by kernel_rfl) (by kernel_rfl) m3
 have e4:EntryOk W 6 (B32.map fun (n:Nat) (v:Value)=>v=.int .u8 n) :=
  entry_ints (t:=322) (e:=5) (cnt:=32) (by kernel_rfl) (by kernel_rfl) (by kernel_rfl) (by kernel_rfl) (by kernel_rfl) (by kernel_rfl) m4
 have e5:EntryOk W 7 (B64.map fun (n:Nat) (v:Value)=>v=.int .u8 n) :=
  entry_ints (t:=323) (e:=5) (cnt:=64) (by kernel_rfl) (by kernel_rfl) (by kernel_rfl) (by kernel_rfl) (by kernel_rfl) (by kernel_rfl) m5
 have e6:EntryOk W 4 [fun v=>∃ te pe,v=.iface te pe]:=entry_err (t:=225) (by kernel_rfl) (by kernel_rfl) Tryz.underlying225 m6
 have e7:EntryOk W 5 [fun v=>∃ te pe,v=.iface te pe]:=entry_err (t:=225) (by kernel_rfl) (by kernel_rfl) Tryz.underlying225 m7
 have e8:EntryOk W 3 [fun v=>∃ m,v=.int .i64 m]:=entry_int hS (z:=#[.int .i64 0]) (t:=3) (of_decide_eq_true (by kernel_rfl)) (by kernel_rfl) rfl (by kernel_rfl) (by kernel_rfl) (by kernel_rfl)
 intro x hx
 unfold tabL at hx
 simp only [List.mem_cons,List.not_mem_nil,or_false] at hx
 rcases hx with rfl|rfl|rfl|rfl|rfl|rfl|rfl|rfl<;>first|exact e1|exact e2|exact e3|exact e4|exact e5|exact e6|exact e7|exact e8
noncomputable abbrev N0:Nat:=(World.settled Tryz.prog default).heap.size
noncomputable def laidWorld (os:Os):World :=
 let w0:=World.holding Tryz.prog os ⟨#[.cells #[.string ⟨#[105,110,118,97,108,105,100,32,115,121,110,116,97,120]⟩] 321,.cells #[.string ⟨#[118,97,108,117,101,32,111,117,116,32,111,102,32,114,97,110,103,101]⟩] 321],#[],[]⟩
 let put (h:Array Obj) (g:Nat) (cs:Array Value):Array Obj:=h.modify g fun
  | .cells _ t frozen=>.cells cs t frozen
  | o=>o
 let h1:=put w0.heap 0 (Go.Pinned.utf8FirstZ.map fun (z:Nat)=>Value.int .u8 z).toArray
 let h2:=put h1 1 (accZ.map fun (z:Nat)=>Value.int .u8 z).toArray
 let h3:=put h2 2 (T64.map fun (z:Nat)=>Value.int .u64 z).toArray
 let h4:=put h3 6 (B32.map fun (z:Nat)=>Value.int .u8 z).toArray
 let h5:=put h4 7 (B64.map fun (z:Nat)=>Value.int .u8 z).toArray
 let h6:=put h5 4 #[.iface 319 (.pointer (some ⟨(World.settled Tryz.prog os).heap.size,0,none⟩))]
 let h7:=put h6 5 #[.iface 319 (.pointer (some ⟨(World.settled Tryz.prog os).heap.size+1,0,none⟩))]
 { w0 with heap:=h7 }
theorem laid_met (os:Os) (args:Array Value):laidMet Tryz.prog laidL ((laidWorld os).forCall (fun _ _=>0) ⟨#[],args,[]⟩).memory :=
 (LaidIn.of_run (l:=laidL) [0,1,2,3,4,5,6,7,N0,N0+1] 8 (by kernel_rfl) (by kernel_rfl) (by kernel_rfl) (by kernel_rfl)).met
end Go.Proofs.YticbbfbpeimkbaaGreatDoor
namespace Go.Proofs.YticbbfbpeimkbaaGreatDoor
open Go.Ab
def ir10 : AFn := ⟨124, 2, [.t 4], .seq (.reg [] [Io 4 (.mv (.k (.bool false)))])
 (.seq (.seq (.reg [] [Im 21 0, Io 22 (.bi .lss .i64 (.t 21) (.k (.int .i64 1))), Im 23 22, Jf 24 23 (.mv (.t 0)), Jf 25 23 (.bi .gtr .i64 (.t 24) (.k (.int .i64 40))), Io 26 (.pick (.t 23) (.k (.bool true)) (.t 25)), Im 27 26, Jf 28 27 (.mv (.t 1)), Jf 29 27 (.bi .lss .i64 (.t 28) (.k (.int .i64 0))), Io 30 (.pick (.t 27) (.k (.bool true)) (.t 29)), Im 31 30, Jf 32 31 (.mv (.t 1)), Jf 33 31 (.mv (.t 0)), Jf 34 31 (.bi .gtr .i64 (.t 32) (.t 33)), Io 35 (.pick (.t 31) (.k (.bool true)) (.t 34))])
 (.cond (.t 35) (.seq (.reg [] [Io 36 (.call 39 []), Im 4 36])
 (.ret)) (.skip)))
 (.seq (.reg [] [Io 5 (.mv (.k (.str []))), Io 6 (.mv (.k (.str []))), Io 7 (.mv (.k (.str [73, 110, 116])))])
 (.seq (.seq (.reg [] [Io 8 (.mv (.k (.int .i64 0)))])
 (.block 0 (.loop [0, 1, 5, 6, 7, 8] (.seq (.seq (.reg [] [Im 37 8, Im 38 0, Io 39 (.bi .lss .i64 (.t 37) (.t 38))])
 (.cond (.t 39) (.skip) (.exit 0)))
 (.seq (.block 1 (.seq (.reg [] [Im 42 5, Io 43 (.bs .add (.t 42) (.k (.str [123, 97]))), Im 5 43])
 (.seq (.seq (.reg [] [Im 44 8, Im 45 0, Im 46 1, Io 47 (.bi .sub .i64 (.t 45) (.t 46)), Io 48 (.bi .lss .i64 (.t 44) (.t 47))])
 (.cond (.t 48) (.reg [] [Im 49 6, Io 50 (.bs .add (.t 49) (.k (.str [91]))), Im 6 50]) (.reg [] [Im 51 6, Io 52 (.bs .add (.t 51) (.k (.str [123, 120, 58]))), Im 6 52])))
 (.reg [] [Im 53 7, Io 54 (.bs .add (.k (.str [91])) (.t 53)), Io 55 (.bs .add (.t 54) (.k (.str [93]))), Im 7 55]))))
 (.reg [] [Im 40 8, Io 41 (.bi .add .i64 (.t 40) (.k (.int .i64 1))), Im 8 41]))))))
 (.seq (.reg [] [Im 56 6, Io 57 (.bs .add (.t 56) (.k (.str [49]))), Im 6 57])
 (.seq (.seq (.reg [] [Im 58 0, Io 59 (.bi .sub .i64 (.t 58) (.k (.int .i64 1))), Im 9 59])
 (.block 2 (.loop [0, 1, 5, 6, 7, 9] (.seq (.seq (.reg [] [Im 60 9, Io 61 (.bi .geq .i64 (.t 60) (.k (.int .i64 0)))])
 (.cond (.t 61) (.skip) (.exit 2)))
 (.seq (.block 3 (.seq (.reg [] [Im 64 5, Io 65 (.bs .add (.t 64) (.k (.str [125]))), Im 5 65])
 (.seq (.reg [] [Im 66 9, Im 67 0, Im 68 1, Io 69 (.bi .sub .i64 (.t 67) (.t 68)), Io 70 (.bi .lss .i64 (.t 66) (.t 69))])
 (.cond (.t 70) (.reg [] [Im 71 6, Io 72 (.bs .add (.t 71) (.k (.str [93]))), Im 6 72]) (.reg [] [Im 73 6, Io 74 (.bs .add (.t 73) (.k (.str [125]))), Im 6 74])))))
 (.reg [] [Im 62 9, Io 63 (.bi .sub .i64 (.t 62) (.k (.int .i64 1))), Im 9 63]))))))
 (.seq (.reg [] [Io 10 (.mv (.k (.int .i64 0))), Io 11 (.mv (.k (.int .i64 0)))])
 (.seq (.seq (.reg [] [Im 75 0, Io 76 (.bi .gtr .i64 (.t 75) (.k (.int .i64 16)))])
 (.cond (.t 76) (.reg [] [Io 10 (.mv (.k (.int .i64 4)))]) (.skip)))
 (.seq (.seq (.reg [] [Im 77 0, Io 78 (.bi .gtr .i64 (.t 77) (.k (.int .i64 4)))])
 (.cond (.t 78) (.reg [] [Io 11 (.mv (.k (.int .i64 4)))]) (.skip)))
 (.seq (.reg [] [Im 80 5, Io 81 (.call 40 [(.t 80)]), Im 79 81, Io 82 (.ext (.t 79) 0), Io 83 (.ext (.t 79) 1), Io 12 (.alloc [.sl .nil 5 [], .sl .nil 4 []]), ⟨none, none, .st 2 (.t 12) (.t 82), []⟩, Im 13 83])
 (.seq (.reg [] [Im 85 6, Io 86 (.call 42 [(.t 85), (.k (.bool true))]), Im 84 86, Io 87 (.ext (.t 84) 0), Io 88 (.ext (.t 84) 1), Io 14 (.alloc [.int .i64 0, .int .i64 0, .str [], .sl .nil 5 [], .sl .nil 6 []]), ⟨none, none, .st 5 (.t 14) (.t 87), []⟩, Im 15 88])
 (.seq (.reg [] [Im 90 7, Io 91 (.call 44 [(.t 90)]), Im 89 91, Io 92 (.ext (.t 89) 0), Io 93 (.ext (.t 89) 1), Io 16 (.alloc [.str [], .int .i64 0, .int .i64 0]), ⟨none, none, .st 3 (.t 16) (.t 92), []⟩, Im 17 93])
 (.seq (.reg [] [Im 95 6, Io 96 (.bs .add (.k (.str [123, 97, 40, 120, 58])) (.t 95)), Io 97 (.bs .add (.t 96) (.k (.str [41, 125]))), Io 98 (.call 40 [(.t 97)]), Im 94 98, Io 99 (.ext (.t 94) 0), Io 100 (.ext (.t 94) 1), Io 18 (.alloc [.sl .nil 5 [], .sl .nil 4 []]), ⟨none, none, .st 2 (.t 18) (.t 99), []⟩, Im 19 100])
 (.seq (.reg [] [Io 20 (.mv (.k (.int .i64 0)))])
 (.seq (.seq (.reg [] [Im 101 0, Io 102 (.bi .gtr .i64 (.t 101) (.k (.int .i64 15)))])
 (.cond (.t 102) (.reg [] [Io 20 (.mv (.k (.int .i64 4)))]) (.skip)))
 (.seq (.reg [] [Im 103 13, Im 104 10, Io 105 (.bi .eql .i64 (.t 103) (.t 104)), Im 106 105, Jt 107 106 (.mv (.t 15)), Jt 108 106 (.mv (.t 10)), Jt 109 106 (.bi .eql .i64 (.t 107) (.t 108)), Io 110 (.pick (.t 106) (.t 109) (.k (.bool false))), Im 111 110, Jt 112 111 (.mv (.t 17)), Jt 113 111 (.mv (.t 11)), Jt 114 111 (.bi .eql .i64 (.t 112) (.t 113)), Io 115 (.pick (.t 111) (.t 114) (.k (.bool false))), Im 116 115, Jt 117 116 (.mv (.t 19)), Jt 118 116 (.mv (.t 20)), Jt 119 116 (.bi .eql .i64 (.t 117) (.t 118)), Io 120 (.pick (.t 116) (.t 119) (.k (.bool false))), Im 121 120, Jt 122 121 (.call 39 []), Io 123 (.pick (.t 121) (.t 122) (.k (.bool false))), Im 4 123])
 (.ret))))))))))))))))⟩
theorem ck10:chkFn Tryz.prog 10 ir10=true:=by kernel_rfl
def ir39 : AFn := ⟨45, 0, [.t 0], .seq (.reg [] [Io 0 (.mv (.k (.bool false)))])
 (.seq (.reg [] [Io 6 (.call 40 [(.k (.str [123, 97, 32, 46, 46, 46, 111, 110, 32, 66, 123, 99, 125, 125]))]), Im 5 6, Io 7 (.ext (.t 5) 0), Io 8 (.ext (.t 5) 1), Io 1 (.alloc [.sl .nil 5 [], .sl .nil 4 []]), ⟨none, none, .st 2 (.t 1) (.t 7), []⟩, Im 2 8])
 (.seq (.reg [] [Io 10 (.call 40 [(.k (.str [113, 117, 101, 114, 121, 40, 36, 120, 58, 73, 110, 116, 61, 36, 121, 41, 123, 97, 125]))]), Im 9 10, Io 11 (.ext (.t 9) 0), Io 12 (.ext (.t 9) 1), Io 3 (.alloc [.sl .nil 5 [], .sl .nil 4 []]), ⟨none, none, .st 2 (.t 3) (.t 11), []⟩, Im 4 12])
 (.seq (.reg [] [Im 13 2, Io 14 (.bi .eql .i64 (.t 13) (.k (.int .i64 0))), Im 15 14, Jt 16 15 (.fa 0 (.t 1)), Jt 17 15 (.ld 1 false (.t 16)), Jt 18 15 (.len (.t 17)), Jt 19 15 (.bi .eql .i64 (.t 18) (.k (.int .i64 1))), Io 20 (.pick (.t 15) (.t 19) (.k (.bool false))), Im 21 20, Jt 22 21 (.fa 0 (.t 1)), Jt 23 21 (.ld 1 false (.t 22)), Jt 24 21 (.ia 5 (.t 23) (.k (.int .i64 0))), Jt 25 21 (.fa 4 (.t 24)), Jt 26 21 (.ld 1 false (.t 25)), Jt 27 21 (.len (.t 26)), Jt 28 21 (.bi .eql .i64 (.t 27) (.k (.int .i64 2))), Io 29 (.pick (.t 21) (.t 28) (.k (.bool false))), Im 30 29, Jt 31 30 (.fa 0 (.t 1)), Jt 32 30 (.ld 1 false (.t 31)), Jt 33 30 (.ia 5 (.t 32) (.k (.int .i64 0))), Jt 34 30 (.fa 4 (.t 33)), Jt 35 30 (.ld 1 false (.t 34)), Jt 36 30 (.ia 7 (.t 35) (.k (.int .i64 1))), Jt 37 30 (.fa 5 (.t 36)), Jt 38 30 (.ld 1 false (.t 37)), Jt 39 30 (.bs .eql (.t 38) (.k (.str [66]))), Io 40 (.pick (.t 30) (.t 39) (.k (.bool false))), Im 41 40, Jt 42 41 (.mv (.t 4)), Jt 43 41 (.bi .eql .i64 (.t 42) (.k (.int .i64 2))), Io 44 (.pick (.t 41) (.t 43) (.k (.bool false))), Im 0 44])
 (.ret))))⟩
theorem ck39:chkFn Tryz.prog 39 ir39=true:=by kernel_rfl
def ir40 : AFn := ⟨14, 1, [.c 2 2 true, .t 3], .seq (.reg [] [Io 2 (.alloc [.sl .nil 5 [], .sl .nil 4 []]), Io 3 (.mv (.k (.int .i64 0)))])
 (.seq (.reg [] [Io 4 (.alloc [.sl .nil 5 [], .sl .nil 4 []])])
 (.seq (.reg [] [Im 6 0, Io 7 (.mkfn 90 [] [(.t 4)]), Io 8 (.call 89 [(.t 6), (.t 7)]), Im 5 8])
 (.seq (.seq (.reg [] [Im 9 5, Io 10 (.bi .neq .i64 (.t 9) (.k (.int .i64 0)))])
 (.cond (.t 10) (.seq (.reg [] [Io 11 (.bld [.sl .nil 5 [], .sl .nil 4 []] []), Im 12 5, ⟨none, none, .st 2 (.t 2) (.t 11), []⟩, Im 3 12])
 (.ret)) (.skip)))
 (.seq (.reg [] [Io 13 (.ld 2 true (.t 4)), ⟨none, none, .st 2 (.t 2) (.t 13), []⟩, Io 3 (.mv (.k (.int .i64 0)))])
 (.ret)))))⟩
theorem ck40:chkFn Tryz.prog 40 ir40=true:=by kernel_rfl
def ir42 : AFn := ⟨16, 2, [.c 4 5 true, .t 5], .seq (.reg [] [Io 3 (.boxv (.t 1)), Io 4 (.alloc [.int .i64 0, .int .i64 0, .str [], .sl .nil 5 [], .sl .nil 6 []]), Io 5 (.mv (.k (.int .i64 0)))])
 (.seq (.reg [] [Io 6 (.alloc [.int .i64 0, .int .i64 0, .str [], .sl .nil 5 [], .sl .nil 6 []])])
 (.seq (.reg [] [Im 8 0, Io 9 (.mkfn 95 [] [(.t 3), (.t 6)]), Io 10 (.call 89 [(.t 8), (.t 9)]), Im 7 10])
 (.seq (.seq (.reg [] [Im 11 7, Io 12 (.bi .neq .i64 (.t 11) (.k (.int .i64 0)))])
 (.cond (.t 12) (.seq (.reg [] [Io 13 (.bld [.int .i64 0, .int .i64 0, .str [], .sl .nil 5 [], .sl .nil 6 []] []), Im 14 7, ⟨none, none, .st 5 (.t 4) (.t 13), []⟩, Im 5 14])
 (.ret)) (.skip)))
 (.seq (.reg [] [Io 15 (.ld 5 true (.t 6)), ⟨none, none, .st 5 (.t 4) (.t 15), []⟩, Io 5 (.mv (.k (.int .i64 0)))])
 (.ret)))))⟩
theorem ck42:chkFn Tryz.prog 42 ir42=true:=by kernel_rfl
def ir44 : AFn := ⟨14, 1, [.c 2 3 true, .t 3], .seq (.reg [] [Io 2 (.alloc [.str [], .int .i64 0, .int .i64 0]), Io 3 (.mv (.k (.int .i64 0)))])
 (.seq (.reg [] [Io 4 (.alloc [.str [], .int .i64 0, .int .i64 0])])
 (.seq (.reg [] [Im 6 0, Io 7 (.mkfn 99 [] [(.t 4)]), Io 8 (.call 89 [(.t 6), (.t 7)]), Im 5 8])
 (.seq (.seq (.reg [] [Im 9 5, Io 10 (.bi .neq .i64 (.t 9) (.k (.int .i64 0)))])
 (.cond (.t 10) (.seq (.reg [] [Io 11 (.bld [.str [], .int .i64 0, .int .i64 0] []), Im 12 5, ⟨none, none, .st 3 (.t 2) (.t 11), []⟩, Im 3 12])
 (.ret)) (.skip)))
 (.seq (.reg [] [Io 13 (.ld 3 true (.t 4)), ⟨none, none, .st 3 (.t 2) (.t 13), []⟩, Io 3 (.mv (.k (.int .i64 0)))])
 (.ret)))))⟩
theorem ck44:chkFn Tryz.prog 44 ir44=true:=by kernel_rfl
def ir57 : AFn := ⟨47, 1, [.t 2, .t 3], .seq (.reg [] [Io 2 (.mv (.k (.sl .nil 2 []))), Io 3 (.mv (.k (.int .i64 0)))])
 (.scope (.seq (.block 0 (.seq (.reg [] [Im 10 0, Io 11 (.lens (.t 10)), Io 12 (.bi .gtr .i64 (.t 11) (.k (.int .i64 8192))), Im 9 12])
 (.cond (.t 9) (.seq (.reg [] [Io 2 (.mv (.k (.sl .nil 2 []))), Io 3 (.mv (.k (.int .i64 3)))])
 (.ret)) (.seq (.reg [] [Im 14 0, Io 15 (.call 122 [(.t 14)]), Io 16 (.not (.t 15)), Im 13 16])
 (.cond (.t 13) (.seq (.reg [] [Io 2 (.mv (.k (.sl .nil 2 []))), Io 3 (.mv (.k (.int .i64 2)))])
 (.ret)) (.skip))))))
 (.seq (.reg [] [Io 4 (.mv (.k (.sl .nil 2 [])))])
 (.seq (.skip)
 (.seq (.seq (.reg [] [Io 5 (.mv (.k (.int .i64 0)))])
 (.block 1 (.loop [0, 4, 5] (.seq (.seq (.reg [] [Im 17 5, Im 18 0, Io 19 (.lens (.t 18)), Io 20 (.bi .lss .i64 (.t 17) (.t 19))])
 (.cond (.t 20) (.skip) (.exit 1)))
 (.block 2 (.seq (.seq (.reg [] [Im 21 0, Im 22 5, Io 23 (.sls (.t 21) (some (.t 22)) none), Io 24 (.call 123 [(.t 23)]), Im 6 24])
 (.seq (.reg [] [Im 25 6, Io 26 (.bi .gtr .i64 (.t 25) (.k (.int .i64 0)))])
 (.cond (.t 26) (.seq (.reg [] [Im 27 5, Im 28 6, Io 29 (.bi .add .i64 (.t 27) (.t 28)), Im 5 29])
 (.exit 2)) (.skip))))
 (.seq (.reg [] [Im 31 0, Im 32 5, Io 33 (.sls (.t 31) (some (.t 32)) none), Io 34 (.call 124 [(.t 33)]), Im 30 34, Io 35 (.ext (.t 30) 0), Io 36 (.ext (.t 30) 1), Io 7 (.alloc [.int .i64 0, .str []]), ⟨none, none, .st 2 (.t 7) (.t 35), []⟩, Im 8 36])
 (.seq (.seq (.reg [] [Im 37 8, Io 38 (.bi .eql .i64 (.t 37) (.k (.int .i64 0)))])
 (.cond (.t 38) (.seq (.reg [] [Io 2 (.mv (.k (.sl .nil 2 []))), Io 3 (.mv (.k (.int .i64 2)))])
 (.ret)) (.skip)))
 (.seq (.reg [] [Im 39 4, Io 40 (.ld 2 true (.t 7)), Io 41 (.bls 2 1 [.int .i64 0, .str []] [(0, (.t 40))]), Io 42 (.app 2 24 (.t 39) (.t 41)), Im 4 42])
 (.reg [] [Im 43 5, Im 44 8, Io 45 (.bi .add .i64 (.t 43) (.t 44)), Im 5 45]))))))))))
 (.seq (.reg [] [Im 46 4, Im 2 46, Io 3 (.mv (.k (.int .i64 0)))])
 (.ret)))))))⟩
theorem ck57:chkFn Tryz.prog 57 ir57=true:=by kernel_rfl
def ir90 : AFn := ⟨9, 2, [], .seq (.reg [] [Im 3 0, Io 4 (.call 91 [(.t 3), (.t 1)])])
 (.block 0 (.loop [0, 1] (.seq (.seq (.reg [] [Im 5 0, Io 6 (.call 92 [(.t 5)])])
 (.cond (.t 6) (.skip) (.exit 0)))
 (.block 1 (.reg [] [Im 7 0, Io 8 (.call 91 [(.t 7), (.t 1)])])))))⟩
theorem ck90:chkFn Tryz.prog 90 ir90=true:=by kernel_rfl
def ir91 : AFn := ⟨63, 2, [], .block 0 (.seq (.reg [] [Im 7 0, Io 8 (.call 161 [(.t 7), (.k (.str [123]))]), Im 6 8])
 (.cond (.t 6) (.reg [0, 1, 2, 3, 4, 5, 6, 7, 8, 9, 10, 11, 12] [Im 9 1, Im 10 1, Io 11 (.nilchk (.t 10)), If 12 0 11, Il 13 1 12, Im 14 0, ⟨some 15, none, .call 162 [(.t 14)], [4]⟩, Io 16 (.bld [.int .i64 0, .str [], .sl .nil 10 [], .sl .nil 2 [], .sl .nil 7 []] [(4, 1, (.t 15))]), Io 17 (.bls 5 1 [.int .i64 0, .str [], .sl .nil 10 [], .sl .nil 2 [], .sl .nil 7 []] [(0, (.t 16))]), Io 18 (.app 5 96 (.t 13) (.t 17)), Io 19 (.nilchk (.t 9)), If 20 0 19, ⟨none, none, .st 1 (.t 20) (.t 18), []⟩]) (.seq (.reg [] [Im 22 0, Io 23 (.call 163 [(.t 22), (.k (.str [113, 117, 101, 114, 121]))]), Im 21 23])
 (.cond (.t 21) (.reg [0, 1, 2, 3, 4, 5, 6, 7, 8, 9, 10, 11] [Im 24 1, Im 25 1, Io 26 (.nilchk (.t 25)), If 27 0 26, Il 28 1 27, Im 29 0, ⟨some 30, none, .call 164 [(.t 29), (.k (.int .i64 0))], [4]⟩, Io 31 (.bls 5 1 [.int .i64 0, .str [], .sl .nil 10 [], .sl .nil 2 [], .sl .nil 7 []] [(0, (.t 30))]), Io 32 (.app 5 96 (.t 28) (.t 31)), Io 33 (.nilchk (.t 24)), If 34 0 33, ⟨none, none, .st 1 (.t 34) (.t 32), []⟩]) (.seq (.reg [] [Im 36 0, Io 37 (.call 163 [(.t 36), (.k (.str [109, 117, 116, 97, 116, 105, 111, 110]))]), Im 35 37])
 (.cond (.t 35) (.reg [0, 1, 2, 3, 4, 5, 6, 7, 8, 9, 10, 11] [Im 38 1, Im 39 1, Io 40 (.nilchk (.t 39)), If 41 0 40, Il 42 1 41, Im 43 0, ⟨some 44, none, .call 164 [(.t 43), (.k (.int .i64 1))], [4]⟩, Io 45 (.bls 5 1 [.int .i64 0, .str [], .sl .nil 10 [], .sl .nil 2 [], .sl .nil 7 []] [(0, (.t 44))]), Io 46 (.app 5 96 (.t 42) (.t 45)), Io 47 (.nilchk (.t 38)), If 48 0 47, ⟨none, none, .st 1 (.t 48) (.t 46), []⟩]) (.seq (.reg [] [Im 50 0, Io 51 (.call 163 [(.t 50), (.k (.str [102, 114, 97, 103, 109, 101, 110, 116]))]), Im 49 51])
 (.cond (.t 49) (.reg [0, 1, 2, 3, 4, 5, 6, 7, 8, 9, 10, 11] [Im 52 1, Im 53 1, Io 54 (.nilchk (.t 53)), If 55 1 54, Il 56 1 55, Im 57 0, ⟨some 58, none, .call 165 [(.t 57)], [4]⟩, Io 59 (.bls 4 1 [.str [], .str [], .sl .nil 2 [], .sl .nil 7 []] [(0, (.t 58))]), Io 60 (.app 4 80 (.t 56) (.t 59)), Io 61 (.nilchk (.t 52)), If 62 1 61, ⟨none, none, .st 1 (.t 62) (.t 60), []⟩]) (.reg [] [Im 4 0, Io 5 (.call 160 [(.t 4), (.k (.int .i64 2))])])))))))))⟩
theorem ck91:chkFn Tryz.prog 91 ir91=true:=by kernel_rfl
def ir92 : AFn := ⟨13, 1, [.t 2], .seq (.reg [] [Io 2 (.mv (.k (.bool false)))])
 (.seq (.reg [0, 1, 2, 3, 4, 5, 6, 7, 8, 9, 10] [Im 3 0, Io 4 (.nilchk (.t 3)), If 5 1 4, Il 6 1 5, Im 7 0, Io 8 (.nilchk (.t 7)), If 9 0 8, Il 10 1 9, Io 11 (.len (.t 10)), Io 12 (.bi .lss .i64 (.t 6) (.t 11)), Im 2 12])
 (.ret))⟩
theorem ck92:chkFn Tryz.prog 92 ir92=true:=by kernel_rfl
def ir95:AFn:=⟨7,3,[],.reg [] [Im 4 0,Il 5 1 1,Io 6 (.call 96 [(.t 4),(.t 5)]),⟨none,none,.st 5 (.t 2) (.t 6),[]⟩]⟩
theorem ck95:chkFn Tryz.prog 95 ir95=true:=by kernel_rfl
def ir96 : AFn := ⟨109, 2, [.c 4 5 true], .seq (.reg [] [Io 4 (.alloc [.int .i64 0, .int .i64 0, .str [], .sl .nil 5 [], .sl .nil 6 []])])
 (.seq (.seq (.reg [] [Im 10 0, Io 11 (.call 174 [(.t 10)]), Io 5 (.alloc [.int .i64 0, .str []]), ⟨none, none, .st 2 (.t 5) (.t 11), []⟩])
 (.block 0 (.seq (.reg [] [If 13 0 5, Il 14 1 13, Io 15 (.bi .eql .i64 (.t 14) (.k (.int .i64 2))), Im 12 15])
 (.cond (.t 12) (.seq (.reg [] [Im 16 0, Io 17 (.nilchk (.t 16)), If 18 1 17, Il 19 1 18, Io 20 (.bi .add .i64 (.t 19) (.k (.int .i64 1))), Io 21 (.nilchk (.t 16)), If 22 1 21, ⟨none, none, .st 1 (.t 22) (.t 20), []⟩])
 (.seq (.reg [] [If 23 1 5, Il 24 1 23, Io 25 (.call 175 [(.t 24)]), ⟨none, none, .st 5 (.t 4) (.t 25), []⟩])
 (.ret))) (.seq (.reg [] [If 27 0 5, Il 28 1 27, Io 29 (.bi .eql .i64 (.t 28) (.k (.int .i64 3))), Im 30 29, Jf 31 30 (.fa 0 (.t 5)), Jf 32 30 (.ld 1 false (.t 31)), Jf 33 30 (.bi .eql .i64 (.t 32) (.k (.int .i64 4))), Io 34 (.pick (.t 30) (.k (.bool true)) (.t 33)), Im 26 34])
 (.cond (.t 26) (.seq (.reg [] [Im 35 0, Io 36 (.nilchk (.t 35)), If 37 1 36, Il 38 1 37, Io 39 (.bi .add .i64 (.t 38) (.k (.int .i64 1))), Io 40 (.nilchk (.t 35)), If 41 1 40, ⟨none, none, .st 1 (.t 41) (.t 39), []⟩])
 (.seq (.seq (.reg [] [If 43 1 5, Il 44 1 43, Io 45 (.call 176 [(.t 44)]), Im 42 45, Io 46 (.ext (.t 42) 0), Io 47 (.ext (.t 42) 1), Im 6 46, Im 7 47])
 (.seq (.reg [] [Im 48 7])
 (.cond (.t 48) (.seq (.reg [] [Im 49 6, Io 50 (.call 177 [(.t 49)]), ⟨none, none, .st 5 (.t 4) (.t 50), []⟩])
 (.ret)) (.skip))))
 (.seq (.reg [] [If 51 1 5, Il 52 1 51, Io 53 (.bld [.int .i64 0, .int .i64 0, .str [], .sl .nil 5 [], .sl .nil 6 []] [(0, 1, (.k (.int .i64 3))), (2, 1, (.t 52))]), ⟨none, none, .st 5 (.t 4) (.t 53), []⟩])
 (.ret)))) (.seq (.reg [] [If 55 0 5, Il 56 1 55, Io 57 (.bi .eql .i64 (.t 56) (.k (.int .i64 5))), Im 54 57])
 (.cond (.t 54) (.seq (.reg [] [Im 58 0, Io 59 (.nilchk (.t 58)), If 60 1 59, Il 61 1 60, Io 62 (.bi .add .i64 (.t 61) (.k (.int .i64 1))), Io 63 (.nilchk (.t 58)), If 64 1 63, ⟨none, none, .st 1 (.t 64) (.t 62), []⟩])
 (.seq (.reg [] [If 65 1 5, Il 66 1 65, Io 67 (.call 178 [(.t 66)]), ⟨none, none, .st 5 (.t 4) (.t 67), []⟩])
 (.ret))) (.seq (.reg [] [Im 69 0, Io 70 (.call 179 [(.t 69), (.k (.str [91]))]), Im 68 70])
 (.cond (.t 68) (.seq (.reg [] [Io 71 (.bld [.int .i64 0, .int .i64 0, .str [], .sl .nil 5 [], .sl .nil 6 []] [(0, 1, (.k (.int .i64 6)))]), Io 8 (.alloc [.int .i64 0, .int .i64 0, .str [], .sl .nil 5 [], .sl .nil 6 []]), ⟨none, none, .st 5 (.t 8) (.t 71), []⟩])
 (.seq (.block 1 (.loop [0, 1, 4, 8] (.seq (.seq (.reg [] [Im 72 0, Io 73 (.call 180 [(.t 72), (.k (.str [93]))]), Io 74 (.not (.t 73))])
 (.cond (.t 74) (.skip) (.exit 1)))
 (.block 2 (.reg [0, 1, 2, 3, 4, 5, 6, 7, 8] [If 75 3 8, Il 76 1 75, Im 77 0, Im 78 1, ⟨some 79, none, .call 96 [(.t 77), (.t 78)], [1]⟩, Io 80 (.bls 5 1 [.int .i64 0, .int .i64 0, .str [], .sl .nil 5 [], .sl .nil 6 []] [(0, (.t 79))]), Io 81 (.app 5 80 (.t 76) (.t 80)), If 82 3 8, ⟨none, none, .st 1 (.t 82) (.t 81), []⟩])))))
 (.seq (.reg [] [Io 83 (.ld 5 true (.t 8)), ⟨none, none, .st 5 (.t 4) (.t 83), []⟩])
 (.ret)))) (.seq (.reg [] [Im 85 0, Io 86 (.call 179 [(.t 85), (.k (.str [123]))]), Im 84 86])
 (.cond (.t 84) (.seq (.reg [] [Io 87 (.bld [.int .i64 0, .int .i64 0, .str [], .sl .nil 5 [], .sl .nil 6 []] [(0, 1, (.k (.int .i64 7)))]), Io 9 (.alloc [.int .i64 0, .int .i64 0, .str [], .sl .nil 5 [], .sl .nil 6 []]), ⟨none, none, .st 5 (.t 9) (.t 87), []⟩])
 (.seq (.block 3 (.loop [0, 1, 4, 9] (.seq (.seq (.reg [] [Im 88 0, Io 89 (.call 180 [(.t 88), (.k (.str [125]))]), Io 90 (.not (.t 89))])
 (.cond (.t 90) (.skip) (.exit 3)))
 (.block 4 (.reg [0, 1, 2, 3, 4, 5, 6, 7, 8] [If 91 4 9, Il 92 1 91, Im 93 0, Im 94 1, ⟨some 95, none, .call 181 [(.t 93), (.t 94)], [1]⟩, Io 96 (.bls 6 1 [.str [], .int .i64 0, .int .i64 0, .str [], .sl .nil 5 [], .sl .nil 6 []] [(0, (.t 95))]), Io 97 (.app 6 96 (.t 92) (.t 96)), If 98 4 9, ⟨none, none, .st 1 (.t 98) (.t 97), []⟩])))))
 (.seq (.reg [] [Io 99 (.ld 5 true (.t 9)), ⟨none, none, .st 5 (.t 4) (.t 99), []⟩])
 (.ret)))) (.seq (.reg [] [Im 101 1, Im 100 101])
 (.cond (.t 100) (.reg [] [Im 102 0, Io 103 (.call 160 [(.t 102), (.k (.int .i64 2))])]) (.skip)))))))))))))))
 (.seq (.reg [] [Im 104 0, Io 105 (.call 182 [(.t 104), (.k (.str [36]))])])
 (.seq (.reg [] [Im 106 0, Io 107 (.call 183 [(.t 106)]), Io 108 (.bld [.int .i64 0, .int .i64 0, .str [], .sl .nil 5 [], .sl .nil 6 []] [(0, 1, (.k (.int .i64 8))), (2, 1, (.t 107))]), ⟨none, none, .st 5 (.t 4) (.t 108), []⟩])
 (.ret))))⟩
theorem ck96:chkFn Tryz.prog 96 ir96=true:=by kernel_rfl
def ir99:AFn:=⟨5,2,[],.reg [] [Im 3 0,Io 4 (.call 100 [(.t 3)]),⟨none,none,.st 3 (.t 1) (.t 4),[]⟩]⟩
theorem ck99:chkFn Tryz.prog 99 ir99=true:=by kernel_rfl
def ir100 : AFn := ⟨44, 1, [.c 2 3 true], .seq (.reg [] [Io 2 (.alloc [.str [], .int .i64 0, .int .i64 0])])
 (.seq (.reg [] [Io 3 (.mv (.k (.int .i64 0)))])
 (.seq (.block 0 (.loop [0, 2, 3] (.seq (.seq (.reg [] [Im 6 0, Io 7 (.call 161 [(.t 6), (.k (.str [91]))])])
 (.cond (.t 7) (.skip) (.exit 0)))
 (.block 1 (.seq (.seq (.reg [] [Im 8 3, Io 9 (.bi .eql .i64 (.t 8) (.k (.int .i64 4)))])
 (.cond (.t 9) (.reg [] [Im 10 0, Io 11 (.call 160 [(.t 10), (.k (.int .i64 4))])]) (.skip)))
 (.seq (.reg [] [Im 12 0, Io 13 (.nilchk (.t 12)), If 14 1 13, Il 15 1 14, Io 16 (.bi .add .i64 (.t 15) (.k (.int .i64 1))), Io 17 (.nilchk (.t 12)), If 18 1 17, ⟨none, none, .st 1 (.t 18) (.t 16), []⟩])
 (.reg [] [Im 19 3, Io 20 (.bi .add .i64 (.t 19) (.k (.int .i64 1))), Im 3 20])))))))
 (.seq (.reg [] [Im 21 0, Io 22 (.call 183 [(.t 21)]), Im 23 3, Io 24 (.bld [.str [], .int .i64 0, .int .i64 0] [(0, 1, (.t 22)), (1, 1, (.t 23))]), Io 4 (.alloc [.str [], .int .i64 0, .int .i64 0]), ⟨none, none, .st 3 (.t 4) (.t 24), []⟩])
 (.seq (.seq (.reg [] [Im 25 3, Im 5 25])
 (.block 2 (.loop [0, 2, 3, 4, 5] (.seq (.seq (.reg [] [Im 26 5, Io 27 (.bi .geq .i64 (.t 26) (.k (.int .i64 0)))])
 (.cond (.t 27) (.skip) (.exit 2)))
 (.seq (.block 3 (.seq (.seq (.reg [] [Im 30 5, Im 31 3, Io 32 (.bi .lss .i64 (.t 30) (.t 31))])
 (.cond (.t 32) (.reg [] [Im 33 0, Io 34 (.call 182 [(.t 33), (.k (.str [93]))])]) (.skip)))
 (.seq (.reg [] [Im 35 0, Io 36 (.call 191 [(.t 35), (.k (.str [33]))])])
 (.cond (.t 36) (.reg [0, 1, 2, 3, 4, 5, 6] [If 37 2 4, Il 38 1 37, Im 39 5, Io 40 (.shf .shl (.k (.int .i64 1)) (.t 39)), Io 41 (.bi .or .i64 (.t 38) (.t 40)), If 42 2 4, ⟨none, none, .st 1 (.t 42) (.t 41), []⟩]) (.skip)))))
 (.reg [] [Im 28 5, Io 29 (.bi .sub .i64 (.t 28) (.k (.int .i64 1))), Im 5 29]))))))
 (.seq (.reg [] [Io 43 (.ld 3 true (.t 4)), ⟨none, none, .st 3 (.t 2) (.t 43), []⟩])
 (.ret))))))⟩
theorem ck100:chkFn Tryz.prog 100 ir100=true:=by kernel_rfl
def ir122 : AFn := ⟨25, 1, [.t 2], .seq (.reg [] [Io 2 (.mv (.k (.bool false)))])
 (.scope (.seq (.skip)
 (.seq (.seq (.reg [] [Io 3 (.mv (.k (.int .i64 0)))])
 (.block 0 (.loop [0, 3] (.seq (.seq (.reg [] [Im 6 3, Im 7 0, Io 8 (.lens (.t 7)), Io 9 (.bi .lss .i64 (.t 6) (.t 8))])
 (.cond (.t 9) (.skip) (.exit 0)))
 (.block 1 (.seq (.seq (.reg [] [Im 11 0, Im 12 3, Io 13 (.call 210 [(.t 11), (.t 12)]), Im 10 13, Io 14 (.ext (.t 10) 0), Io 15 (.ext (.t 10) 1), Im 4 14, Im 5 15])
 (.seq (.reg [] [Im 16 5, Io 17 (.bi .gtr .i64 (.t 16) (.k (.int .i64 0))), Im 18 17, Jt 19 18 (.mv (.t 4)), Jt 20 18 (.call 216 [(.t 19)]), Io 21 (.pick (.t 18) (.t 20) (.k (.bool false)))])
 (.cond (.t 21) (.seq (.reg [] [Im 22 3, Im 23 5, Io 24 (.bi .add .i64 (.t 22) (.t 23)), Im 3 24])
 (.exit 1)) (.skip))))
 (.seq (.reg [] [Io 2 (.mv (.k (.bool false)))])
 (.ret))))))))
 (.seq (.reg [] [Io 2 (.mv (.k (.bool true)))])
 (.ret)))))⟩
theorem ck122:chkFn Tryz.prog 122 ir122=true:=by kernel_rfl
def ir123 : AFn := ⟨39, 1, [.t 2], .seq (.reg [] [Io 2 (.mv (.k (.int .i64 0)))])
 (.seq (.seq (.reg [] [Im 5 0, Io 6 (.ixs (.t 5) (.k (.int .i64 0))), Im 3 6])
 (.block 0 (.seq (.reg [] [Im 8 3, Io 9 (.bi .eql .u8 (.t 8) (.k (.int .u8 9))), Im 10 9, Jf 11 10 (.mv (.t 3)), Jf 12 10 (.bi .eql .u8 (.t 11) (.k (.int .u8 10))), Io 13 (.pick (.t 10) (.k (.bool true)) (.t 12)), Im 14 13, Jf 15 14 (.mv (.t 3)), Jf 16 14 (.bi .eql .u8 (.t 15) (.k (.int .u8 13))), Io 17 (.pick (.t 14) (.k (.bool true)) (.t 16)), Im 18 17, Jf 19 18 (.mv (.t 3)), Jf 20 18 (.bi .eql .u8 (.t 19) (.k (.int .u8 32))), Io 21 (.pick (.t 18) (.k (.bool true)) (.t 20)), Im 22 21, Jf 23 22 (.mv (.t 3)), Jf 24 22 (.bi .eql .u8 (.t 23) (.k (.int .u8 44))), Io 25 (.pick (.t 22) (.k (.bool true)) (.t 24)), Im 7 25])
 (.cond (.t 7) (.seq (.reg [] [Io 2 (.mv (.k (.int .i64 1)))])
 (.ret)) (.seq (.reg [] [Im 27 0, Io 28 (.call 217 [(.t 27), (.k (.str [239, 187, 191]))]), Im 26 28])
 (.cond (.t 26) (.seq (.reg [] [Io 2 (.mv (.k (.int .i64 3)))])
 (.ret)) (.seq (.reg [] [Im 30 3, Io 31 (.bi .eql .u8 (.t 30) (.k (.int .u8 35))), Im 29 31])
 (.cond (.t 29) (.seq (.seq (.reg [] [Im 32 0, Io 33 (.call 218 [(.t 32), (.k (.str [13, 10]))]), Im 4 33])
 (.seq (.reg [] [Im 34 4, Io 35 (.bi .geq .i64 (.t 34) (.k (.int .i64 0)))])
 (.cond (.t 35) (.seq (.reg [] [Im 36 4, Im 2 36])
 (.ret)) (.skip))))
 (.seq (.reg [] [Im 37 0, Io 38 (.lens (.t 37)), Im 2 38])
 (.ret))) (.skip)))))))))
 (.seq (.reg [] [Io 2 (.mv (.k (.int .i64 0)))])
 (.ret)))⟩
theorem ck123:chkFn Tryz.prog 123 ir123=true:=by kernel_rfl
def ir124 : AFn := ⟨91, 1, [.c 2 2 true, .t 3], .seq (.reg [] [Io 2 (.alloc [.int .i64 0, .str []]), Io 3 (.mv (.k (.int .i64 0)))])
 (.seq (.reg [] [Im 12 0, Io 13 (.ixs (.t 12) (.k (.int .i64 0))), Im 4 13])
 (.seq (.block 0 (.seq (.reg [] [Im 15 0, Io 16 (.call 217 [(.t 15), (.k (.str [34, 34, 34]))]), Im 14 16])
 (.cond (.t 14) (.seq (.reg [] [Im 18 0, Io 19 (.call 219 [(.t 18)]), Im 17 19, Io 20 (.ext (.t 17) 0), Io 21 (.ext (.t 17) 1), Im 5 20, Im 6 21])
 (.seq (.reg [] [Im 22 5, Io 23 (.bld [.int .i64 0, .str []] [(0, 1, (.k (.int .i64 5))), (1, 1, (.t 22))]), Im 24 6, ⟨none, none, .st 2 (.t 2) (.t 23), []⟩, Im 3 24])
 (.ret))) (.seq (.reg [] [Im 26 4, Io 27 (.bi .eql .u8 (.t 26) (.k (.int .u8 34))), Im 25 27])
 (.cond (.t 25) (.seq (.reg [] [Im 29 0, Io 30 (.call 220 [(.t 29), (.k (.clo 221 [] []))]), Im 28 30, Io 31 (.ext (.t 28) 0), Io 32 (.ext (.t 28) 1), Im 7 31, Im 8 32])
 (.seq (.reg [] [Im 33 7, Io 34 (.bld [.int .i64 0, .str []] [(0, 1, (.k (.int .i64 5))), (1, 1, (.t 33))]), Im 35 8, ⟨none, none, .st 2 (.t 2) (.t 34), []⟩, Im 3 35])
 (.ret))) (.seq (.reg [] [Im 37 0, Io 38 (.call 217 [(.t 37), (.k (.str [46, 46, 46]))]), Im 36 38])
 (.cond (.t 36) (.seq (.reg [] [Io 39 (.bld [.int .i64 0, .str []] [(0, 1, (.k (.int .i64 1))), (1, 1, (.k (.str [46, 46, 46])))]), ⟨none, none, .st 2 (.t 2) (.t 39), []⟩, Io 3 (.mv (.k (.int .i64 3)))])
 (.ret)) (.seq (.reg [] [Im 41 4, Io 42 (.call 222 [(.k (.str [33, 36, 38, 40, 41, 58, 61, 64, 91, 93, 123, 124, 125])), (.t 41)]), Io 43 (.bi .geq .i64 (.t 42) (.k (.int .i64 0))), Im 40 43])
 (.cond (.t 40) (.seq (.reg [] [Im 44 0, Io 45 (.sls (.t 44) none (some (.k (.int .i64 1)))), Io 46 (.bld [.int .i64 0, .str []] [(0, 1, (.k (.int .i64 1))), (1, 1, (.t 45))]), ⟨none, none, .st 2 (.t 2) (.t 46), []⟩, Io 3 (.mv (.k (.int .i64 1)))])
 (.ret)) (.seq (.reg [] [Im 48 4, Io 49 (.call 223 [(.t 48)]), Im 47 49])
 (.cond (.t 47) (.seq (.reg [] [Im 50 0, Io 51 (.call 224 [(.t 50)]), Im 9 51])
 (.seq (.reg [] [Im 52 0, Im 53 9, Io 54 (.sls (.t 52) none (some (.t 53))), Io 55 (.bld [.int .i64 0, .str []] [(0, 1, (.k (.int .i64 2))), (1, 1, (.t 54))]), Im 56 9, ⟨none, none, .st 2 (.t 2) (.t 55), []⟩, Im 3 56])
 (.ret))) (.skip))))))))))))
 (.seq (.reg [] [Im 58 0, Io 59 (.call 225 [(.t 58)]), Im 57 59, Io 60 (.ext (.t 57) 0), Io 61 (.ext (.t 57) 1), Im 10 60, Im 11 61])
 (.seq (.seq (.reg [] [Im 62 10, Im 63 0, Io 64 (.lens (.t 63)), Io 65 (.bi .lss .i64 (.t 62) (.t 64)), Im 66 65, Jt 67 66 (.mv (.t 0)), Jt 68 66 (.mv (.t 10)), Jt 69 66 (.ixs (.t 67) (.t 68)), Jt 70 66 (.call 223 [(.t 69)]), Jt 71 66 (.mv (.t 70)), Jf 72 71 (.mv (.t 0)), Jf 73 71 (.mv (.t 10)), Jf 74 71 (.ixs (.t 72) (.t 73)), Jf 75 71 (.call 226 [(.t 74)]), Jt 76 66 (.pick (.t 71) (.k (.bool true)) (.t 75)), Jt 77 66 (.mv (.t 76)), Jf 78 77 (.mv (.t 0)), Jf 79 77 (.mv (.t 10)), Jf 80 77 (.ixs (.t 78) (.t 79)), Jf 81 77 (.bi .eql .u8 (.t 80) (.k (.int .u8 46))), Jt 82 66 (.pick (.t 77) (.k (.bool true)) (.t 81)), Io 83 (.pick (.t 66) (.t 82) (.k (.bool false)))])
 (.cond (.t 83) (.seq (.reg [] [Io 84 (.bld [.int .i64 0, .str []] []), ⟨none, none, .st 2 (.t 2) (.t 84), []⟩, Io 3 (.mv (.k (.int .i64 0)))])
 (.ret)) (.skip)))
 (.seq (.reg [] [Im 85 11, Im 86 0, Im 87 10, Io 88 (.sls (.t 86) none (some (.t 87))), Io 89 (.bld [.int .i64 0, .str []] [(0, 1, (.t 85)), (1, 1, (.t 88))]), Im 90 10, ⟨none, none, .st 2 (.t 2) (.t 89), []⟩, Im 3 90])
 (.ret))))))⟩
theorem ck124:chkFn Tryz.prog 124 ir124=true:=by kernel_rfl
def ir160:AFn:=⟨7,2,[],.reg [] [Im 4 1,Io 5 (.bld [.int .i64 0] [(0,1,(.t 4))]),Io 6 (.mki 186 (.t 5)),⟨none,none,.pan (.t 6),[]⟩]⟩
theorem ck160:chkFn Tryz.prog 160 ir160=true:=by kernel_rfl
def ir161 : AFn := ⟨10, 2, [.t 4], .seq (.reg [] [Io 4 (.mv (.k (.bool false)))])
 (.seq (.reg [] [Im 5 0, Io 6 (.call 174 [(.t 5)]), Im 7 1, Io 8 (.bld [.int .i64 0, .str []] [(0, 1, (.k (.int .i64 1))), (1, 1, (.t 7))]), Io 9 (.eqa false [(.i .i64), .s] (.t 6) (.t 8)), Im 4 9])
 (.ret))⟩
theorem ck161:chkFn Tryz.prog 161 ir161=true:=by kernel_rfl
def ir162 : AFn := ⟨21, 1, [.t 2], .seq (.reg [] [Io 2 (.mv (.k (.sl .nil 7 [])))])
 (.seq (.seq (.reg [] [Im 4 0, Io 5 (.call 179 [(.t 4), (.k (.str [123]))]), Io 6 (.not (.t 5))])
 (.cond (.t 6) (.reg [] [Im 7 0, Io 8 (.call 160 [(.t 7), (.k (.int .i64 2))])]) (.skip)))
 (.seq (.reg [] [Im 9 0, Io 10 (.call 247 [(.t 9)]), Io 11 (.bls 7 1 [.int .i64 0, .str [], .str [], .sl .nil 6 [], .sl .nil 2 [], .str [], .sl .nil 7 []] [(0, (.t 10))]), Im 3 11])
 (.seq (.block 0 (.loop [0, 3] (.seq (.seq (.reg [] [Im 12 0, Io 13 (.call 180 [(.t 12), (.k (.str [125]))]), Io 14 (.not (.t 13))])
 (.cond (.t 14) (.skip) (.exit 0)))
 (.block 1 (.reg [] [Im 15 3, Im 16 0, Io 17 (.call 247 [(.t 16)]), Io 18 (.bls 7 1 [.int .i64 0, .str [], .str [], .sl .nil 6 [], .sl .nil 2 [], .str [], .sl .nil 7 []] [(0, (.t 17))]), Io 19 (.app 7 128 (.t 15) (.t 18)), Im 3 19])))))
 (.seq (.reg [] [Im 20 3, Im 2 20])
 (.ret)))))⟩
theorem ck162:chkFn Tryz.prog 162 ir162=true:=by kernel_rfl
def ir163 : AFn := ⟨18, 2, [.t 4], .seq (.reg [] [Io 4 (.mv (.k (.bool false)))])
 (.seq (.reg [] [Im 6 0, Im 7 1, Io 8 (.call 248 [(.t 6), (.t 7)]), Im 5 8])
 (.seq (.seq (.reg [] [Im 9 5])
 (.cond (.t 9) (.reg [] [Im 10 0, Io 11 (.nilchk (.t 10)), If 12 1 11, Il 13 1 12, Io 14 (.bi .add .i64 (.t 13) (.k (.int .i64 1))), Io 15 (.nilchk (.t 10)), If 16 1 15, ⟨none, none, .st 1 (.t 16) (.t 14), []⟩]) (.skip)))
 (.seq (.reg [] [Im 17 5, Im 4 17])
 (.ret))))⟩
theorem ck163:chkFn Tryz.prog 163 ir163=true:=by kernel_rfl
def ir164 : AFn := ⟨41, 2, [.c 4 5 true], .seq (.reg [] [Io 4 (.alloc [.int .i64 0, .str [], .sl .nil 10 [], .sl .nil 2 [], .sl .nil 7 []])])
 (.seq (.reg [] [Im 6 1, Io 7 (.bld [.int .i64 0, .str [], .sl .nil 10 [], .sl .nil 2 [], .sl .nil 7 []] [(0, 1, (.t 6))]), Io 5 (.alloc [.int .i64 0, .str [], .sl .nil 10 [], .sl .nil 2 [], .sl .nil 7 []]), ⟨none, none, .st 5 (.t 5) (.t 7), []⟩])
 (.seq (.seq (.reg [] [Im 8 0, Io 9 (.call 174 [(.t 8)]), Io 10 (.fld 0 1 false (.t 9)), Io 11 (.bi .eql .i64 (.t 10) (.k (.int .i64 2)))])
 (.cond (.t 11) (.reg [] [Im 12 0, Io 13 (.call 183 [(.t 12)]), If 14 1 5, ⟨none, none, .st 1 (.t 14) (.t 13), []⟩]) (.skip)))
 (.seq (.seq (.reg [] [Im 15 0, Io 16 (.call 191 [(.t 15), (.k (.str [40]))])])
 (.cond (.t 16) (.seq (.reg [0, 1, 2, 3, 4, 5, 6, 7] [If 17 2 5, Il 18 1 17, Im 19 0, ⟨some 20, none, .call 249 [(.t 19)], [1]⟩, Io 21 (.bls 10 1 [.str [], .str [], .int .i64 0, .int .i64 0, .bool false, .int .i64 0, .int .i64 0, .str [], .sl .nil 5 [], .sl .nil 6 []] [(0, (.t 20))]), Io 22 (.app 10 136 (.t 18) (.t 21)), If 23 2 5, ⟨none, none, .st 1 (.t 23) (.t 22), []⟩])
 (.block 0 (.loop [0, 4, 5] (.seq (.seq (.reg [] [Im 24 0, Io 25 (.call 191 [(.t 24), (.k (.str [41]))]), Io 26 (.not (.t 25))])
 (.cond (.t 26) (.skip) (.exit 0)))
 (.block 1 (.reg [0, 1, 2, 3, 4, 5, 6, 7] [If 27 2 5, Il 28 1 27, Im 29 0, ⟨some 30, none, .call 249 [(.t 29)], [1]⟩, Io 31 (.bls 10 1 [.str [], .str [], .int .i64 0, .int .i64 0, .bool false, .int .i64 0, .int .i64 0, .str [], .sl .nil 5 [], .sl .nil 6 []] [(0, (.t 30))]), Io 32 (.app 10 136 (.t 28) (.t 31)), If 33 2 5, ⟨none, none, .st 1 (.t 33) (.t 32), []⟩])))))) (.skip)))
 (.seq (.reg [] [Im 34 0, Io 35 (.call 250 [(.t 34), (.k (.bool true))]), If 36 3 5, ⟨none, none, .st 1 (.t 36) (.t 35), []⟩])
 (.seq (.reg [] [Im 37 0, Io 38 (.call 162 [(.t 37)]), If 39 4 5, ⟨none, none, .st 1 (.t 39) (.t 38), []⟩])
 (.seq (.reg [] [Io 40 (.ld 5 true (.t 5)), ⟨none, none, .st 5 (.t 4) (.t 40), []⟩])
 (.ret)))))))⟩
theorem ck164:chkFn Tryz.prog 164 ir164=true:=by kernel_rfl
def ir165 : AFn := ⟨22, 1, [.c 2 4 true], .seq (.reg [] [Io 2 (.alloc [.str [], .str [], .sl .nil 2 [], .sl .nil 7 []])])
 (.seq (.reg [] [Im 4 0, Io 5 (.call 251 [(.t 4)]), Io 6 (.bld [.str [], .str [], .sl .nil 2 [], .sl .nil 7 []] [(0, 1, (.t 5))]), Io 3 (.alloc [.str [], .str [], .sl .nil 2 [], .sl .nil 7 []]), ⟨none, none, .st 4 (.t 3) (.t 6), []⟩])
 (.seq (.seq (.reg [] [Im 7 0, Io 8 (.call 163 [(.t 7), (.k (.str [111, 110]))]), Io 9 (.not (.t 8))])
 (.cond (.t 9) (.reg [] [Im 10 0, Io 11 (.call 160 [(.t 10), (.k (.int .i64 2))])]) (.skip)))
 (.seq (.reg [] [Im 12 0, Io 13 (.call 183 [(.t 12)]), If 14 1 3, ⟨none, none, .st 1 (.t 14) (.t 13), []⟩])
 (.seq (.reg [] [Im 15 0, Io 16 (.call 250 [(.t 15), (.k (.bool true))]), If 17 2 3, ⟨none, none, .st 1 (.t 17) (.t 16), []⟩])
 (.seq (.reg [] [Im 18 0, Io 19 (.call 162 [(.t 18)]), If 20 3 3, ⟨none, none, .st 1 (.t 20) (.t 19), []⟩])
 (.seq (.reg [] [Io 21 (.ld 4 true (.t 3)), ⟨none, none, .st 4 (.t 2) (.t 21), []⟩])
 (.ret)))))))⟩
theorem ck165:chkFn Tryz.prog 165 ir165=true:=by kernel_rfl
def ir174 : AFn := ⟨17, 1, [.c 2 2 true], .seq (.reg [] [Io 2 (.alloc [.int .i64 0, .str []])])
 (.seq (.seq (.reg [] [Im 3 0, Io 4 (.call 92 [(.t 3)]), Io 5 (.not (.t 4))])
 (.cond (.t 5) (.seq (.reg [] [Io 6 (.bld [.int .i64 0, .str []] []), ⟨none, none, .st 2 (.t 2) (.t 6), []⟩])
 (.ret)) (.skip)))
 (.seq (.reg [0, 1, 2, 3, 4, 5, 6, 7, 8, 9, 10] [Im 7 0, Io 8 (.nilchk (.t 7)), If 9 0 8, Il 10 1 9, Im 11 0, Io 12 (.nilchk (.t 11)), If 13 1 12, Il 14 1 13, Io 15 (.ia 2 (.t 10) (.t 14)), Io 16 (.ld 2 true (.t 15)), ⟨none, none, .st 2 (.t 2) (.t 16), []⟩])
 (.ret)))⟩
theorem ck174:chkFn Tryz.prog 174 ir174=true:=by kernel_rfl
def ir175 : AFn := ⟨15, 1, [.c 2 5 true], .seq (.reg [] [Io 2 (.alloc [.int .i64 0, .int .i64 0, .str [], .sl .nil 5 [], .sl .nil 6 []])])
 (.seq (.seq (.reg [] [Im 3 0])
 (.block 0 (.seq (.reg [] [Io 5 (.bs .eql (.t 3) (.k (.str [110, 117, 108, 108]))), Im 4 5])
 (.cond (.t 4) (.seq (.reg [] [Io 6 (.bld [.int .i64 0, .int .i64 0, .str [], .sl .nil 5 [], .sl .nil 6 []] []), ⟨none, none, .st 5 (.t 2) (.t 6), []⟩])
 (.ret)) (.seq (.reg [] [Io 8 (.bs .eql (.t 3) (.k (.str [116, 114, 117, 101]))), Im 7 8])
 (.cond (.t 7) (.seq (.reg [] [Io 9 (.bld [.int .i64 0, .int .i64 0, .str [], .sl .nil 5 [], .sl .nil 6 []] [(0, 1, (.k (.int .i64 1))), (1, 1, (.k (.int .i64 1)))]), ⟨none, none, .st 5 (.t 2) (.t 9), []⟩])
 (.ret)) (.seq (.reg [] [Io 11 (.bs .eql (.t 3) (.k (.str [102, 97, 108, 115, 101]))), Im 10 11])
 (.cond (.t 10) (.seq (.reg [] [Io 12 (.bld [.int .i64 0, .int .i64 0, .str [], .sl .nil 5 [], .sl .nil 6 []] [(0, 1, (.k (.int .i64 1)))]), ⟨none, none, .st 5 (.t 2) (.t 12), []⟩])
 (.ret)) (.skip)))))))))
 (.seq (.reg [] [Im 13 0, Io 14 (.bld [.int .i64 0, .int .i64 0, .str [], .sl .nil 5 [], .sl .nil 6 []] [(0, 1, (.k (.int .i64 5))), (2, 1, (.t 13))]), ⟨none, none, .st 5 (.t 2) (.t 14), []⟩])
 (.ret)))⟩
theorem ck175:chkFn Tryz.prog 175 ir175=true:=by kernel_rfl
def ir176 : AFn := ⟨19, 1, [.t 2, .t 3], .seq (.reg [] [Io 2 (.mv (.k (.int .i64 0))), Io 3 (.mv (.k (.bool false)))])
 (.seq (.reg [] [Im 7 0, Io 8 (.call 260 [(.t 7), (.k (.int .i64 10)), (.k (.int .i64 64))]), Im 6 8, Io 9 (.ext (.t 6) 0), Io 10 (.ext (.t 6) 1), Im 4 9, Im 5 10])
 (.seq (.reg [] [Im 11 4, Im 12 5, Io 13 (.ifnil false (.t 12)), Im 14 13, Jt 15 14 (.mv (.t 0)), Jt 16 14 (.call 207 [(.t 15)]), Jt 17 14 (.bi .eql .i64 (.t 16) (.k (.int .i64 3))), Io 18 (.pick (.t 14) (.t 17) (.k (.bool false))), Im 2 11, Im 3 18])
 (.ret)))⟩
theorem ck176:chkFn Tryz.prog 176 ir176=true:=by kernel_rfl
def ir177 : AFn := ⟨5, 1, [.c 2 5 true], .seq (.reg [] [Io 2 (.alloc [.int .i64 0, .int .i64 0, .str [], .sl .nil 5 [], .sl .nil 6 []])])
 (.seq (.reg [] [Im 3 0, Io 4 (.bld [.int .i64 0, .int .i64 0, .str [], .sl .nil 5 [], .sl .nil 6 []] [(0, 1, (.k (.int .i64 2))), (1, 1, (.t 3))]), ⟨none, none, .st 5 (.t 2) (.t 4), []⟩])
 (.ret))⟩
theorem ck177:chkFn Tryz.prog 177 ir177=true:=by kernel_rfl
def ir178 : AFn := ⟨5, 1, [.c 2 5 true], .seq (.reg [] [Io 2 (.alloc [.int .i64 0, .int .i64 0, .str [], .sl .nil 5 [], .sl .nil 6 []])])
 (.seq (.reg [] [Im 3 0, Io 4 (.bld [.int .i64 0, .int .i64 0, .str [], .sl .nil 5 [], .sl .nil 6 []] [(0, 1, (.k (.int .i64 4))), (2, 1, (.t 3))]), ⟨none, none, .st 5 (.t 2) (.t 4), []⟩])
 (.ret))⟩
theorem ck178:chkFn Tryz.prog 178 ir178=true:=by kernel_rfl
def ir179 : AFn := ⟨28, 2, [.t 4], .seq (.reg [] [Io 4 (.mv (.k (.bool false)))])
 (.seq (.seq (.reg [] [Im 5 0, Im 6 1, Io 7 (.call 161 [(.t 5), (.t 6)]), Im 8 7, Jt 9 8 (.mv (.t 0)), Jt 10 8 (.nilchk (.t 9)), Jt 11 8 (.fa 2 (.t 10)), Jt 12 8 (.ld 1 false (.t 11)), Jt 13 8 (.bi .geq .i64 (.t 12) (.k (.int .i64 16))), Io 14 (.pick (.t 8) (.t 13) (.k (.bool false)))])
 (.cond (.t 14) (.reg [] [Im 15 0, Io 16 (.call 160 [(.t 15), (.k (.int .i64 4))])]) (.skip)))
 (.seq (.seq (.reg [] [Im 17 0, Im 18 1, Io 19 (.call 191 [(.t 17), (.t 18)]), Io 20 (.not (.t 19))])
 (.cond (.t 20) (.seq (.reg [] [Io 4 (.mv (.k (.bool false)))])
 (.ret)) (.skip)))
 (.seq (.reg [] [Im 21 0, Io 22 (.nilchk (.t 21)), If 23 2 22, Il 24 1 23, Io 25 (.bi .add .i64 (.t 24) (.k (.int .i64 1))), Io 26 (.nilchk (.t 21)), If 27 2 26, ⟨none, none, .st 1 (.t 27) (.t 25), []⟩])
 (.seq (.reg [] [Io 4 (.mv (.k (.bool true)))])
 (.ret)))))⟩
theorem ck179:chkFn Tryz.prog 179 ir179=true:=by kernel_rfl
def ir180 : AFn := ⟨16, 2, [.t 4], .seq (.reg [] [Io 4 (.mv (.k (.bool false)))])
 (.seq (.seq (.reg [] [Im 5 0, Im 6 1, Io 7 (.call 191 [(.t 5), (.t 6)]), Io 8 (.not (.t 7))])
 (.cond (.t 8) (.seq (.reg [] [Io 4 (.mv (.k (.bool false)))])
 (.ret)) (.skip)))
 (.seq (.reg [] [Im 9 0, Io 10 (.nilchk (.t 9)), If 11 2 10, Il 12 1 11, Io 13 (.bi .sub .i64 (.t 12) (.k (.int .i64 1))), Io 14 (.nilchk (.t 9)), If 15 2 14, ⟨none, none, .st 1 (.t 15) (.t 13), []⟩])
 (.seq (.reg [] [Io 4 (.mv (.k (.bool true)))])
 (.ret))))⟩
theorem ck180:chkFn Tryz.prog 180 ir180=true:=by kernel_rfl
def ir181 : AFn := ⟨15, 2, [.c 4 6 true], .seq (.reg [] [Io 4 (.alloc [.str [], .int .i64 0, .int .i64 0, .str [], .sl .nil 5 [], .sl .nil 6 []])])
 (.seq (.reg [] [Im 6 0, Io 7 (.call 183 [(.t 6)]), Im 5 7])
 (.seq (.reg [] [Im 8 0, Io 9 (.call 182 [(.t 8), (.k (.str [58]))])])
 (.seq (.reg [] [Im 10 5, Im 11 0, Im 12 1, Io 13 (.call 96 [(.t 11), (.t 12)]), Io 14 (.bld [.str [], .int .i64 0, .int .i64 0, .str [], .sl .nil 5 [], .sl .nil 6 []] [(0, 1, (.t 10)), (1, 5, (.t 13))]), ⟨none, none, .st 6 (.t 4) (.t 14), []⟩])
 (.ret))))⟩
theorem ck181:chkFn Tryz.prog 181 ir181=true:=by kernel_rfl
def ir182 : AFn := ⟨10, 2, [], .seq (.reg [] [Im 4 0, Im 5 1, Io 6 (.call 191 [(.t 4), (.t 5)]), Io 7 (.not (.t 6))])
 (.cond (.t 7) (.reg [] [Im 8 0, Io 9 (.call 160 [(.t 8), (.k (.int .i64 2))])]) (.skip))⟩
theorem ck182:chkFn Tryz.prog 182 ir182=true:=by kernel_rfl
def ir183 : AFn := ⟨20, 1, [.t 2], .seq (.reg [] [Io 2 (.mv (.k (.str [])))])
 (.seq (.reg [] [Im 4 0, Io 5 (.call 174 [(.t 4)]), Io 3 (.alloc [.int .i64 0, .str []]), ⟨none, none, .st 2 (.t 3) (.t 5), []⟩])
 (.seq (.seq (.reg [] [If 6 0 3, Il 7 1 6, Io 8 (.bi .neq .i64 (.t 7) (.k (.int .i64 2)))])
 (.cond (.t 8) (.reg [] [Im 9 0, Io 10 (.call 160 [(.t 9), (.k (.int .i64 2))])]) (.skip)))
 (.seq (.reg [] [Im 11 0, Io 12 (.nilchk (.t 11)), If 13 1 12, Il 14 1 13, Io 15 (.bi .add .i64 (.t 14) (.k (.int .i64 1))), Io 16 (.nilchk (.t 11)), If 17 1 16, ⟨none, none, .st 1 (.t 17) (.t 15), []⟩])
 (.seq (.reg [] [If 18 1 3, Il 19 1 18, Im 2 19])
 (.ret)))))⟩
theorem ck183:chkFn Tryz.prog 183 ir183=true:=by kernel_rfl
def ir191 : AFn := ⟨18, 2, [.t 4], .seq (.reg [] [Io 4 (.mv (.k (.bool false)))])
 (.seq (.reg [] [Im 6 0, Im 7 1, Io 8 (.call 161 [(.t 6), (.t 7)]), Im 5 8])
 (.seq (.seq (.reg [] [Im 9 5])
 (.cond (.t 9) (.reg [] [Im 10 0, Io 11 (.nilchk (.t 10)), If 12 1 11, Il 13 1 12, Io 14 (.bi .add .i64 (.t 13) (.k (.int .i64 1))), Io 15 (.nilchk (.t 10)), If 16 1 15, ⟨none, none, .st 1 (.t 16) (.t 14), []⟩]) (.skip)))
 (.seq (.reg [] [Im 17 5, Im 4 17])
 (.ret))))⟩
theorem ck191:chkFn Tryz.prog 191 ir191=true:=by kernel_rfl
def ir207 : AFn := ⟨15, 1, [.t 2], .seq (.reg [] [Io 2 (.mv (.k (.int .i64 0)))])
 (.seq (.reg [] [Im 6 0, Io 7 (.call 225 [(.t 6)]), Im 5 7, Io 8 (.ext (.t 5) 0), Io 9 (.ext (.t 5) 1), Im 3 8, Im 4 9])
 (.seq (.seq (.reg [] [Im 10 3, Im 11 0, Io 12 (.lens (.t 11)), Io 13 (.bi .neq .i64 (.t 10) (.t 12))])
 (.cond (.t 13) (.seq (.reg [] [Io 2 (.mv (.k (.int .i64 0)))])
 (.ret)) (.skip)))
 (.seq (.reg [] [Im 14 4, Im 2 14])
 (.ret))))⟩
theorem ck207:chkFn Tryz.prog 207 ir207=true:=by kernel_rfl
def ir210 : AFn := ⟨32, 2, [.t 4, .t 5], .seq (.reg [] [Io 4 (.mv (.k (.int .i64 0))), Io 5 (.mv (.k (.int .i64 0)))])
 (.seq (.seq (.reg [] [Im 8 1, Io 9 (.bi .lss .i64 (.t 8) (.k (.int .i64 0))), Im 10 9, Jf 11 10 (.mv (.t 1)), Jf 12 10 (.mv (.t 0)), Jf 13 10 (.lens (.t 12)), Jf 14 10 (.bi .geq .i64 (.t 11) (.t 13)), Io 15 (.pick (.t 10) (.k (.bool true)) (.t 14))])
 (.cond (.t 15) (.seq (.reg [] [Io 4 (.mv (.k (.int .i64 0))), Io 5 (.mv (.k (.int .i64 0)))])
 (.ret)) (.skip)))
 (.seq (.reg [] [Im 17 0, Im 18 1, Io 19 (.sls (.t 17) (some (.t 18)) none), Io 20 (.call 272 [(.t 19)]), Im 16 20, Io 21 (.ext (.t 16) 0), Io 22 (.ext (.t 16) 1), Im 6 21, Im 7 22])
 (.seq (.seq (.reg [] [Im 23 6, Io 24 (.bi .eql .i32 (.t 23) (.k (.int .i32 65533))), Im 25 24, Jt 26 25 (.mv (.t 7)), Jt 27 25 (.bi .lss .i64 (.t 26) (.k (.int .i64 2))), Io 28 (.pick (.t 25) (.t 27) (.k (.bool false)))])
 (.cond (.t 28) (.seq (.reg [] [Io 4 (.mv (.k (.int .i64 0))), Io 5 (.mv (.k (.int .i64 0)))])
 (.ret)) (.skip)))
 (.seq (.reg [] [Im 29 6, Io 30 (.cvi .i64 (.t 29)), Im 31 7, Im 4 30, Im 5 31])
 (.ret)))))⟩
theorem ck210:chkFn Tryz.prog 210 ir210=true:=by kernel_rfl
def ir216 : AFn := ⟨21, 1, [.t 2], .seq (.reg [] [Io 2 (.mv (.k (.bool false)))])
 (.seq (.reg [] [Im 3 0, Io 4 (.bi .eql .i64 (.t 3) (.k (.int .i64 9))), Im 5 4, Jf 6 5 (.mv (.t 0)), Jf 7 5 (.bi .eql .i64 (.t 6) (.k (.int .i64 10))), Io 8 (.pick (.t 5) (.k (.bool true)) (.t 7)), Im 9 8, Jf 10 9 (.mv (.t 0)), Jf 11 9 (.bi .eql .i64 (.t 10) (.k (.int .i64 13))), Io 12 (.pick (.t 9) (.k (.bool true)) (.t 11)), Im 13 12, Jf 14 13 (.mv (.t 0)), Jf 15 13 (.bi .geq .i64 (.t 14) (.k (.int .i64 32))), Jf 16 13 (.mv (.t 15)), Jt 17 16 (.mv (.t 0)), Jt 18 16 (.bi .leq .i64 (.t 17) (.k (.int .i64 65535))), Jf 19 13 (.pick (.t 16) (.t 18) (.k (.bool false))), Io 20 (.pick (.t 13) (.k (.bool true)) (.t 19)), Im 2 20])
 (.ret))⟩
theorem ck216:chkFn Tryz.prog 216 ir216=true:=by kernel_rfl
def ir219 : AFn := ⟨38, 1, [.t 2, .t 3], .seq (.reg [] [Io 2 (.mv (.k (.str []))), Io 3 (.mv (.k (.int .i64 0)))])
 (.scope (.seq (.reg [] [Io 4 (.mv (.k (.sl .nil 1 [])))])
 (.seq (.reg [] [Io 5 (.mv (.k (.int .i64 3)))])
 (.seq (.skip)
 (.seq (.block 0 (.loop [0, 4, 5] (.block 1 (.seq (.block 2 (.seq (.reg [] [Im 7 5, Im 8 0, Io 9 (.lens (.t 8)), Io 10 (.bi .geq .i64 (.t 7) (.t 9)), Im 6 10])
 (.cond (.t 6) (.seq (.reg [] [Io 2 (.mv (.k (.str []))), Io 3 (.mv (.k (.int .i64 0)))])
 (.ret)) (.seq (.reg [] [Im 12 0, Im 13 5, Io 14 (.sls (.t 12) (some (.t 13)) none), Io 15 (.call 217 [(.t 14), (.k (.str [34, 34, 34]))]), Im 11 15])
 (.cond (.t 11) (.exit 0) (.seq (.reg [] [Im 17 0, Im 18 5, Io 19 (.sls (.t 17) (some (.t 18)) none), Io 20 (.call 217 [(.t 19), (.k (.str [92, 34, 34, 34]))]), Im 16 20])
 (.cond (.t 16) (.seq (.reg [] [Im 21 4, Io 22 (.apps (.t 21) (.k (.str [34, 34, 34]))), Im 4 22])
 (.seq (.reg [] [Im 23 5, Io 24 (.bi .add .i64 (.t 23) (.k (.int .i64 4))), Im 5 24])
 (.exit 1))) (.skip))))))))
 (.seq (.reg [] [Im 25 4, Im 26 0, Im 27 5, Io 28 (.ixs (.t 26) (.t 27)), Io 29 (.bls 1 1 [.int .u8 0] [(0, (.t 28))]), Io 30 (.app 1 1 (.t 25) (.t 29)), Im 4 30])
 (.reg [] [Im 31 5, Io 32 (.bi .add .i64 (.t 31) (.k (.int .i64 1))), Im 5 32]))))))
 (.seq (.reg [] [Im 33 4, Io 34 (.cvb2s (.t 33)), Io 35 (.call 280 [(.t 34)]), Im 36 5, Io 37 (.bi .add .i64 (.t 36) (.k (.int .i64 3))), Im 2 35, Im 3 37])
 (.ret)))))))⟩
theorem ck219:chkFn Tryz.prog 219 ir219=true:=by kernel_rfl
def ir220 : AFn := ⟨75, 2, [.t 4, .t 5], .seq (.reg [] [Io 4 (.mv (.k (.str []))), Io 5 (.mv (.k (.int .i64 0)))])
 (.scope (.seq (.reg [] [Io 9 (.bld [.sl .nil 1 [], .sl .nil 1 [], .bool false] [(2, 1, (.k (.bool true)))]), Io 10 (.box (.t 9)), Im 6 10])
 (.seq (.reg [] [Io 7 (.mv (.k (.int .i64 1)))])
 (.seq (.skip)
 (.seq (.block 0 (.loop [0, 1, 6, 7] (.block 1 (.seq (.block 2 (.seq (.reg [] [Im 12 7, Im 13 0, Io 14 (.lens (.t 13)), Io 15 (.bi .geq .i64 (.t 12) (.t 14)), Im 11 15])
 (.cond (.t 11) (.seq (.reg [] [Io 4 (.mv (.k (.str []))), Io 5 (.mv (.k (.int .i64 0)))])
 (.ret)) (.seq (.reg [] [Im 17 0, Im 18 7, Io 19 (.ixs (.t 17) (.t 18)), Io 20 (.bi .eql .u8 (.t 19) (.k (.int .u8 34))), Im 16 20])
 (.cond (.t 16) (.exit 0) (.seq (.reg [] [Im 22 0, Im 23 7, Io 24 (.ixs (.t 22) (.t 23)), Io 25 (.bi .eql .u8 (.t 24) (.k (.int .u8 92))), Im 21 25])
 (.cond (.t 21) (.seq (.reg [] [Im 26 6, Im 27 0, Im 28 7, Io 29 (.bi .add .i64 (.t 28) (.k (.int .i64 1))), Io 30 (.sls (.t 27) (some (.t 29)) none), Io 31 (.call 281 [(.t 26), (.t 30)]), Im 8 31])
 (.seq (.seq (.reg [] [Im 32 8, Io 33 (.bi .eql .i64 (.t 32) (.k (.int .i64 0)))])
 (.cond (.t 33) (.seq (.reg [] [Io 4 (.mv (.k (.str []))), Io 5 (.mv (.k (.int .i64 0)))])
 (.ret)) (.skip)))
 (.seq (.reg [] [Im 34 7, Im 35 8, Io 36 (.bi .add .i64 (.k (.int .i64 1)) (.t 35)), Io 37 (.bi .add .i64 (.t 34) (.t 36)), Im 7 37])
 (.exit 1)))) (.seq (.reg [] [Im 39 1, Im 40 0, Im 41 7, Io 42 (.ixs (.t 40) (.t 41)), Io 43 (.callv (.t 39) [(.t 42)]), Io 44 (.not (.t 43)), Im 38 44])
 (.cond (.t 38) (.seq (.reg [] [Io 4 (.mv (.k (.str []))), Io 5 (.mv (.k (.int .i64 0)))])
 (.ret)) (.skip))))))))))
 (.seq (.reg [] [Im 45 6, Io 46 (.call 282 [(.t 45)])])
 (.seq (.reg [0, 1, 2, 3, 4, 5, 6, 7, 8, 9, 10, 11, 12] [Im 47 6, Im 48 6, Io 49 (.nilchk (.t 48)), If 50 0 49, Il 51 1 50, Im 52 0, Im 53 7, Io 54 (.ixs (.t 52) (.t 53)), Io 55 (.bls 1 1 [.int .u8 0] [(0, (.t 54))]), Io 56 (.app 1 1 (.t 51) (.t 55)), Io 57 (.nilchk (.t 47)), If 58 0 57, ⟨none, none, .st 1 (.t 58) (.t 56), []⟩])
 (.reg [] [Im 59 7, Io 60 (.bi .add .i64 (.t 59) (.k (.int .i64 1))), Im 7 60])))))))
 (.seq (.reg [] [Im 61 6, Io 62 (.call 282 [(.t 61)])])
 (.seq (.seq (.reg [] [Im 63 6, Io 64 (.nilchk (.t 63)), If 65 2 64, Il 66 1 65, Io 67 (.not (.t 66))])
 (.cond (.t 67) (.seq (.reg [] [Io 4 (.mv (.k (.str []))), Io 5 (.mv (.k (.int .i64 0)))])
 (.ret)) (.skip)))
 (.seq (.reg [] [Im 68 6, Io 69 (.nilchk (.t 68)), If 70 0 69, Il 71 1 70, Io 72 (.cvb2s (.t 71)), Im 73 7, Io 74 (.bi .add .i64 (.t 73) (.k (.int .i64 1))), Im 4 72, Im 5 74])
 (.ret)))))))))⟩
theorem ck220:chkFn Tryz.prog 220 ir220=true:=by kernel_rfl
def ir221 : AFn := ⟨9, 1, [.t 2], .seq (.reg [] [Io 2 (.mv (.k (.bool false)))])
 (.seq (.reg [] [Im 3 0, Io 4 (.bi .neq .u8 (.t 3) (.k (.int .u8 10))), Im 5 4, Jt 6 5 (.mv (.t 0)), Jt 7 5 (.bi .neq .u8 (.t 6) (.k (.int .u8 13))), Io 8 (.pick (.t 5) (.t 7) (.k (.bool false))), Im 2 8])
 (.ret))⟩
theorem ck221:chkFn Tryz.prog 221 ir221=true:=by kernel_rfl
def ir223 : AFn := ⟨21, 1, [.t 2], .seq (.reg [] [Io 2 (.mv (.k (.bool false)))])
 (.seq (.reg [] [Im 3 0, Io 4 (.bi .geq .u8 (.t 3) (.k (.int .u8 97))), Im 5 4, Jt 6 5 (.mv (.t 0)), Jt 7 5 (.bi .leq .u8 (.t 6) (.k (.int .u8 122))), Io 8 (.pick (.t 5) (.t 7) (.k (.bool false))), Im 9 8, Jf 10 9 (.mv (.t 0)), Jf 11 9 (.bi .geq .u8 (.t 10) (.k (.int .u8 65))), Jf 12 9 (.mv (.t 11)), Jt 13 12 (.mv (.t 0)), Jt 14 12 (.bi .leq .u8 (.t 13) (.k (.int .u8 90))), Jf 15 9 (.pick (.t 12) (.t 14) (.k (.bool false))), Io 16 (.pick (.t 9) (.k (.bool true)) (.t 15)), Im 17 16, Jf 18 17 (.mv (.t 0)), Jf 19 17 (.bi .eql .u8 (.t 18) (.k (.int .u8 95))), Io 20 (.pick (.t 17) (.k (.bool true)) (.t 19)), Im 2 20])
 (.ret))⟩
theorem ck223:chkFn Tryz.prog 223 ir223=true:=by kernel_rfl
def ir224 : AFn := ⟨27, 1, [.t 2], .seq (.reg [] [Io 2 (.mv (.k (.int .i64 0)))])
 (.seq (.reg [] [Io 3 (.mv (.k (.int .i64 0)))])
 (.seq (.block 0 (.loop [0, 3] (.seq (.seq (.reg [] [Im 4 3, Im 5 0, Io 6 (.lens (.t 5)), Io 7 (.bi .lss .i64 (.t 4) (.t 6)), Im 8 7, Jt 9 8 (.mv (.t 0)), Jt 10 8 (.mv (.t 3)), Jt 11 8 (.ixs (.t 9) (.t 10)), Jt 12 8 (.call 223 [(.t 11)]), Jt 13 8 (.mv (.t 12)), Jf 14 13 (.mv (.t 3)), Jf 15 13 (.bi .gtr .i64 (.t 14) (.k (.int .i64 0))), Jf 16 13 (.mv (.t 15)), Jt 17 16 (.mv (.t 0)), Jt 18 16 (.mv (.t 3)), Jt 19 16 (.ixs (.t 17) (.t 18)), Jt 20 16 (.call 226 [(.t 19)]), Jf 21 13 (.pick (.t 16) (.t 20) (.k (.bool false))), Jt 22 8 (.pick (.t 13) (.k (.bool true)) (.t 21)), Io 23 (.pick (.t 8) (.t 22) (.k (.bool false)))])
 (.cond (.t 23) (.skip) (.exit 0)))
 (.block 1 (.reg [] [Im 24 3, Io 25 (.bi .add .i64 (.t 24) (.k (.int .i64 1))), Im 3 25])))))
 (.seq (.reg [] [Im 26 3, Im 2 26])
 (.ret))))⟩
theorem ck224:chkFn Tryz.prog 224 ir224=true:=by kernel_rfl
def ir225 : AFn := ⟨38, 1, [.t 2, .t 3], .seq (.reg [] [Io 2 (.mv (.k (.int .i64 0))), Io 3 (.mv (.k (.int .i64 0)))])
 (.seq (.reg [] [Im 8 0, Io 9 (.call 284 [(.t 8)]), Im 4 9])
 (.seq (.seq (.reg [] [Im 10 4, Io 11 (.bi .eql .i64 (.t 10) (.k (.int .i64 0)))])
 (.cond (.t 11) (.seq (.reg [] [Io 2 (.mv (.k (.int .i64 0))), Io 3 (.mv (.k (.int .i64 0)))])
 (.ret)) (.skip)))
 (.seq (.reg [] [Io 5 (.mv (.k (.int .i64 3)))])
 (.seq (.seq (.reg [] [Im 12 0, Im 13 4, Io 14 (.sls (.t 12) (some (.t 13)) none), Io 15 (.call 217 [(.t 14), (.k (.str [46]))])])
 (.cond (.t 15) (.seq (.reg [] [Im 16 0, Im 17 4, Io 18 (.bi .add .i64 (.t 17) (.k (.int .i64 1))), Io 19 (.sls (.t 16) (some (.t 18)) none), Io 20 (.call 285 [(.t 19)]), Im 6 20])
 (.seq (.reg [] [Im 21 6, Io 22 (.bi .gtr .i64 (.t 21) (.k (.int .i64 0)))])
 (.cond (.t 22) (.reg [] [Im 23 4, Io 24 (.bi .add .i64 (.t 23) (.k (.int .i64 1))), Im 25 6, Io 26 (.bi .add .i64 (.t 24) (.t 25)), Im 4 26, Io 5 (.mv (.k (.int .i64 4)))]) (.skip)))) (.skip)))
 (.seq (.seq (.reg [] [Im 27 0, Im 28 4, Io 29 (.sls (.t 27) (some (.t 28)) none), Io 30 (.call 286 [(.t 29)]), Im 7 30])
 (.seq (.reg [] [Im 31 7, Io 32 (.bi .gtr .i64 (.t 31) (.k (.int .i64 0)))])
 (.cond (.t 32) (.reg [] [Im 33 4, Im 34 7, Io 35 (.bi .add .i64 (.t 33) (.t 34)), Im 4 35, Io 5 (.mv (.k (.int .i64 4)))]) (.skip))))
 (.seq (.reg [] [Im 36 4, Im 37 5, Im 2 36, Im 3 37])
 (.ret)))))))⟩
theorem ck225:chkFn Tryz.prog 225 ir225=true:=by kernel_rfl
def ir226 : AFn := ⟨9, 1, [.t 2], .seq (.reg [] [Io 2 (.mv (.k (.bool false)))])
 (.seq (.reg [] [Im 3 0, Io 4 (.bi .geq .u8 (.t 3) (.k (.int .u8 48))), Im 5 4, Jt 6 5 (.mv (.t 0)), Jt 7 5 (.bi .leq .u8 (.t 6) (.k (.int .u8 57))), Io 8 (.pick (.t 5) (.t 7) (.k (.bool false))), Im 2 8])
 (.ret))⟩
theorem ck226:chkFn Tryz.prog 226 ir226=true:=by kernel_rfl
def ir247 : AFn := ⟨31, 1, [.c 2 7 true], .seq (.reg [] [Io 2 (.alloc [.int .i64 0, .str [], .str [], .sl .nil 6 [], .sl .nil 2 [], .str [], .sl .nil 7 []])])
 (.seq (.seq (.reg [] [Im 4 0, Io 5 (.call 191 [(.t 4), (.k (.str [46, 46, 46]))])])
 (.cond (.t 5) (.seq (.reg [] [Im 6 0, Io 7 (.call 299 [(.t 6)]), ⟨none, none, .st 7 (.t 2) (.t 7), []⟩])
 (.ret)) (.skip)))
 (.seq (.reg [] [Im 8 0, Io 9 (.call 183 [(.t 8)]), Io 10 (.bld [.int .i64 0, .str [], .str [], .sl .nil 6 [], .sl .nil 2 [], .str [], .sl .nil 7 []] [(2, 1, (.t 9))]), Io 3 (.alloc [.int .i64 0, .str [], .str [], .sl .nil 6 [], .sl .nil 2 [], .str [], .sl .nil 7 []]), ⟨none, none, .st 7 (.t 3) (.t 10), []⟩])
 (.seq (.seq (.reg [] [Im 11 0, Io 12 (.call 191 [(.t 11), (.k (.str [58]))])])
 (.cond (.t 12) (.reg [0, 1, 2, 4, 3, 5, 6, 7] [If 13 2 3, Il 14 1 13, Im 15 0, If 17 1 3, ⟨some 16, none, .call 183 [(.t 15)], [1]⟩, ⟨none, none, .st 1 (.t 17) (.t 14), []⟩, If 18 2 3, ⟨none, none, .st 1 (.t 18) (.t 16), []⟩]) (.skip)))
 (.seq (.reg [] [Im 19 0, Io 20 (.call 300 [(.t 19), (.k (.bool false))]), If 21 3 3, ⟨none, none, .st 1 (.t 21) (.t 20), []⟩])
 (.seq (.reg [] [Im 22 0, Io 23 (.call 250 [(.t 22), (.k (.bool false))]), If 24 4 3, ⟨none, none, .st 1 (.t 24) (.t 23), []⟩])
 (.seq (.seq (.reg [] [Im 25 0, Io 26 (.call 161 [(.t 25), (.k (.str [123]))])])
 (.cond (.t 26) (.reg [] [Im 27 0, Io 28 (.call 162 [(.t 27)]), If 29 6 3, ⟨none, none, .st 1 (.t 29) (.t 28), []⟩]) (.skip)))
 (.seq (.reg [] [Io 30 (.ld 7 true (.t 3)), ⟨none, none, .st 7 (.t 2) (.t 30), []⟩])
 (.ret))))))))⟩
theorem ck247:chkFn Tryz.prog 247 ir247=true:=by kernel_rfl
def ir248 : AFn := ⟨10, 2, [.t 4], .seq (.reg [] [Io 4 (.mv (.k (.bool false)))])
 (.seq (.reg [] [Im 5 0, Io 6 (.call 174 [(.t 5)]), Im 7 1, Io 8 (.bld [.int .i64 0, .str []] [(0, 1, (.k (.int .i64 2))), (1, 1, (.t 7))]), Io 9 (.eqa false [(.i .i64), .s] (.t 6) (.t 8)), Im 4 9])
 (.ret))⟩
theorem ck248:chkFn Tryz.prog 248 ir248=true:=by kernel_rfl
def ir249 : AFn := ⟨21, 1, [.c 2 10 true], .seq (.reg [] [Io 2 (.alloc [.str [], .str [], .int .i64 0, .int .i64 0, .bool false, .int .i64 0, .int .i64 0, .str [], .sl .nil 5 [], .sl .nil 6 []])])
 (.seq (.reg [] [Im 4 0, Io 5 (.call 182 [(.t 4), (.k (.str [36]))])])
 (.seq (.reg [] [Im 6 0, Io 7 (.call 183 [(.t 6)]), Io 8 (.bld [.str [], .str [], .int .i64 0, .int .i64 0, .bool false, .int .i64 0, .int .i64 0, .str [], .sl .nil 5 [], .sl .nil 6 []] [(0, 1, (.t 7))]), Io 3 (.alloc [.str [], .str [], .int .i64 0, .int .i64 0, .bool false, .int .i64 0, .int .i64 0, .str [], .sl .nil 5 [], .sl .nil 6 []]), ⟨none, none, .st 10 (.t 3) (.t 8), []⟩])
 (.seq (.reg [] [Im 9 0, Io 10 (.call 182 [(.t 9), (.k (.str [58]))])])
 (.seq (.reg [] [Im 11 0, Io 12 (.call 100 [(.t 11)]), If 13 1 3, ⟨none, none, .st 3 (.t 13) (.t 12), []⟩])
 (.seq (.seq (.reg [] [Im 14 0, Io 15 (.call 191 [(.t 14), (.k (.str [61]))])])
 (.cond (.t 15) (.reg [] [Im 16 0, Io 17 (.call 96 [(.t 16), (.k (.bool true))]), If 18 4 3, ⟨none, none, .st 1 (.t 18) (.k (.bool true)), []⟩, If 19 5 3, ⟨none, none, .st 5 (.t 19) (.t 17), []⟩]) (.skip)))
 (.seq (.reg [] [Io 20 (.ld 10 true (.t 3)), ⟨none, none, .st 10 (.t 2) (.t 20), []⟩])
 (.ret)))))))⟩
theorem ck249:chkFn Tryz.prog 249 ir249=true:=by kernel_rfl
def ir250 : AFn := ⟨18, 2, [.t 4], .seq (.reg [] [Io 4 (.mv (.k (.sl .nil 2 [])))])
 (.seq (.reg [] [Io 5 (.mv (.k (.sl .nil 2 [])))])
 (.seq (.block 0 (.loop [0, 1, 5] (.seq (.seq (.reg [] [Im 6 0, Io 7 (.call 191 [(.t 6), (.k (.str [64]))])])
 (.cond (.t 7) (.skip) (.exit 0)))
 (.block 1 (.reg [] [Im 8 5, Im 9 0, Io 10 (.call 183 [(.t 9)]), Im 11 0, Im 12 1, Io 13 (.call 300 [(.t 11), (.t 12)]), Io 14 (.bld [.str [], .sl .nil 6 []] [(0, 1, (.t 10)), (1, 1, (.t 13))]), Io 15 (.bls 2 1 [.str [], .sl .nil 6 []] [(0, (.t 14))]), Io 16 (.app 2 40 (.t 8) (.t 15)), Im 5 16])))))
 (.seq (.reg [] [Im 17 5, Im 4 17])
 (.ret))))⟩
theorem ck250:chkFn Tryz.prog 250 ir250=true:=by kernel_rfl
def ir251 : AFn := ⟨9, 1, [.t 2], .seq (.reg [] [Io 2 (.mv (.k (.str [])))])
 (.seq (.seq (.reg [] [Im 3 0, Io 4 (.call 248 [(.t 3), (.k (.str [111, 110]))])])
 (.cond (.t 4) (.reg [] [Im 5 0, Io 6 (.call 160 [(.t 5), (.k (.int .i64 2))])]) (.skip)))
 (.seq (.reg [] [Im 7 0, Io 8 (.call 183 [(.t 7)]), Im 2 8])
 (.ret)))⟩
theorem ck251:chkFn Tryz.prog 251 ir251=true:=by kernel_rfl
def ir280 : AFn := ⟨63, 1, [.t 2], .seq (.reg [] [Io 2 (.mv (.k (.str [])))])
 (.seq (.reg [] [Im 6 0, Io 7 (.call 323 [(.t 6)]), Im 3 7])
 (.seq (.seq (.reg [] [Im 8 3, Io 9 (.call 324 [(.t 8)]), Im 4 9])
 (.seq (.reg [] [Im 10 4, Io 11 (.bi .gtr .i64 (.t 10) (.k (.int .i64 0)))])
 (.cond (.t 11) (.seq (.reg [] [Io 5 (.mv (.k (.int .i64 1)))])
 (.block 0 (.loop [3, 4, 5] (.seq (.seq (.reg [] [Im 12 5, Im 13 3, Io 14 (.len (.t 13)), Io 15 (.bi .lss .i64 (.t 12) (.t 14))])
 (.cond (.t 15) (.skip) (.exit 0)))
 (.seq (.block 1 (.reg [0, 1, 2, 3, 4, 5, 6, 7, 8, 9, 10, 11, 12, 13, 14, 15] [Im 18 3, Im 19 5, Im 20 3, Im 21 5, Io 22 (.ia 1 (.t 20) (.t 21)), Il 23 1 22, Im 24 4, Im 25 3, Im 26 5, Io 27 (.ia 1 (.t 25) (.t 26)), Il 28 1 27, Io 29 (.lens (.t 28)), Io 30 (.mm false (.t 24) [(.t 29)]), Io 31 (.sls (.t 23) (some (.t 30)) none), Io 32 (.ia 1 (.t 18) (.t 19)), ⟨none, none, .st 1 (.t 32) (.t 31), []⟩]))
 (.reg [] [Im 16 5, Io 17 (.bi .add .i64 (.t 16) (.k (.int .i64 1))), Im 5 17])))))) (.skip))))
 (.seq (.block 2 (.loop [3] (.seq (.seq (.reg [] [Im 33 3, Io 34 (.len (.t 33)), Io 35 (.bi .gtr .i64 (.t 34) (.k (.int .i64 0))), Im 36 35, Jt 37 36 (.mv (.t 3)), Jt 38 36 (.ia 1 (.t 37) (.k (.int .i64 0))), Jt 39 36 (.ld 1 false (.t 38)), Jt 40 36 (.call 325 [(.t 39)]), Io 41 (.pick (.t 36) (.t 40) (.k (.bool false)))])
 (.cond (.t 41) (.skip) (.exit 2)))
 (.block 3 (.reg [] [Im 42 3, Io 43 (.sll 1 (.t 42) (some (.k (.int .i64 1))) none none), Im 3 43])))))
 (.seq (.block 4 (.loop [3] (.seq (.seq (.reg [] [Im 44 3, Io 45 (.len (.t 44)), Io 46 (.bi .gtr .i64 (.t 45) (.k (.int .i64 0))), Im 47 46, Jt 48 47 (.mv (.t 3)), Jt 49 47 (.mv (.t 3)), Jt 50 47 (.len (.t 49)), Jt 51 47 (.bi .sub .i64 (.t 50) (.k (.int .i64 1))), Jt 52 47 (.ia 1 (.t 48) (.t 51)), Jt 53 47 (.ld 1 false (.t 52)), Jt 54 47 (.call 325 [(.t 53)]), Io 55 (.pick (.t 47) (.t 54) (.k (.bool false)))])
 (.cond (.t 55) (.skip) (.exit 4)))
 (.block 5 (.reg [] [Im 56 3, Im 57 3, Io 58 (.len (.t 57)), Io 59 (.bi .sub .i64 (.t 58) (.k (.int .i64 1))), Io 60 (.sll 1 (.t 56) none (some (.t 59)) none), Im 3 60])))))
 (.seq (.reg [] [Io 61 (.frz 1 (.t 3)), Io 62 (.call 121 [(.t 61), (.k (.str [10]))]), Im 2 62])
 (.ret))))))⟩
theorem ck280:chkFn Tryz.prog 280 ir280=true:=by kernel_rfl
def ir281 : AFn := ⟨48, 2, [.t 4], .seq (.reg [] [Io 4 (.mv (.k (.int .i64 0)))])
 (.seq (.seq (.reg [] [Im 8 1, Io 9 (.call 217 [(.t 8), (.k (.str [117]))])])
 (.cond (.t 9) (.seq (.reg [] [Im 11 1, Io 12 (.sls (.t 11) (some (.k (.int .i64 1))) none), Io 13 (.call 326 [(.t 12)]), Im 10 13, Io 14 (.ext (.t 10) 0), Io 15 (.ext (.t 10) 1), Im 5 14, Im 6 15])
 (.seq (.seq (.reg [] [Im 16 6, Io 17 (.not (.t 16))])
 (.cond (.t 17) (.seq (.reg [] [Io 4 (.mv (.k (.int .i64 0)))])
 (.ret)) (.skip)))
 (.seq (.reg [] [Im 18 0, Im 19 0, Io 20 (.nilchk (.t 19)), If 21 1 20, Il 22 1 21, Im 23 5, Io 24 (.bls 1 1 [.int .i64 0] [(0, (.t 23))]), Io 25 (.app 1 8 (.t 22) (.t 24)), Io 26 (.nilchk (.t 18)), If 27 1 26, ⟨none, none, .st 1 (.t 27) (.t 25), []⟩])
 (.seq (.reg [] [Io 4 (.mv (.k (.int .i64 5)))])
 (.ret))))) (.skip)))
 (.seq (.seq (.reg [] [Im 28 1, Io 29 (.bs .eql (.t 28) (.k (.str [])))])
 (.cond (.t 29) (.seq (.reg [] [Io 4 (.mv (.k (.int .i64 0)))])
 (.ret)) (.skip)))
 (.seq (.reg [] [Im 30 1, Io 31 (.ixs (.t 30) (.k (.int .i64 0))), Io 32 (.call 222 [(.k (.str [34, 92, 47, 98, 102, 110, 114, 116])), (.t 31)]), Im 7 32])
 (.seq (.seq (.reg [] [Im 33 7, Io 34 (.bi .lss .i64 (.t 33) (.k (.int .i64 0)))])
 (.cond (.t 34) (.seq (.reg [] [Io 4 (.mv (.k (.int .i64 0)))])
 (.ret)) (.skip)))
 (.seq (.reg [] [Im 35 0, Io 36 (.call 282 [(.t 35)])])
 (.seq (.reg [0, 1, 2, 3, 4, 5, 6, 7, 8, 9, 10, 11] [Im 37 0, Im 38 0, Io 39 (.nilchk (.t 38)), If 40 0 39, Il 41 1 40, Im 42 7, Io 43 (.ixs (.k (.str [34, 92, 47, 8, 12, 10, 13, 9])) (.t 42)), Io 44 (.bls 1 1 [.int .u8 0] [(0, (.t 43))]), Io 45 (.app 1 1 (.t 41) (.t 44)), Io 46 (.nilchk (.t 37)), If 47 0 46, ⟨none, none, .st 1 (.t 47) (.t 45), []⟩])
 (.seq (.reg [] [Io 4 (.mv (.k (.int .i64 1)))])
 (.ret))))))))⟩
theorem ck281:chkFn Tryz.prog 281 ir281=true:=by kernel_rfl
def ir282 : AFn := ⟨34, 1, [], .seq (.reg [] [Im 5 0, Io 6 (.nilchk (.t 5)), If 7 1 6, Il 8 1 7, Io 9 (.call 327 [(.t 8)]), Im 4 9, Io 10 (.ext (.t 4) 0), Io 11 (.ext (.t 4) 1), Im 2 10, Im 3 11])
 (.reg [0, 1, 2, 3, 4, 5, 6, 7, 9, 10, 11, 12, 8, 13, 14, 15, 16, 17, 18, 19, 20, 21, 22, 23, 24] [Im 12 0, Im 13 0, Im 14 0, Im 15 0, Io 16 (.nilchk (.t 15)), If 17 0 16, Il 18 1 17, Im 19 2, Im 21 0, Io 22 (.nilchk (.t 21)), If 23 2 22, Il 24 1 23, ⟨some 20, none, .apps (.t 18) (.t 19), [11]⟩, Im 25 24, Jt 26 25 (.mv (.t 3)), Io 27 (.pick (.t 25) (.t 26) (.k (.bool false))), Io 28 (.nilchk (.t 12)), If 29 0 28, ⟨none, none, .st 1 (.t 29) (.t 20), []⟩, Io 30 (.nilchk (.t 13)), If 31 1 30, ⟨none, none, .st 1 (.t 31) (.k (.sl .nil 1 [])), []⟩, Io 32 (.nilchk (.t 14)), If 33 2 32, ⟨none, none, .st 1 (.t 33) (.t 27), []⟩])⟩
theorem ck282:chkFn Tryz.prog 282 ir282=true:=by kernel_rfl
def ir284 : AFn := ⟨24, 1, [.t 2], .seq (.reg [] [Io 2 (.mv (.k (.int .i64 0)))])
 (.seq (.reg [] [Io 3 (.mv (.k (.int .i64 0)))])
 (.seq (.seq (.reg [] [Im 5 0, Io 6 (.call 217 [(.t 5), (.k (.str [45]))])])
 (.cond (.t 6) (.reg [] [Io 3 (.mv (.k (.int .i64 1)))]) (.skip)))
 (.seq (.reg [] [Im 7 0, Im 8 3, Io 9 (.sls (.t 7) (some (.t 8)) none), Io 10 (.call 285 [(.t 9)]), Im 4 10])
 (.seq (.block 0 (.seq (.reg [] [Im 12 4, Io 13 (.bi .eql .i64 (.t 12) (.k (.int .i64 0))), Im 11 13])
 (.cond (.t 11) (.seq (.reg [] [Io 2 (.mv (.k (.int .i64 0)))])
 (.ret)) (.seq (.reg [] [Im 15 0, Im 16 3, Io 17 (.ixs (.t 15) (.t 16)), Io 18 (.bi .eql .u8 (.t 17) (.k (.int .u8 48))), Im 14 18])
 (.cond (.t 14) (.seq (.reg [] [Im 19 3, Io 20 (.bi .add .i64 (.t 19) (.k (.int .i64 1))), Im 2 20])
 (.ret)) (.skip))))))
 (.seq (.reg [] [Im 21 3, Im 22 4, Io 23 (.bi .add .i64 (.t 21) (.t 22)), Im 2 23])
 (.ret))))))⟩
theorem ck284:chkFn Tryz.prog 284 ir284=true:=by kernel_rfl
def ir285 : AFn := ⟨17, 1, [.t 2], .seq (.reg [] [Io 2 (.mv (.k (.int .i64 0)))])
 (.seq (.reg [] [Io 3 (.mv (.k (.int .i64 0)))])
 (.seq (.block 0 (.loop [0, 3] (.seq (.seq (.reg [] [Im 4 3, Im 5 0, Io 6 (.lens (.t 5)), Io 7 (.bi .lss .i64 (.t 4) (.t 6)), Im 8 7, Jt 9 8 (.mv (.t 0)), Jt 10 8 (.mv (.t 3)), Jt 11 8 (.ixs (.t 9) (.t 10)), Jt 12 8 (.call 226 [(.t 11)]), Io 13 (.pick (.t 8) (.t 12) (.k (.bool false)))])
 (.cond (.t 13) (.skip) (.exit 0)))
 (.block 1 (.reg [] [Im 14 3, Io 15 (.bi .add .i64 (.t 14) (.k (.int .i64 1))), Im 3 15])))))
 (.seq (.reg [] [Im 16 3, Im 2 16])
 (.ret))))⟩
theorem ck285:chkFn Tryz.prog 285 ir285=true:=by kernel_rfl
def ir286 : AFn := ⟨39, 1, [.t 2], .seq (.reg [] [Io 2 (.mv (.k (.int .i64 0)))])
 (.seq (.seq (.reg [] [Im 5 0, Io 6 (.bs .eql (.t 5) (.k (.str []))), Im 7 6, Jf 8 7 (.mv (.t 0)), Jf 9 7 (.ixs (.t 8) (.k (.int .i64 0))), Jf 10 7 (.bi .neq .u8 (.t 9) (.k (.int .u8 101))), Jf 11 7 (.mv (.t 10)), Jt 12 11 (.mv (.t 0)), Jt 13 11 (.ixs (.t 12) (.k (.int .i64 0))), Jt 14 11 (.bi .neq .u8 (.t 13) (.k (.int .u8 69))), Jf 15 7 (.pick (.t 11) (.t 14) (.k (.bool false))), Io 16 (.pick (.t 7) (.k (.bool true)) (.t 15))])
 (.cond (.t 16) (.seq (.reg [] [Io 2 (.mv (.k (.int .i64 0)))])
 (.ret)) (.skip)))
 (.seq (.reg [] [Io 3 (.mv (.k (.int .i64 1)))])
 (.seq (.seq (.reg [] [Im 17 0, Io 18 (.lens (.t 17)), Io 19 (.bi .gtr .i64 (.t 18) (.k (.int .i64 1))), Im 20 19, Jt 21 20 (.mv (.t 0)), Jt 22 20 (.ixs (.t 21) (.k (.int .i64 1))), Jt 23 20 (.bi .eql .u8 (.t 22) (.k (.int .u8 43))), Jt 24 20 (.mv (.t 23)), Jf 25 24 (.mv (.t 0)), Jf 26 24 (.ixs (.t 25) (.k (.int .i64 1))), Jf 27 24 (.bi .eql .u8 (.t 26) (.k (.int .u8 45))), Jt 28 20 (.pick (.t 24) (.k (.bool true)) (.t 27)), Io 29 (.pick (.t 20) (.t 28) (.k (.bool false)))])
 (.cond (.t 29) (.reg [] [Io 3 (.mv (.k (.int .i64 2)))]) (.skip)))
 (.seq (.reg [] [Im 30 0, Im 31 3, Io 32 (.sls (.t 30) (some (.t 31)) none), Io 33 (.call 285 [(.t 32)]), Im 4 33])
 (.seq (.seq (.reg [] [Im 34 4, Io 35 (.bi .eql .i64 (.t 34) (.k (.int .i64 0)))])
 (.cond (.t 35) (.seq (.reg [] [Io 2 (.mv (.k (.int .i64 0)))])
 (.ret)) (.skip)))
 (.seq (.reg [] [Im 36 3, Im 37 4, Io 38 (.bi .add .i64 (.t 36) (.t 37)), Im 2 38])
 (.ret)))))))⟩
theorem ck286:chkFn Tryz.prog 286 ir286=true:=by kernel_rfl
def ir299 : AFn := ⟨31, 1, [.c 2 7 true], .seq (.reg [] [Io 2 (.alloc [.int .i64 0, .str [], .str [], .sl .nil 6 [], .sl .nil 2 [], .str [], .sl .nil 7 []])])
 (.seq (.seq (.reg [] [Im 4 0, Io 5 (.call 174 [(.t 4)]), Io 6 (.fld 0 1 false (.t 5)), Io 7 (.bi .eql .i64 (.t 6) (.k (.int .i64 2))), Im 8 7, Jt 9 8 (.mv (.t 0)), Jt 10 8 (.call 248 [(.t 9), (.k (.str [111, 110]))]), Jt 11 8 (.not (.t 10)), Io 12 (.pick (.t 8) (.t 11) (.k (.bool false)))])
 (.cond (.t 12) (.seq (.reg [] [Im 13 0, Io 14 (.call 183 [(.t 13)]), Im 15 0, Io 16 (.call 250 [(.t 15), (.k (.bool false))]), Io 17 (.bld [.int .i64 0, .str [], .str [], .sl .nil 6 [], .sl .nil 2 [], .str [], .sl .nil 7 []] [(0, 1, (.k (.int .i64 1))), (2, 1, (.t 14)), (4, 1, (.t 16))]), ⟨none, none, .st 7 (.t 2) (.t 17), []⟩])
 (.ret)) (.skip)))
 (.seq (.reg [] [Io 18 (.bld [.int .i64 0, .str [], .str [], .sl .nil 6 [], .sl .nil 2 [], .str [], .sl .nil 7 []] [(0, 1, (.k (.int .i64 2)))]), Io 3 (.alloc [.int .i64 0, .str [], .str [], .sl .nil 6 [], .sl .nil 2 [], .str [], .sl .nil 7 []]), ⟨none, none, .st 7 (.t 3) (.t 18), []⟩])
 (.seq (.seq (.reg [] [Im 19 0, Io 20 (.call 163 [(.t 19), (.k (.str [111, 110]))])])
 (.cond (.t 20) (.reg [] [Im 21 0, Io 22 (.call 183 [(.t 21)]), If 23 5 3, ⟨none, none, .st 1 (.t 23) (.t 22), []⟩]) (.skip)))
 (.seq (.reg [] [Im 24 0, Io 25 (.call 250 [(.t 24), (.k (.bool false))]), If 26 4 3, ⟨none, none, .st 1 (.t 26) (.t 25), []⟩])
 (.seq (.reg [] [Im 27 0, Io 28 (.call 162 [(.t 27)]), If 29 6 3, ⟨none, none, .st 1 (.t 29) (.t 28), []⟩])
 (.seq (.reg [] [Io 30 (.ld 7 true (.t 3)), ⟨none, none, .st 7 (.t 2) (.t 30), []⟩])
 (.ret)))))))⟩
theorem ck299:chkFn Tryz.prog 299 ir299=true:=by kernel_rfl
def ir300 : AFn := ⟨23, 2, [.t 4], .seq (.reg [] [Io 4 (.mv (.k (.sl .nil 6 [])))])
 (.seq (.seq (.reg [] [Im 6 0, Io 7 (.call 191 [(.t 6), (.k (.str [40]))]), Io 8 (.not (.t 7))])
 (.cond (.t 8) (.seq (.reg [] [Io 4 (.mv (.k (.sl .nil 6 [])))])
 (.ret)) (.skip)))
 (.seq (.reg [] [Im 9 0, Im 10 1, Io 11 (.call 181 [(.t 9), (.t 10)]), Io 12 (.bls 6 1 [.str [], .int .i64 0, .int .i64 0, .str [], .sl .nil 5 [], .sl .nil 6 []] [(0, (.t 11))]), Im 5 12])
 (.seq (.block 0 (.loop [0, 1, 5] (.seq (.seq (.reg [] [Im 13 0, Io 14 (.call 191 [(.t 13), (.k (.str [41]))]), Io 15 (.not (.t 14))])
 (.cond (.t 15) (.skip) (.exit 0)))
 (.block 1 (.reg [] [Im 16 5, Im 17 0, Im 18 1, Io 19 (.call 181 [(.t 17), (.t 18)]), Io 20 (.bls 6 1 [.str [], .int .i64 0, .int .i64 0, .str [], .sl .nil 5 [], .sl .nil 6 []] [(0, (.t 19))]), Io 21 (.app 6 96 (.t 16) (.t 20)), Im 5 21])))))
 (.seq (.reg [] [Im 22 5, Im 4 22])
 (.ret)))))⟩
theorem ck300:chkFn Tryz.prog 300 ir300=true:=by kernel_rfl
def ir323 : AFn := ⟨57, 1, [.t 2], .seq (.reg [] [Io 2 (.mv (.k (.sl .nil 1 [])))])
 (.seq (.reg [] [Io 3 (.mv (.k (.sl .nil 1 [])))])
 (.seq (.reg [] [Io 4 (.mv (.k (.int .i64 0)))])
 (.seq (.seq (.reg [] [Io 5 (.mv (.k (.int .i64 0)))])
 (.block 0 (.loop [0, 3, 4, 5] (.seq (.seq (.reg [] [Im 6 5, Im 7 0, Io 8 (.lens (.t 7)), Io 9 (.bi .lss .i64 (.t 6) (.t 8))])
 (.cond (.t 9) (.skip) (.exit 0)))
 (.seq (.block 1 (.seq (.seq (.reg [] [Im 12 0, Im 13 5, Io 14 (.ixs (.t 12) (.t 13)), Io 15 (.bi .neq .u8 (.t 14) (.k (.int .u8 10))), Im 16 15, Jt 17 16 (.mv (.t 0)), Jt 18 16 (.mv (.t 5)), Jt 19 16 (.ixs (.t 17) (.t 18)), Jt 20 16 (.bi .neq .u8 (.t 19) (.k (.int .u8 13))), Io 21 (.pick (.t 16) (.t 20) (.k (.bool false)))])
 (.cond (.t 21) (.exit 1) (.skip)))
 (.seq (.reg [] [Im 22 3, Im 23 0, Im 24 4, Im 25 5, Io 26 (.sls (.t 23) (some (.t 24)) (some (.t 25))), Io 27 (.bls 1 1 [.str []] [(0, (.t 26))]), Io 28 (.appm 1 16 [.str []] (.t 22) (.t 27)), Im 3 28])
 (.seq (.seq (.reg [] [Im 29 0, Im 30 5, Io 31 (.ixs (.t 29) (.t 30)), Io 32 (.bi .eql .u8 (.t 31) (.k (.int .u8 13))), Im 33 32, Jt 34 33 (.mv (.t 5)), Jt 35 33 (.bi .add .i64 (.t 34) (.k (.int .i64 1))), Jt 36 33 (.mv (.t 0)), Jt 37 33 (.lens (.t 36)), Jt 38 33 (.bi .lss .i64 (.t 35) (.t 37)), Io 39 (.pick (.t 33) (.t 38) (.k (.bool false))), Im 40 39, Jt 41 40 (.mv (.t 0)), Jt 42 40 (.mv (.t 5)), Jt 43 40 (.bi .add .i64 (.t 42) (.k (.int .i64 1))), Jt 44 40 (.ixs (.t 41) (.t 43)), Jt 45 40 (.bi .eql .u8 (.t 44) (.k (.int .u8 10))), Io 46 (.pick (.t 40) (.t 45) (.k (.bool false)))])
 (.cond (.t 46) (.reg [] [Im 47 5, Io 48 (.bi .add .i64 (.t 47) (.k (.int .i64 1))), Im 5 48]) (.skip)))
 (.reg [] [Im 49 5, Io 50 (.bi .add .i64 (.t 49) (.k (.int .i64 1))), Im 4 50])))))
 (.reg [] [Im 10 5, Io 11 (.bi .add .i64 (.t 10) (.k (.int .i64 1))), Im 5 11]))))))
 (.seq (.reg [] [Im 51 3, Im 52 0, Im 53 4, Io 54 (.sls (.t 52) (some (.t 53)) none), Io 55 (.bls 1 1 [.str []] [(0, (.t 54))]), Io 56 (.appm 1 16 [.str []] (.t 51) (.t 55)), Im 2 56])
 (.ret)))))⟩
theorem ck323:chkFn Tryz.prog 323 ir323=true:=by kernel_rfl
def ir324 : AFn := ⟨36, 1, [.t 2], .seq (.reg [] [Io 2 (.mv (.k (.int .i64 0)))])
 (.scope (.seq (.reg [] [Io 3 (.mv (.k (.int .i64 (-1))))])
 (.seq (.skip)
 (.seq (.seq (.reg [] [Im 8 0, Io 9 (.len (.t 8)), Io 10 (.mv (.k (.int .i64 0)))])
 (.block 0 (.loop [3, 8, 9, 10] (.seq (.reg [] [Io 11 (.bi .lss .i64 (.t 10) (.t 9))])
 (.seq (.cond (.t 11) (.skip) (.exit 0))
 (.seq (.block 1 (.seq (.reg [] [Im 12 10, Io 13 (.ia 1 (.t 8) (.t 10)), Il 14 1 13, Im 4 12, Im 5 14])
 (.seq (.reg [] [Im 16 5, Io 17 (.call 345 [(.t 16)]), Im 15 17, Io 18 (.ext (.t 15) 0), Io 19 (.ext (.t 15) 1), Im 6 18, Im 7 19])
 (.seq (.seq (.reg [] [Im 20 4, Io 21 (.bi .eql .i64 (.t 20) (.k (.int .i64 0))), Im 22 21, Jf 23 22 (.mv (.t 7)), Jf 24 22 (.not (.t 23)), Io 25 (.pick (.t 22) (.k (.bool true)) (.t 24))])
 (.cond (.t 25) (.exit 1) (.skip)))
 (.seq (.reg [] [Im 26 3, Io 27 (.bi .lss .i64 (.t 26) (.k (.int .i64 0))), Im 28 27, Jf 29 28 (.mv (.t 6)), Jf 30 28 (.mv (.t 3)), Jf 31 28 (.bi .lss .i64 (.t 29) (.t 30)), Io 32 (.pick (.t 28) (.k (.bool true)) (.t 31))])
 (.cond (.t 32) (.reg [] [Im 33 6, Im 3 33]) (.skip)))))))
 (.reg [] [Io 34 (.bi .add .i64 (.t 10) (.k (.int .i64 1))), Im 10 34])))))))
 (.seq (.reg [] [Im 35 3, Im 2 35])
 (.ret))))))⟩
theorem ck324:chkFn Tryz.prog 324 ir324=true:=by kernel_rfl
def ir325 : AFn := ⟨12, 1, [.t 2], .seq (.reg [] [Io 2 (.mv (.k (.bool false)))])
 (.seq (.reg [] [Im 6 0, Io 7 (.call 345 [(.t 6)]), Im 5 7, Io 8 (.ext (.t 5) 0), Io 9 (.ext (.t 5) 1), Im 3 8, Im 4 9])
 (.seq (.reg [] [Im 10 4, Io 11 (.not (.t 10)), Im 2 11])
 (.ret)))⟩
theorem ck325:chkFn Tryz.prog 325 ir325=true:=by kernel_rfl
def ir326 : AFn := ⟨44, 1, [.t 2, .t 3], .seq (.reg [] [Io 2 (.mv (.k (.int .i64 0))), Io 3 (.mv (.k (.bool false)))])
 (.seq (.seq (.reg [] [Im 7 0, Io 8 (.lens (.t 7)), Io 9 (.bi .lss .i64 (.t 8) (.k (.int .i64 4)))])
 (.cond (.t 9) (.seq (.reg [] [Io 2 (.mv (.k (.int .i64 0))), Io 3 (.mv (.k (.bool false)))])
 (.ret)) (.skip)))
 (.seq (.reg [] [Io 4 (.mv (.k (.int .i64 0)))])
 (.seq (.seq (.reg [] [Io 10 (.mv (.k (.int .i64 0)))])
 (.block 0 (.loop [0, 4, 10] (.seq (.reg [] [Io 11 (.bi .lss .i64 (.t 10) (.k (.int .i64 4)))])
 (.seq (.cond (.t 11) (.skip) (.exit 0))
 (.seq (.block 1 (.seq (.reg [] [Im 12 10, Im 5 12])
 (.seq (.reg [] [Im 13 0, Im 14 5, Io 15 (.ixs (.t 13) (.t 14)), Io 16 (.bi .or .u8 (.t 15) (.k (.int .u8 32))), Io 17 (.call 222 [(.k (.str [48, 49, 50, 51, 52, 53, 54, 55, 56, 57, 97, 98, 99, 100, 101, 102])), (.t 16)]), Im 6 17])
 (.seq (.seq (.reg [] [Im 18 6, Io 19 (.bi .lss .i64 (.t 18) (.k (.int .i64 0))), Im 20 19, Jf 21 20 (.mv (.t 0)), Jf 22 20 (.mv (.t 5)), Jf 23 20 (.ixs (.t 21) (.t 22)), Jf 24 20 (.bi .lss .u8 (.t 23) (.k (.int .u8 48))), Io 25 (.pick (.t 20) (.k (.bool true)) (.t 24)), Im 26 25, Jf 27 26 (.mv (.t 0)), Jf 28 26 (.mv (.t 5)), Jf 29 26 (.ixs (.t 27) (.t 28)), Jf 30 26 (.bi .gtr .u8 (.t 29) (.k (.int .u8 57))), Jf 31 26 (.mv (.t 30)), Jt 32 31 (.mv (.t 0)), Jt 33 31 (.mv (.t 5)), Jt 34 31 (.ixs (.t 32) (.t 33)), Jt 35 31 (.bi .lss .u8 (.t 34) (.k (.int .u8 65))), Jf 36 26 (.pick (.t 31) (.t 35) (.k (.bool false))), Io 37 (.pick (.t 26) (.k (.bool true)) (.t 36))])
 (.cond (.t 37) (.seq (.reg [] [Io 2 (.mv (.k (.int .i64 0))), Io 3 (.mv (.k (.bool false)))])
 (.ret)) (.skip)))
 (.reg [] [Im 38 4, Io 39 (.bi .mul .i64 (.k (.int .i64 16)) (.t 38)), Im 40 6, Io 41 (.bi .add .i64 (.t 39) (.t 40)), Im 4 41])))))
 (.reg [] [Io 42 (.bi .add .i64 (.t 10) (.k (.int .i64 1))), Im 10 42])))))))
 (.seq (.reg [] [Im 43 4, Im 2 43, Io 3 (.mv (.k (.bool true)))])
 (.ret)))))⟩
theorem ck326:chkFn Tryz.prog 326 ir326=true:=by kernel_rfl
def ir327 : AFn := ⟨75, 1, [.t 2, .t 3], .seq (.reg [] [Io 2 (.mv (.k (.str []))), Io 3 (.mv (.k (.bool false)))])
 (.seq (.reg [] [Io 4 (.mv (.k (.sl .nil 1 [])))])
 (.seq (.seq (.reg [] [Io 5 (.mv (.k (.int .i64 0)))])
 (.block 0 (.loop [0, 4, 5] (.seq (.seq (.reg [] [Im 7 5, Im 8 0, Io 9 (.len (.t 8)), Io 10 (.bi .lss .i64 (.t 7) (.t 9))])
 (.cond (.t 10) (.skip) (.exit 0)))
 (.seq (.block 1 (.seq (.reg [] [Im 13 0, Im 14 5, Io 15 (.ia 1 (.t 13) (.t 14)), Il 16 1 15, Im 6 16])
 (.seq (.block 2 (.seq (.reg [] [Im 18 6, Io 19 (.bi .lss .i64 (.t 18) (.k (.int .i64 0))), Im 20 19, Jf 21 20 (.mv (.t 6)), Jf 22 20 (.bi .gtr .i64 (.t 21) (.k (.int .i64 65535))), Io 23 (.pick (.t 20) (.k (.bool true)) (.t 22)), Im 24 23, Jf 25 24 (.mv (.t 6)), Jf 26 24 (.bi .geq .i64 (.t 25) (.k (.int .i64 56320))), Jf 27 24 (.mv (.t 26)), Jt 28 27 (.mv (.t 6)), Jt 29 27 (.bi .leq .i64 (.t 28) (.k (.int .i64 57343))), Jf 30 24 (.pick (.t 27) (.t 29) (.k (.bool false))), Io 31 (.pick (.t 24) (.k (.bool true)) (.t 30)), Im 17 31])
 (.cond (.t 17) (.seq (.reg [] [Io 2 (.mv (.k (.str []))), Io 3 (.mv (.k (.bool false)))])
 (.ret)) (.seq (.reg [] [Im 33 6, Io 34 (.bi .geq .i64 (.t 33) (.k (.int .i64 55296))), Im 35 34, Jt 36 35 (.mv (.t 6)), Jt 37 35 (.bi .lss .i64 (.t 36) (.k (.int .i64 56320))), Io 38 (.pick (.t 35) (.t 37) (.k (.bool false))), Im 32 38])
 (.cond (.t 32) (.seq (.reg [] [Im 39 5, Io 40 (.bi .add .i64 (.t 39) (.k (.int .i64 1))), Im 5 40])
 (.seq (.seq (.reg [] [Im 41 5, Im 42 0, Io 43 (.len (.t 42)), Io 44 (.bi .eql .i64 (.t 41) (.t 43)), Im 45 44, Jf 46 45 (.mv (.t 0)), Jf 47 45 (.mv (.t 5)), Jf 48 45 (.ia 1 (.t 46) (.t 47)), Jf 49 45 (.ld 1 false (.t 48)), Jf 50 45 (.bi .lss .i64 (.t 49) (.k (.int .i64 56320))), Io 51 (.pick (.t 45) (.k (.bool true)) (.t 50)), Im 52 51, Jf 53 52 (.mv (.t 0)), Jf 54 52 (.mv (.t 5)), Jf 55 52 (.ia 1 (.t 53) (.t 54)), Jf 56 52 (.ld 1 false (.t 55)), Jf 57 52 (.bi .gtr .i64 (.t 56) (.k (.int .i64 57343))), Io 58 (.pick (.t 52) (.k (.bool true)) (.t 57))])
 (.cond (.t 58) (.seq (.reg [] [Io 2 (.mv (.k (.str []))), Io 3 (.mv (.k (.bool false)))])
 (.ret)) (.skip)))
 (.reg [] [Im 59 6, Io 60 (.bi .sub .i64 (.t 59) (.k (.int .i64 55296))), Io 61 (.bi .mul .i64 (.k (.int .i64 1024)) (.t 60)), Io 62 (.bi .add .i64 (.k (.int .i64 65536)) (.t 61)), Im 63 0, Im 64 5, Io 65 (.ia 1 (.t 63) (.t 64)), Il 66 1 65, Io 67 (.bi .add .i64 (.t 62) (.t 66)), Io 68 (.bi .sub .i64 (.t 67) (.k (.int .i64 56320))), Im 6 68]))) (.skip))))))
 (.reg [] [Im 69 4, Im 70 6, Io 71 (.cvi .i32 (.t 70)), Io 72 (.call 346 [(.t 69), (.t 71)]), Im 4 72]))))
 (.reg [] [Im 11 5, Io 12 (.bi .add .i64 (.t 11) (.k (.int .i64 1))), Im 5 12]))))))
 (.seq (.reg [] [Im 73 4, Io 74 (.cvb2s (.t 73)), Im 2 74, Io 3 (.mv (.k (.bool true)))])
 (.ret))))⟩
theorem ck327:chkFn Tryz.prog 327 ir327=true:=by kernel_rfl
def ir345 : AFn := ⟨24, 1, [.t 2, .t 3], .seq (.reg [] [Io 2 (.mv (.k (.int .i64 0))), Io 3 (.mv (.k (.bool false)))])
 (.seq (.seq (.reg [] [Im 5 0, Io 6 (.lens (.t 5)), Io 7 (.mv (.k (.int .i64 0)))])
 (.block 0 (.loop [0, 6, 7] (.seq (.reg [] [Io 8 (.bi .lss .i64 (.t 7) (.t 6))])
 (.seq (.cond (.t 8) (.skip) (.exit 0))
 (.seq (.block 1 (.seq (.reg [] [Im 9 7, Im 4 9])
 (.seq (.reg [] [Im 10 0, Im 11 4, Io 12 (.ixs (.t 10) (.t 11)), Io 13 (.bi .neq .u8 (.t 12) (.k (.int .u8 9))), Im 14 13, Jt 15 14 (.mv (.t 0)), Jt 16 14 (.mv (.t 4)), Jt 17 14 (.ixs (.t 15) (.t 16)), Jt 18 14 (.bi .neq .u8 (.t 17) (.k (.int .u8 32))), Io 19 (.pick (.t 14) (.t 18) (.k (.bool false)))])
 (.cond (.t 19) (.seq (.reg [] [Im 20 4, Im 2 20, Io 3 (.mv (.k (.bool true)))])
 (.ret)) (.skip)))))
 (.reg [] [Io 21 (.bi .add .i64 (.t 7) (.k (.int .i64 1))), Im 7 21])))))))
 (.seq (.reg [] [Im 22 0, Io 23 (.lens (.t 22)), Im 2 23, Io 3 (.mv (.k (.bool false)))])
 (.ret)))⟩
theorem ck345:chkFn Tryz.prog 345 ir345=true:=by kernel_rfl
def ir346 : AFn := ⟨16, 2, [.t 4], .seq (.reg [] [Io 4 (.mv (.k (.sl .nil 1 [])))])
 (.seq (.seq (.reg [] [Im 5 1, Io 6 (.cvi .u32 (.t 5)), Io 7 (.bi .leq .u32 (.t 6) (.k (.int .u32 127)))])
 (.cond (.t 7) (.seq (.reg [] [Im 8 0, Im 9 1, Io 10 (.cvi .u8 (.t 9)), Io 11 (.bls 1 1 [.int .u8 0] [(0, (.t 10))]), Io 12 (.app 1 1 (.t 8) (.t 11)), Im 4 12])
 (.ret)) (.skip)))
 (.seq (.reg [] [Im 13 0, Im 14 1, Io 15 (.call 356 [(.t 13), (.t 14)]), Im 4 15])
 (.ret)))⟩
theorem ck346:chkFn Tryz.prog 346 ir346=true:=by kernel_rfl
def ir356 : AFn := ⟨78, 2, [.t 4], .seq (.reg [] [Io 4 (.mv (.k (.sl .nil 1 [])))])
 (.seq (.reg [] [Im 6 1, Io 7 (.cvi .u32 (.t 6)), Im 5 7])
 (.block 0 (.seq (.reg [] [Im 12 5, Io 13 (.bi .leq .u32 (.t 12) (.k (.int .u32 2047))), Im 11 13])
 (.cond (.t 11) (.seq (.reg [] [Im 14 0, Im 15 1, Io 16 (.shf .shr (.t 15) (.k (.int .u64 6))), Io 17 (.cvi .u8 (.t 16)), Io 18 (.bi .or .u8 (.k (.int .u8 192)) (.t 17)), Im 19 1, Io 20 (.cvi .u8 (.t 19)), Io 21 (.bi .and .u8 (.t 20) (.k (.int .u8 63))), Io 22 (.bi .or .u8 (.k (.int .u8 128)) (.t 21)), Io 23 (.bls 1 2 [.int .u8 0] [(0, (.t 18)), (1, (.t 22))]), Io 24 (.app 1 1 (.t 14) (.t 23)), Im 4 24])
 (.ret)) (.seq (.seq (.reg [] [Im 26 5, Io 27 (.bi .lss .u32 (.t 26) (.k (.int .u32 55296))), Im 25 27])
 (.cond (.t 25) (.skip) (.reg [] [Im 28 5, Io 29 (.bi .lss .u32 (.k (.int .u32 57343)) (.t 28)), Im 30 29, Jt 31 30 (.mv (.t 5)), Jt 32 30 (.bi .leq .u32 (.t 31) (.k (.int .u32 65535))), Io 33 (.pick (.t 30) (.t 32) (.k (.bool false))), Im 25 33])))
 (.cond (.t 25) (.seq (.reg [] [Im 34 0, Im 35 1, Io 36 (.shf .shr (.t 35) (.k (.int .u64 12))), Io 37 (.cvi .u8 (.t 36)), Io 38 (.bi .or .u8 (.k (.int .u8 224)) (.t 37)), Im 39 1, Io 40 (.shf .shr (.t 39) (.k (.int .u64 6))), Io 41 (.cvi .u8 (.t 40)), Io 42 (.bi .and .u8 (.t 41) (.k (.int .u8 63))), Io 43 (.bi .or .u8 (.k (.int .u8 128)) (.t 42)), Im 44 1, Io 45 (.cvi .u8 (.t 44)), Io 46 (.bi .and .u8 (.t 45) (.k (.int .u8 63))), Io 47 (.bi .or .u8 (.k (.int .u8 128)) (.t 46)), Io 48 (.bls 1 3 [.int .u8 0] [(0, (.t 38)), (1, (.t 43)), (2, (.t 47))]), Io 49 (.app 1 1 (.t 34) (.t 48)), Im 4 49])
 (.ret)) (.seq (.reg [] [Im 51 5, Io 52 (.bi .gtr .u32 (.t 51) (.k (.int .u32 65535))), Im 53 52, Jt 54 53 (.mv (.t 5)), Jt 55 53 (.bi .leq .u32 (.t 54) (.k (.int .u32 1114111))), Io 56 (.pick (.t 53) (.t 55) (.k (.bool false))), Im 50 56])
 (.cond (.t 50) (.seq (.reg [] [Im 57 0, Im 58 1, Io 59 (.shf .shr (.t 58) (.k (.int .u64 18))), Io 60 (.cvi .u8 (.t 59)), Io 61 (.bi .or .u8 (.k (.int .u8 240)) (.t 60)), Im 62 1, Io 63 (.shf .shr (.t 62) (.k (.int .u64 12))), Io 64 (.cvi .u8 (.t 63)), Io 65 (.bi .and .u8 (.t 64) (.k (.int .u8 63))), Io 66 (.bi .or .u8 (.k (.int .u8 128)) (.t 65)), Im 67 1, Io 68 (.shf .shr (.t 67) (.k (.int .u64 6))), Io 69 (.cvi .u8 (.t 68)), Io 70 (.bi .and .u8 (.t 69) (.k (.int .u8 63))), Io 71 (.bi .or .u8 (.k (.int .u8 128)) (.t 70)), Im 72 1, Io 73 (.cvi .u8 (.t 72)), Io 74 (.bi .and .u8 (.t 73) (.k (.int .u8 63))), Io 75 (.bi .or .u8 (.k (.int .u8 128)) (.t 74)), Io 76 (.bls 1 4 [.int .u8 0] [(0, (.t 61)), (1, (.t 66)), (2, (.t 71)), (3, (.t 75))]), Io 77 (.app 1 1 (.t 57) (.t 76)), Im 4 77])
 (.ret)) (.seq (.reg [] [Im 8 0, Io 9 (.bls 1 3 [.int .u8 0] [(0, (.k (.int .u8 239))), (1, (.k (.int .u8 191))), (2, (.k (.int .u8 189)))]), Io 10 (.app 1 1 (.t 8) (.t 9)), Im 4 10])
 (.ret))))))))))⟩
theorem ck356:chkFn Tryz.prog 356 ir356=true:=by kernel_rfl
end Go.Proofs.YticbbfbpeimkbaaGreatDoor
namespace Go.Proofs.YticbbfbpeimkbaaGreatDoor
open Go.Ab
mutual
inductive Val where
 | mk (k n:Int) (s:List UInt8) (l:List Val) (m:List Mem)
inductive Mem where
 | mk (name:List UInt8) (v:Val)
end
mutual
def cV:Val→List AV
 | .mk k n s l m=>[.int .i64 k,.int .i64 n,.str s,.sl .no 5 (cVs l),.sl .no 6 (cMs m)]
def cVs:List Val→List (List AV)
 | []=>[]
 | v :: r=>cV v :: cVs r
def cM:Mem→List AV
 | .mk s v=>.str s :: cV v
def cMs:List Mem→List (List AV)
 | []=>[]
 | x :: r=>cM x :: cMs r
end
theorem cVs_map:∀ l,cVs l=l.map cV
 | []=>rfl
 | v :: r=>by rw [cVs,cVs_map r];rfl
theorem cMs_map:∀ l,cMs l=l.map cM
 | []=>rfl
 | v :: r=>by rw [cMs,cMs_map r];rfl
theorem cVs_len (l:List Val):(cVs l).length=l.length:=by rw [cVs_map];simp
theorem cMs_len (l:List Mem):(cMs l).length=l.length:=by rw [cMs_map];simp
theorem cM_mk (s:List UInt8) (v:Val):cM (.mk s v)=.str s :: cV v:=rfl
theorem cV_strip (v:Val):(cV v).map AV.strip1=cV v:=by cases v;rfl
theorem cM_strip (v:Mem):(cM v).map AV.strip1=cM v:=by cases v with|mk s v=>cases v;rfl
theorem cVs_strip (l:List Val):(cVs l).map (·.map AV.strip1)=cVs l:=by
 rw [cVs_map,List.map_map];exact List.map_congr_left fun v _=>cV_strip v
theorem cMs_strip (l:List Mem):(cMs l).map (·.map AV.strip1)=cMs l:=by
 rw [cMs_map,List.map_map];exact List.map_congr_left fun v _=>cM_strip v
mutual
theorem Val.ind {P:Val→Prop} (h:∀ k n s l m,(∀ v ∈ l,P v)→(∀ s v,Mem.mk s v ∈ m→P v)→P (.mk k n s l m)):∀ v,P v
 | .mk k n s l m=>h k n s l m (Val.indL h l) (fun s v hm=>Val.indM h m s v hm)
theorem Val.indL {P:Val→Prop} (h:∀ k n s l m,(∀ v ∈ l,P v)→(∀ s v,Mem.mk s v ∈ m→P v)→P (.mk k n s l m)):∀ l:List Val,∀ v ∈ l,P v
 | [],_,hv=>by cases hv
 | x :: r,v,hv=>(List.mem_cons.1 hv).elim (fun e=>e▸Val.ind h x) (Val.indL h r v)
theorem Val.ind1 {P:Val→Prop} (h:∀ k n s l m,(∀ v ∈ l,P v)→(∀ s v,Mem.mk s v ∈ m→P v)→P (.mk k n s l m)):∀ m:Mem,∀ s v,m=.mk s v→P v
 | .mk s v,s',v',e=>by cases e;exact Val.ind h v
theorem Val.indM {P:Val→Prop} (h:∀ k n s l m,(∀ v ∈ l,P v)→(∀ s v,Mem.mk s v ∈ m→P v)→P (.mk k n s l m)):∀ l:List Mem,∀ s v,Mem.mk s v ∈ l→P v
 | [],_,_,hv=>by cases hv
 | x :: r,s,v,hv=>(List.mem_cons.1 hv).elim (fun e=>Val.ind1 h x s v e.symm) (Val.indM h r s v)
end
theorem cV_len (v:Val):(cV v).length=5:=by cases v;rfl
theorem cM_len (x:Mem):(cM x).length=6:=by cases x with|mk s v=>cases v;rfl
theorem cV_take (v:Val):(cV v).take 5=cV v:=by cases v;rfl
theorem cM_take (x:Mem):(cM x).take 6=cM x:=by cases x with|mk s v=>cases v;rfl
theorem cV_splice (a b c d e:AV) (v:Val):splice [a,b,c,d,e] 0 (cV v)=cV v:=by cases v;rfl
theorem cM_splice (a b c d e f:AV) (x:Mem):splice [a,b,c,d,e,f] 0 (cM x)=cM x:=by cases x with|mk s v=>cases v;rfl
mutual
def bV:Val→Nat
 | .mk _ _ s l m=>1+s.length+bVs l+bMs m
def bVs:List Val→Nat
 | []=>0
 | v :: r=>bV v+bVs r
def bM:Mem→Nat
 | .mk s v=>s.length+bV v
def bMs:List Mem→Nat
 | []=>0
 | x :: r=>bM x+bMs r
end
abbrev Lim:Nat:=1099511627776
def cT (l:List (List UInt8)):List (List AV):=l.map fun k=>[.str k]
theorem cT_len (l:List (List UInt8)):(cT l).length=l.length:=by simp [cT]
end Go.Proofs.YticbbfbpeimkbaaGreatDoor
namespace Go.Proofs.YticbbfbpeimkbaaGreatDoor
open Go.Ab
mutual
def depthV:Val→Int
 | .mk k _ _ l m=>if k=6 then depthVs l 0+1 else if k=7 then depthMs m 0+1 else 0
def depthVs:List Val→Int→Int
 | [],n=>n
 | v :: r,n=>depthVs r (mm2 true n (depthV v))
def depthM:Mem→Int
 | .mk _ v=>depthV v
def depthMs:List Mem→Int→Int
 | [],n=>n
 | x :: r,n=>depthMs r (mm2 true n (depthM x))
end
theorem mm2_ge (a b:Int):a≤mm2 true a b:=by simp only [mm2,if_true];split<;>omega
mutual
theorem depthV_le:∀ v,0≤depthV v∧depthV v≤bV v
 | .mk k n s l m=>by
  have h1:=depthVs_le l 0
  have h2:=depthMs_le m 0
  simp only [depthV,bV]
  split
  ·omega
  ·split<;>omega
theorem depthVs_le:∀ l (n:Int),n≤depthVs l n∧(depthVs l n≤n∨depthVs l n≤bVs l)
 | [],n=>by simp [depthVs,bVs]
 | v :: r,n=>by
  have h1:=depthV_le v
  have h2:=depthVs_le r (mm2 true n (depthV v))
  have h3:=mm2_ge n (depthV v)
  have h4:mm2 true n (depthV v)=n∨mm2 true n (depthV v)=depthV v:=by simp only [mm2,if_true];split<;>simp
  simp only [depthVs,bVs]
  omega
theorem depthM_le:∀ x,0≤depthM x∧depthM x≤bM x
 | .mk s v=>by have:=depthV_le v;simp only [depthM,bM];omega
theorem depthMs_le:∀ l (n:Int),n≤depthMs l n∧(depthMs l n≤n∨depthMs l n≤bMs l)
 | [],n=>by simp [depthMs,bMs]
 | v :: r,n=>by
  have h1:=depthM_le v
  have h2:=depthMs_le r (mm2 true n (depthM v))
  have h3:=mm2_ge n (depthM v)
  have h4:mm2 true n (depthM v)=n∨mm2 true n (depthM v)=depthM v:=by simp only [mm2,if_true];split<;>simp
  simp only [depthMs,bMs]
  omega
end
def zV:Val:=.mk 0 0 [] [] []
theorem intP (n:Int):Pure Tryz.prog 177 [.int .i64 n] (.agg (cV (.mk 2 n [] [] []))):=by
 refine Pure.go ir177 ck177 (Nat.le_refl _) fun KP Q hQ=>?_
 simp (disch:=first|omega|assumption) only [ir177,go_sem,↓reduceIte]
 refine goA_intro fun b hb=>?_
 simp (disch:=first|omega|assumption) only [go_sem,↓reduceIte]
 exact hQ _ _ _ [.agg [.int .i64 2,.int .i64 n,.str [],.sl .nil 5 [],.sl .nil 6 []]] nofun (by simp (disch:=first|omega|assumption) only [ir177,resvs,resv,go_sem,↓reduceIte]) rfl
theorem textP (t:List UInt8):Pure Tryz.prog 178 [.str t] (.agg (cV (.mk 4 0 t [] []))):=by
 refine Pure.go ir178 ck178 (Nat.le_refl _) fun KP Q hQ=>?_
 simp (disch:=first|omega|assumption) only [ir178,go_sem,↓reduceIte]
 refine goA_intro fun b hb=>?_
 simp (disch:=first|omega|assumption) only [go_sem,↓reduceIte]
 exact hQ _ _ _ [.agg [.int .i64 4,.int .i64 0,.str t,.sl .nil 5 [],.sl .nil 6 []]] nofun (by simp (disch:=first|omega|assumption) only [ir178,resvs,resv,go_sem,↓reduceIte]) rfl
end Go.Proofs.YticbbfbpeimkbaaGreatDoor
namespace Go.Proofs.YticbbfbpeimkbaaGreatDoor
open Go.Ab
structure Tok where
 k:Int
 s:List UInt8
def cK (t:Tok):List AV:=[.int .i64 t.k,.str t.s]
def cKs (l:List Tok):List (List AV):=l.map cK
theorem cKs_len (l:List Tok):(cKs l).length=l.length:=by simp [cKs]
theorem cKs_strip (l:List Tok):(cKs l).map (·.map AV.strip1)=cKs l:=by simp [cKs,cK,AV.strip1]
end Go.Proofs.YticbbfbpeimkbaaGreatDoor
namespace Go.Proofs.YticbbfbpeimkbaaGreatDoor
open Go.Ab
end Go.Proofs.YticbbfbpeimkbaaGreatDoor
namespace Go.Proofs.YticbbfbpeimkbaaGreatDoor
open Go.Ab
end Go.Proofs.YticbbfbpeimkbaaGreatDoor
namespace Go.Proofs.YticbbfbpeimkbaaGreatDoor
open Go.Ab
abbrev OwnR (H:Heap) (o:Own) (sz:Nat) (xs:List (List AV)):AV→Heap→Prop:=fun v H'=>∃ o',v=.sl o' sz xs∧OwnS H o H' o' xs.length sz
abbrev Gives (P:Program) (f:FuncId) (args:List AV) (H:Heap) (o:Own) (sz:Nat) (xs:List (List AV)):Prop :=
 ACalls P f args H (fun e H'=>match e with|.ret v=>OwnR H o sz xs v H'|.pan _=>False)
theorem goK_gives {P:Program} {KP:AV→Heap→Prop} {Q:AExit→Env→Heap→Prop} {st:List Fr} {ρ:Env} {H:Heap} {all l:List AItem} {d:Option Nat} {R:List Chk} {f:FuncId} {args:List AV} {o:Own} {sz:Nat} {xs:List (List AV)}
  (h:Gives P f args H o sz xs) (hk:∀ o' H',OwnS H o H' o' xs.length sz→goR P KP Q all l st R (ρ.set d (.sl o' sz xs)) H'):goK P KP Q all l st d R ρ f args H :=
 goK_both (XP:=fun _ _=>False) h (fun v H' ⟨o',e,hs⟩=>by subst e;exact hk o' H' hs) (fun _ _ h=>h.elim)
end Go.Proofs.YticbbfbpeimkbaaGreatDoor
namespace Go.Proofs.YticbbfbpeimkbaaGreatDoor
open Go.Ab
def isD (c:UInt8):Bool:=decide (48≤c.toNat) && decide (c.toNat≤57)
def isL (c:UInt8):Bool:=(decide (97≤c.toNat) && decide (c.toNat≤122)) || ((decide (65≤c.toNat) && decide (c.toNat≤90)) || decide (c.toNat=95))
theorem digitC (c:UInt8):Pure Tryz.prog 226 [.int .u8 (c.toNat:Int)] (.bool (isD c)):=by
 refine Pure.go ir226 ck226 (Nat.le_refl _) fun KP Q hQ=>?_
 by_cases h:(48:Int)≤c.toNat
 ·simp (disch:=first|omega|assumption) only [ir226,h,go_sem,↓reduceIte]
  have h':48≤c.toNat:=by omega
  have e:decide ((c.toNat:Int)≤57)=decide (c.toNat≤57):=by rw [decide_eq_decide];omega
  exact hQ _ _ _ _ nofun rfl (by simp [tupOf,envOf,AV.strip,AV.strip1,isD,h',e])
 ·simp (disch:=first|omega|assumption) only [ir226,h,go_sem,↓reduceIte]
  have h':¬ 48≤c.toNat:=by omega
  exact hQ _ _ _ _ nofun rfl (by simp [tupOf,envOf,AV.strip,AV.strip1,isD,h'])
theorem letterC (c:UInt8):Pure Tryz.prog 223 [.int .u8 (c.toNat:Int)] (.bool (isL c)):=by
 refine Pure.go ir223 ck223 (Nat.le_refl _) fun KP Q hQ=>?_
 have e:decide ((c.toNat:Int)=95)=decide (c.toNat=95):=by rw [decide_eq_decide];omega
 by_cases h:(97:Int)≤c.toNat
 ·have h':97≤c.toNat:=by omega
  by_cases h2:(c.toNat:Int)≤122
  ·have h2':c.toNat≤122:=by omega
   simp (disch:=first|omega|assumption) only [ir223,h,h2,go_sem,↓reduceIte]
   exact hQ _ _ _ _ nofun rfl (by simp [tupOf,envOf,AV.strip,AV.strip1,isL,h',h2'])
  ·have h2':¬ c.toNat≤122:=by omega
   have h3:(65:Int)≤c.toNat:=by omega
   have h4:¬ (c.toNat:Int)≤90:=by omega
   have h4':¬ c.toNat≤90:=by omega
   simp (disch:=first|omega|assumption) only [ir223,h,h2,h3,h4,go_sem,↓reduceIte]
   exact hQ _ _ _ _ nofun rfl (by simp [tupOf,envOf,AV.strip,AV.strip1,isL,h',h2',h4',e])
 ·have h':¬ 97≤c.toNat:=by omega
  by_cases h3:(65:Int)≤c.toNat
  ·have h3':65≤c.toNat:=by omega
   by_cases h4:(c.toNat:Int)≤90
   ·have h4':c.toNat≤90:=by omega
    simp (disch:=first|omega|assumption) only [ir223,h,h3,h4,go_sem,↓reduceIte]
    exact hQ _ _ _ _ nofun rfl (by simp [tupOf,envOf,AV.strip,AV.strip1,isL,h',h3',h4'])
   ·have h4':¬ c.toNat≤90:=by omega
    simp (disch:=first|omega|assumption) only [ir223,h,h3,h4,go_sem,↓reduceIte]
    exact hQ _ _ _ _ nofun rfl (by simp [tupOf,envOf,AV.strip,AV.strip1,isL,h',h3',h4',e])
  ·have h3':¬ 65≤c.toNat:=by omega
   simp (disch:=first|omega|assumption) only [ir223,h,h3,go_sem,↓reduceIte]
   exact hQ _ _ _ _ nofun rfl (by simp [tupOf,envOf,AV.strip,AV.strip1,isL,h',h3',e])
def nameG:List UInt8→Nat→Bool
 | [],_=>true
 | c :: r,i=>if isL c || (decide (i≠0) && isD c) then nameG r (i+1) else false
def nameM (s:List UInt8):Bool:=nameG s 0 && decide (s≠[])
def run1:List UInt8→Nat
 | []=>0
 | c :: r=>if isD c then run1 r+1 else 0
theorem run1_le:∀ l,run1 l≤l.length
 | []=>Nat.le_refl _
 | c :: r=>by have:=run1_le r;simp only [run1,List.length_cons];split<;>omega
theorem drop_cases (s:List UInt8) (k:Nat):(s.drop k=[]∧s.length≤k)∨(k<s.length∧s.drop k=s.getD k 0 :: s.drop (k+1)):=by
 rcases Nat.lt_or_ge k s.length with h|h
 ·right
  refine ⟨h,?_⟩
  rw [List.drop_eq_getElem_cons h]
  simp [h]
 ·left;exact ⟨List.drop_of_length_le h,h⟩
theorem digitsC (s:List UInt8) (hs:s.length≤Lim):Pure Tryz.prog 285 [.str s] (.int .i64 (run1 s)):=by
 refine Pure.go ir285 ck285 (Nat.le_refl _) fun KP Q hQ=>?_
 simp only [Lim] at hs
 have hr1:=run1_le s
 simp (disch:=first|omega|assumption) only [ir285,go_sem,↓reduceIte]
 refine goL_st (fun n:Nat=>[(3,.int .i64 n)]) (fun n H=>run1 s=n+run1 (s.drop n)∧n≤s.length) (fun n=>s.length-n) 0 (by simp (disch:=first|omega|assumption) only [go_sem,↓reduceIte]) ⟨by simp,by omega⟩ ?_
 rintro n H J ⟨hn,hle⟩ hJ
 rcases drop_cases s n with ⟨h1,h2⟩|⟨h1,h2⟩
 ·have hlt:¬ ((n:Int)<s.length):=by omega
  rw [h1] at hn
  simp only [run1,Nat.add_zero] at hn
  simp (disch:=first|omega|assumption) only [hlt,go_sem,↓reduceIte]
  exact hQ _ _ _ _ nofun rfl (by simp [tupOf,envOf,AV.strip,AV.strip1,hn])
 ·have hlt:((n:Int)<s.length):=by omega
  rw [h2] at hn
  simp only [run1] at hn
  simp (disch:=first|omega|assumption) only [hlt,go_sem,↓reduceIte]
  refine goK_pure (digitC (s.getD n 0)) ?_
  cases hd:isD (s.getD n 0) with
  | true =>
   simp only [hd,if_true] at hn
   simp (disch:=first|omega|assumption) only [hd,go_sem,↓reduceIte]
   exact goJ (hJ (n+1) _ (by omega) ⟨by omega,by omega⟩) (by simp (disch:=first|omega|assumption) only [wrap64,Int.natCast_add,Int.natCast_one,go_sem,↓reduceIte])
  | false =>
   simp only [hd,Bool.false_eq_true,if_false,Nat.add_zero] at hn
   simp (disch:=first|omega|assumption) only [hd,go_sem,↓reduceIte]
   exact hQ _ _ _ _ nofun rfl (by simp [tupOf,envOf,AV.strip,AV.strip1,hn])
end Go.Proofs.YticbbfbpeimkbaaGreatDoor
namespace Go.Proofs.YticbbfbpeimkbaaGreatDoor
open Go.Ab
theorem prefix1 (c:UInt8) (s:List UInt8):[c].isPrefixOf s=decide (s.head?=some c):=by
 cases s with
 | nil=>rfl
 | cons d r =>
  by_cases h:d=c
  ·subst h;simp [List.isPrefixOf]
  ·have h':¬ c=d:=fun e=>h e.symm
   simp [List.isPrefixOf,h,h']
def intN (s:List UInt8):Nat:=if run1 s=0 then 0 else if s.getD 0 0=48 then 1 else run1 s
def wholeN (s:List UInt8):Nat:=if s.head?=some 45 then (if run1 s.tail=0 then 0 else 1+intN s.tail) else intN s
theorem intN_le (s:List UInt8):intN s≤s.length:=by have:=run1_le s;unfold intN;split<;>(try split)<;>omega
theorem wholeN_le (s:List UInt8):wholeN s≤s.length:=by
 have h1:=intN_le s
 have h2:=intN_le s.tail
 unfold wholeN
 split
 ·rename_i h
  cases s with
  | nil=>simp at h
  | cons c r =>
   simp only [List.tail_cons,List.length_cons] at h2 ⊢
   by_cases h0:run1 r=0<;>simp only [h0,if_true,if_false]<;>omega
 ·exact h1
theorem u8_is (a:UInt8) (n:Nat) (hn:n<256):decide ((a.toNat:Int)=n)=decide (a=UInt8.ofNat n):=by
 rw [decide_eq_decide]
 have:(UInt8.ofNat n).toNat=n:=by simp [UInt8.toNat_ofNat'];omega
 constructor
 ·intro h;apply UInt8.toNat_inj.1;rw [this];omega
 ·intro h;subst h;rw [this]
theorem wholeC (s:List UInt8) (hs:s.length≤Lim):Pure Tryz.prog 284 [.str s] (.int .i64 (wholeN s)):=by
 refine Pure.go ir284 ck284 (Nat.le_refl _) fun KP Q hQ=>?_
 simp only [Lim] at hs
 simp (disch:=first|omega|assumption) only [ir284,go_sem,↓reduceIte]
 refine goK_pure (prefixC s [45]) ?_
 rw [prefix1]
 by_cases h:s.head?=some 45
 ·cases s with
  | nil=>simp at h
  | cons c r =>
   have hc:c=45:=by simpa using h
   subst hc
   simp only [List.length_cons] at hs
   have h1:(1:Int)≤((r.length+1:Nat):Int):=by omega
   have h2:(1:Int)<((r.length+1:Nat):Int)∨r=[]:=by cases r<;>simp;omega
   simp (disch:=first|omega|assumption) only [h,h1,Int.toNat_one,go_sem,↓reduceIte]
   refine goK_pure (digitsC r (by simp only [Lim];omega)) ?_
   by_cases h0:run1 r=0
   ·simp (disch:=first|omega|assumption) only [h0,go_sem,↓reduceIte]
    exact hQ _ _ _ _ nofun rfl (by simp [tupOf,envOf,AV.strip,AV.strip1,wholeN,h0])
   ·have h0':¬ ((run1 r:Int)=0):=by omega
    have hrl:=run1_le r
    have hlt:(1:Int)<((r.length+1:Nat):Int):=by omega
    have e:=u8_is (r.getD 0 0) 48 (by omega)
    by_cases h48:r.getD 0 0=48
    ·have hi:intN r=1:=by simp only [intN,h0,h48,if_false,if_true]
     simp (disch:=first|omega|assumption) only [h0',hlt,Int.toNat_one,h48,UInt8.reduceToNat,wrap64,go_sem,↓reduceIte]
     exact hQ _ _ _ _ nofun rfl (by simp [tupOf,envOf,AV.strip,AV.strip1,wholeN,h0,hi])
    ·have h48':¬ ((r.getD 0 0).toNat:Int)=48:=by
      intro hh
      rw [decide_eq_true (by exact hh)] at e
      exact h48 (by simpa using e.symm)
     have hi:intN r=run1 r:=by simp only [intN,h0,h48,if_false]
     simp (disch:=first|omega|assumption) only [h0',hlt,Int.toNat_one,h48',wrap64,go_sem,↓reduceIte]
     exact hQ _ _ _ _ nofun rfl (by simp [tupOf,envOf,AV.strip,AV.strip1,wholeN,h0,hi])
 ·simp (disch:=first|omega|assumption) only [h,go_sem,↓reduceIte]
  refine goK_pure (digitsC s (by simp only [Lim];omega)) ?_
  by_cases h0:run1 s=0
  ·simp (disch:=first|omega|assumption) only [h0,go_sem,↓reduceIte]
   exact hQ _ _ _ _ nofun rfl (by simp [tupOf,envOf,AV.strip,AV.strip1,wholeN,h,intN,h0])
  ·have h0':¬ ((run1 s:Int)=0):=by omega
   have hrl:=run1_le s
   have hlt:(0:Int)<(s.length:Int):=by omega
   have e:=u8_is (s.getD 0 0) 48 (by omega)
   by_cases h48:s.getD 0 0=48
   ·have hi:intN s=1:=by simp only [intN,h0,h48,if_false,if_true]
    simp (disch:=first|omega|assumption) only [h0',hlt,h48,UInt8.reduceToNat,wrap64,go_sem,↓reduceIte]
    exact hQ _ _ _ _ nofun rfl (by simp [tupOf,envOf,AV.strip,AV.strip1,wholeN,h,hi])
   ·have h48':¬ ((s.getD 0 0).toNat:Int)=48:=by
     intro hh
     rw [decide_eq_true (by exact hh)] at e
     exact h48 (by simpa using e.symm)
    have hi:intN s=run1 s:=by simp only [intN,h0,h48,if_false]
    simp (disch:=first|omega|assumption) only [h0',hlt,h48',wrap64,go_sem,↓reduceIte]
    exact hQ _ _ _ _ nofun rfl (by simp [tupOf,envOf,AV.strip,AV.strip1,wholeN,h,hi])
def isE (c:UInt8):Bool:=decide (c=101) || decide (c=69)
def sgN (r:List UInt8):Nat:=if r.head?=some 43∨r.head?=some 45 then 1 else 0
def powN:List UInt8→Nat
 | []=>0
 | c :: r=>if isE c then (if run1 (r.drop (sgN r))=0 then 0 else 1+sgN r+run1 (r.drop (sgN r))) else 0
theorem sgN_le (r:List UInt8):sgN r≤r.length:=by
 unfold sgN
 split
 ·cases r<;>simp_all
 ·omega
theorem powN_le:∀ s,powN s≤s.length
 | []=>by simp [powN]
 | c :: r=>by
  have h:=run1_le (r.drop (sgN r))
  have h2:=sgN_le r
  rw [List.length_drop] at h
  simp only [powN,List.length_cons]
  split
  ·split<;>omega
  ·omega
theorem powerC (s:List UInt8) (hs:s.length≤Lim):Pure Tryz.prog 286 [.str s] (.int .i64 (powN s)):=by
 refine Pure.go ir286 ck286 (Nat.le_refl _) fun KP Q hQ=>?_
 simp only [Lim] at hs
 cases s with
 | nil =>
  simp (disch:=first|omega|assumption) only [ir286,go_sem,↓reduceIte]
  exact hQ _ _ _ _ nofun rfl (by simp [tupOf,envOf,AV.strip,AV.strip1,powN])
 | cons c r =>
  simp only [List.length_cons] at hs
  have hne:¬ (c :: r=[]):=by simp
  have hp:(0:Int)<((r.length+1:Nat):Int):=by omega
  have e1:=u8_is c 101 (by omega)
  have e2:=u8_is c 69 (by omega)
  have hE:∀ (P:Prop),P→P:=fun _ h=>h
  by_cases hc:isE c=true
  case neg =>
   have hc1:¬ (c.toNat:Int)=101:=by
    intro hh;rw [decide_eq_true (by exact hh)] at e1
    exact hc (by simp [isE,(by simpa using e1.symm:c=101)])
   have hc2:¬ (c.toNat:Int)=69:=by
    intro hh;rw [decide_eq_true (by exact hh)] at e2
    exact hc (by simp [isE,(by simpa using e2.symm:c=69)])
   simp (disch:=first|omega|assumption) only [ir286,hne,hp,hc1,hc2,go_sem,↓reduceIte]
   have hcf:isE c=false:=by simpa using hc
   exact hQ _ _ _ _ nofun rfl (by simp [tupOf,envOf,AV.strip,AV.strip1,powN,hcf])
  have fin:∀ k:Nat,run1 (r.drop (sgN r))=k→powN (c :: r)=if k=0 then 0 else 1+sgN r+k:=fun k hk=>by subst hk;simp only [powN,hc,if_true]
  have hcase:(c.toNat:Int)=101∨(¬ (c.toNat:Int)=101∧(c.toNat:Int)=69):=by
   simp only [isE,Bool.or_eq_true,decide_eq_true_eq] at hc
   rcases hc with rfl|rfl
   ·exact .inl rfl
   ·exact .inr ⟨by decide,rfl⟩
  have hdl:=run1_le (r.drop (sgN r))
  rw [List.length_drop] at hdl
  have hsl:=sgN_le r
  cases r with
  | nil =>
   have k0:=fin 0 (by simp [sgN,run1])
   rcases hcase with h1|⟨h1,h2⟩
   ·simp (disch:=first|omega|assumption) only [ir286,h1,go_sem,↓reduceIte]
    refine goK_pure (digitsC [] (by simp)) ?_
    simp (disch:=first|omega|assumption) only [run1,go_sem,↓reduceIte]
    exact hQ _ _ _ _ nofun rfl (by simp [tupOf,envOf,AV.strip,AV.strip1,k0])
   ·simp (disch:=first|omega|assumption) only [ir286,h1,h2,go_sem,↓reduceIte]
    refine goK_pure (digitsC [] (by simp)) ?_
    simp (disch:=first|omega|assumption) only [run1,go_sem,↓reduceIte]
    exact hQ _ _ _ _ nofun rfl (by simp [tupOf,envOf,AV.strip,AV.strip1,k0])
  | cons d t =>
   simp only [List.length_cons] at hs
   have hl1:(1:Int)<((t.length+1+1:Nat):Int):=by omega
   have hl2:(2:Int)≤((t.length+1+1:Nat):Int):=by omega
   have hl3:(1:Int)≤((t.length+1+1:Nat):Int):=by omega
   have f1:=u8_is d 43 (by omega)
   have f2:=u8_is d 45 (by omega)
   by_cases hsg:d=43∨d=45
   ·have hsg1:sgN (d :: t)=1:=by simp only [sgN,List.head?_cons,Option.some.injEq,hsg,if_true]
    have k0:=fin (run1 t) (by rw [hsg1];rfl)
    rw [hsg1] at k0 hdl
    have hd:(d.toNat:Int)=43∨(¬ (d.toNat:Int)=43∧(d.toNat:Int)=45):=by
     rcases hsg with rfl|rfl
     ·exact .inl rfl
     ·exact .inr ⟨by decide,rfl⟩
    rcases hcase with h1|⟨h1,h2⟩<;>rcases hd with h3|⟨h3,h4⟩
    all_goals
     simp only [hl1,hl2,List.length_cons,List.drop_succ_cons,List.drop_zero] at hdl
    ·simp (disch:=first|omega|assumption) only [ir286,h1,h3,hl1,hl2,Int.toNat_one,go_sem,↓reduceIte]
     refine goK_pure (digitsC t (by simp only [Lim];omega)) ?_
     by_cases hz:run1 t=0
     ·simp (disch:=first|omega|assumption) only [hz,go_sem,↓reduceIte]
      exact hQ _ _ _ _ nofun rfl (by simp [tupOf,envOf,AV.strip,AV.strip1,k0,hz])
     ·have hz':¬ (run1 t:Int)=0:=by omega
      simp (disch:=first|omega|assumption) only [hz',wrap64,go_sem,↓reduceIte]
      exact hQ _ _ _ _ nofun rfl (by simp [tupOf,envOf,AV.strip,AV.strip1,k0,hz])
    ·simp (disch:=first|omega|assumption) only [ir286,h1,h3,h4,hl1,hl2,Int.toNat_one,go_sem,↓reduceIte]
     refine goK_pure (digitsC t (by simp only [Lim];omega)) ?_
     by_cases hz:run1 t=0
     ·simp (disch:=first|omega|assumption) only [hz,go_sem,↓reduceIte]
      exact hQ _ _ _ _ nofun rfl (by simp [tupOf,envOf,AV.strip,AV.strip1,k0,hz])
     ·have hz':¬ (run1 t:Int)=0:=by omega
      simp (disch:=first|omega|assumption) only [hz',wrap64,go_sem,↓reduceIte]
      exact hQ _ _ _ _ nofun rfl (by simp [tupOf,envOf,AV.strip,AV.strip1,k0,hz])
    ·simp (disch:=first|omega|assumption) only [ir286,h1,h2,h3,hl1,hl2,Int.toNat_one,go_sem,↓reduceIte]
     refine goK_pure (digitsC t (by simp only [Lim];omega)) ?_
     by_cases hz:run1 t=0
     ·simp (disch:=first|omega|assumption) only [hz,go_sem,↓reduceIte]
      exact hQ _ _ _ _ nofun rfl (by simp [tupOf,envOf,AV.strip,AV.strip1,k0,hz])
     ·have hz':¬ (run1 t:Int)=0:=by omega
      simp (disch:=first|omega|assumption) only [hz',wrap64,go_sem,↓reduceIte]
      exact hQ _ _ _ _ nofun rfl (by simp [tupOf,envOf,AV.strip,AV.strip1,k0,hz])
    ·simp (disch:=first|omega|assumption) only [ir286,h1,h2,h3,h4,hl1,hl2,Int.toNat_one,go_sem,↓reduceIte]
     refine goK_pure (digitsC t (by simp only [Lim];omega)) ?_
     by_cases hz:run1 t=0
     ·simp (disch:=first|omega|assumption) only [hz,go_sem,↓reduceIte]
      exact hQ _ _ _ _ nofun rfl (by simp [tupOf,envOf,AV.strip,AV.strip1,k0,hz])
     ·have hz':¬ (run1 t:Int)=0:=by omega
      simp (disch:=first|omega|assumption) only [hz',wrap64,go_sem,↓reduceIte]
      exact hQ _ _ _ _ nofun rfl (by simp [tupOf,envOf,AV.strip,AV.strip1,k0,hz])
   ·have hsg0:sgN (d :: t)=0:=by simp only [sgN,List.head?_cons,Option.some.injEq,hsg,if_false]
    have k0:=fin (run1 (d :: t)) (by rw [hsg0];rfl)
    rw [hsg0] at k0 hdl
    have h3:¬ (d.toNat:Int)=43:=by
     intro hh;rw [decide_eq_true (by exact hh)] at f1
     exact hsg (.inl (by simpa using f1.symm))
    have h4:¬ (d.toNat:Int)=45:=by
     intro hh;rw [decide_eq_true (by exact hh)] at f2
     exact hsg (.inr (by simpa using f2.symm))
    simp only [List.drop_zero,List.length_cons] at hdl
    rcases hcase with h1|⟨h1,h2⟩
    ·simp (disch:=first|omega|assumption) only [ir286,h1,h3,h4,hl1,hl3,Int.toNat_one,go_sem,↓reduceIte]
     refine goK_pure (digitsC (d :: t) (by simp only [Lim,List.length_cons];omega)) ?_
     by_cases hz:run1 (d :: t)=0
     ·simp (disch:=first|omega|assumption) only [hz,go_sem,↓reduceIte]
      exact hQ _ _ _ _ nofun rfl (by simp [tupOf,envOf,AV.strip,AV.strip1,k0,hz])
     ·have hz':¬ (run1 (d :: t):Int)=0:=by omega
      simp (disch:=first|omega|assumption) only [hz',wrap64,go_sem,↓reduceIte]
      exact hQ _ _ _ _ nofun rfl (by simp [tupOf,envOf,AV.strip,AV.strip1,k0,hz])
    ·simp (disch:=first|omega|assumption) only [ir286,h1,h2,h3,h4,hl1,hl3,Int.toNat_one,go_sem,↓reduceIte]
     refine goK_pure (digitsC (d :: t) (by simp only [Lim,List.length_cons];omega)) ?_
     by_cases hz:run1 (d :: t)=0
     ·simp (disch:=first|omega|assumption) only [hz,go_sem,↓reduceIte]
      exact hQ _ _ _ _ nofun rfl (by simp [tupOf,envOf,AV.strip,AV.strip1,k0,hz])
     ·have hz':¬ (run1 (d :: t):Int)=0:=by omega
      simp (disch:=first|omega|assumption) only [hz',wrap64,go_sem,↓reduceIte]
      exact hQ _ _ _ _ nofun rfl (by simp [tupOf,envOf,AV.strip,AV.strip1,k0,hz])
end Go.Proofs.YticbbfbpeimkbaaGreatDoor
namespace Go.Proofs.YticbbfbpeimkbaaGreatDoor
open Go.Ab
def fracN (r:List UInt8):Nat:=if r.head?=some 46∧0<run1 r.tail then 1+run1 r.tail else 0
def numN (s:List UInt8):Nat × Int :=
 if wholeN s=0 then (0,0) else
  (wholeN s+fracN (s.drop (wholeN s))+powN (s.drop (wholeN s+fracN (s.drop (wholeN s)))),if fracN (s.drop (wholeN s))=0∧powN (s.drop (wholeN s+fracN (s.drop (wholeN s))))=0 then 3 else 4)
theorem fracN_le (r:List UInt8):fracN r≤r.length:=by
 unfold fracN
 split
 ·rename_i h
  cases r with
  | nil=>simp at h
  | cons c t=>have:=run1_le t;simp only [List.tail_cons,List.length_cons];omega
 ·omega
theorem numberC (s:List UInt8) (hs:s.length≤Lim):Pure Tryz.prog 225 [.str s] (.tup [.int .i64 (numN s).1,.int .i64 (numN s).2]):=by
 refine Pure.go ir225 ck225 (Nat.le_refl _) fun KP Q hQ=>?_
 have hs':=hs
 simp only [Lim] at hs
 simp (disch:=first|omega|assumption) only [ir225,go_sem,↓reduceIte]
 refine goK_pure (wholeC s hs') ?_
 have hw:=wholeN_le s
 by_cases h0:wholeN s=0
 ·simp (disch:=first|omega|assumption) only [h0,go_sem,↓reduceIte]
  exact hQ _ _ _ _ nofun rfl (by simp [tupOf,envOf,AV.strip,AV.strip1,numN,h0])
 have h0':¬ ((wholeN s:Int)=0):=by omega
 have hwl:(wholeN s:Int)≤s.length:=by omega
 simp (disch:=first|omega|assumption) only [h0',hwl,go_sem,↓reduceIte]
 refine goK_pure (prefixC (s.drop (wholeN s)) [46]) ?_
 rw [prefix1]
 generalize hn:wholeN s=n at *
 have fin:∀ f p:Nat,fracN (s.drop n)=f→powN (s.drop (n+f))=p→numN s=(n+f+p,if f=0∧p=0 then 3 else 4):=fun f p hf hp=>by
  unfold numN
  rw [hn,hf,hp]
  simp only [h0,if_false]
 have hpl:=powN_le (s.drop n)
 rw [List.length_drop] at hpl
 by_cases h46:(s.drop n).head?=some 46
 ·obtain ⟨c,t,hct⟩:∃ c t,s.drop n=c :: t:=by
   cases hx:s.drop n with
   | nil=>rw [hx] at h46;simp at h46
   | cons c t=>exact ⟨c,t,rfl⟩
  have hlen:s.length=n+1+t.length:=by have:=congrArg List.length hct;simp at this;omega
  have hdr:s.drop (n+1)=t:=by rw [← List.drop_drop,hct];rfl
  have hto:((n:Int)+1).toNat=n+1:=by omega
  have hn1:(0:Int)≤(n:Int)+1:=by omega
  have hn2:(n:Int)+1≤s.length:=by omega
  have hrl:=run1_le t
  simp (disch:=first|omega|assumption) only [h46,wrap64,hto,hn1,hn2,hdr,go_sem,↓reduceIte]
  refine goK_pure (digitsC t (by simp only [Lim];omega)) ?_
  by_cases hk:(0:Int)<run1 t
  ·have hk':0<run1 t:=by omega
   have hfr:fracN (s.drop n)=1+run1 t:=by unfold fracN;rw [if_pos ⟨h46,by rw [hct];exact hk'⟩,hct];rfl
   have hto2:((n:Int)+1+run1 t).toNat=n+(1+run1 t):=by omega
   have hn3:(0:Int)≤(n:Int)+1+run1 t:=by omega
   have hn4:(n:Int)+1+run1 t≤s.length:=by omega
   have hpl2:=powN_le (s.drop (n+(1+run1 t)))
   rw [List.length_drop] at hpl2
   simp (disch:=first|omega|assumption) only [hk,wrap64,hto2,hn3,hn4,go_sem,↓reduceIte]
   refine goK_pure (powerC (s.drop (n+(1+run1 t))) (by rw [List.length_drop];simp only [Lim];omega)) ?_
   have hf:=fin _ _ hfr rfl
   generalize hp:powN (s.drop (n+(1+run1 t)))=p at *
   by_cases hp0:(0:Int)<p
   ·simp (disch:=first|omega|assumption) only [hp0,wrap64,go_sem,↓reduceIte]
    exact hQ _ _ _ _ nofun rfl (by simp [tupOf,envOf,AV.strip,AV.strip1,hf,Int.add_assoc])
   ·have hp00:p=0:=by omega
    subst hp00
    simp (disch:=first|omega|assumption) only [go_sem,↓reduceIte]
    exact hQ _ _ _ _ nofun rfl (by simp [tupOf,envOf,AV.strip,AV.strip1,hf,Int.add_assoc])
  ·have hk0:run1 t=0:=by omega
   have hfr:fracN (s.drop n)=0:=by unfold fracN;exact if_neg fun hh=>by have:=hh.2;rw [hct] at this;simp only [List.tail_cons] at this;omega
   simp (disch:=first|omega|assumption) only [hk,hwl,go_sem,↓reduceIte]
   refine goK_pure (powerC (s.drop n) (by rw [List.length_drop];simp only [Lim];omega)) ?_
   have hf:=fin _ _ hfr rfl
   rw [Nat.add_zero] at hf
   generalize hp:powN (s.drop n)=p at *
   by_cases hp0:(0:Int)<p
   ·have hp1:¬ p=0:=by omega
    simp (disch:=first|omega|assumption) only [hp0,wrap64,go_sem,↓reduceIte]
    exact hQ _ _ _ _ nofun rfl (by simp [tupOf,envOf,AV.strip,AV.strip1,hf,hp1])
   ·have hp00:p=0:=by omega
    subst hp00
    simp (disch:=first|omega|assumption) only [go_sem,↓reduceIte]
    exact hQ _ _ _ _ nofun rfl (by simp [tupOf,envOf,AV.strip,AV.strip1,hf])
 ·have hfr:fracN (s.drop n)=0:=by unfold fracN;exact if_neg fun hh=>h46 hh.1
  simp (disch:=first|omega|assumption) only [h46,hwl,go_sem,↓reduceIte]
  refine goK_pure (powerC (s.drop n) (by rw [List.length_drop];simp only [Lim];omega)) ?_
  have hf:=fin _ _ hfr rfl
  rw [Nat.add_zero] at hf
  generalize hp:powN (s.drop n)=p at *
  by_cases hp0:(0:Int)<p
  ·have hp1:¬ p=0:=by omega
   simp (disch:=first|omega|assumption) only [hp0,wrap64,go_sem,↓reduceIte]
   exact hQ _ _ _ _ nofun rfl (by simp [tupOf,envOf,AV.strip,AV.strip1,hf,hp1])
  ·have hp00:p=0:=by omega
   subst hp00
   simp (disch:=first|omega|assumption) only [go_sem,↓reduceIte]
   exact hQ _ _ _ _ nofun rfl (by simp [tupOf,envOf,AV.strip,AV.strip1,hf])
def numK (s:List UInt8):Int:=if (numN s).1=s.length then (numN s).2 else 0
theorem NumberC (s:List UInt8) (hs:s.length≤Lim):Pure Tryz.prog 207 [.str s] (.int .i64 (numK s)):=by
 refine Pure.go ir207 ck207 (Nat.le_refl _) fun KP Q hQ=>?_
 simp (disch:=first|omega|assumption) only [ir207,go_sem,↓reduceIte]
 refine goK_pure (numberC s hs) ?_
 by_cases h:(numN s).1=s.length
 ·have h':(((numN s).1:Int)=s.length)=True:=eq_true (by omega)
  simp (disch:=first|omega|assumption) only [h',go_sem,↓reduceIte]
  exact hQ _ _ _ _ nofun rfl (by simp [tupOf,envOf,AV.strip,AV.strip1,numK,h])
 ·have h':¬ ((numN s).1:Int)=s.length:=by omega
  simp (disch:=first|omega|assumption) only [h',go_sem,↓reduceIte]
  exact hQ _ _ _ _ nofun rfl (by simp [tupOf,envOf,AV.strip,AV.strip1,numK,h])
def okI:Lib.NumEnd Int→Bool
 | .ok _=>true
 | _=>false
def valI (s:List UInt8):Int:=match Lib.parseIntB 64 s with
 | .ok v=>v
 | Lib.NumEnd.syntax=>0
 | .range=>Lib.intSat 64 s
def wholeB (s:List UInt8):Bool:=okI (Lib.parseIntB 64 s) && decide (numK s=3)
theorem WholeC (s:List UInt8) (hs:s.length≤Lim):Pure Tryz.prog 176 [.str s] (.tup [.int .i64 (valI s),.bool (wholeB s)]):=by
 refine Pure.go ir176 ck176 (Nat.le_refl _) fun KP Q hQ=>?_
 simp (disch:=first|omega|assumption) only [ir176,go_sem,↓reduceIte]
 refine goK_pure (parseIntC s (by simp only [Lim] at hs;omega)) ?_
 rcases hp:Lib.parseIntB 64 s with v|_|_
 ·simp (disch:=first|omega|assumption) only [parseA,hp,go_sem,↓reduceIte]
  refine goK_pure (NumberC s hs) ?_
  simp (disch:=first|omega|assumption) only [go_sem,↓reduceIte]
  exact hQ _ _ _ _ nofun rfl (by simp [tupOf,envOf,AV.strip,AV.strip1,valI,wholeB,hp,okI])
 ·simp (disch:=first|omega|assumption) only [parseA,hp,go_sem,↓reduceIte]
  exact hQ _ _ _ _ nofun rfl (by simp [tupOf,envOf,AV.strip,AV.strip1,valI,wholeB,hp,okI])
 ·simp (disch:=first|omega|assumption) only [parseA,hp,go_sem,↓reduceIte]
  exact hQ _ _ _ _ nofun rfl (by simp [tupOf,envOf,AV.strip,AV.strip1,valI,wholeB,hp,okI])
def numB (s:List UInt8):Bool:=decide (numK s=4) || (decide (numK s=3) && !wholeB s)
def resB (s:List UInt8):Bool:=decide (s=[116,114,117,101]) || (decide (s=[102,97,108,115,101]) || decide (s=[110,117,108,108]))
def bareM (n:Int) (s:List UInt8) (l:List Val) (m:List Mem):Bool:=decide (n=0) && (decide (s=[]) && (decide (l.length=0) && decide (m.length=0)))
def singleM (k n:Int) (s:List UInt8) (l:List Val) (m:List Mem):Bool :=
 bareM 0 [] l m && (if k=0 then decide (n=0) && decide (s=[]) else if k=1 then (decide (n=0) || decide (n=1)) && decide (s=[]) else if k=2 then decide (s=[])
  else if k=3 then decide (n=0) && numB s else if k=4 then decide (n=0) && Lib.validD s else if k=5 then decide (n=0) && (nameM s && !resB s) else if k=8 then decide (n=0) && nameM s else false)
end Go.Proofs.YticbbfbpeimkbaaGreatDoor
namespace Go.Proofs.YticbbfbpeimkbaaGreatDoor
open Go.Ab
mutual
def allV (may:List UInt8→Bool):Val→Bool
 | .mk k n s l m=>if k=6 then allVs may l && bareM n s [] m else if k=7 then allMs may m && bareM n s l [] else singleM k n s l m
def allVs (may:List UInt8→Bool):List Val→Bool
 | []=>true
 | v :: r=>allV may v && allVs may r
def allM (may:List UInt8→Bool):Mem→Bool
 | .mk s v=>may s && allV may v
def allMs (may:List UInt8→Bool):List Mem→Bool
 | []=>true
 | x :: r=>allM may x && allMs may r
end
def goodV (v:Val):Bool:=allV Lib.validD v
def boolT (b:Bool):List UInt8:=if b then [116,114,117,101] else [102,97,108,115,101]
mutual
def tokV:Val→List Tok
 | .mk k n s l m=>if k=0 then [⟨2,[110,117,108,108]⟩] else if k=1 then [⟨2,boolT (decide (n=1))⟩] else if k=2 then [⟨3,Lib.itoa n⟩] else if k=3 then [⟨numK s,s⟩] else if k=4 then [⟨5,s⟩]
  else if k=5 then [⟨2,s⟩] else if k=8 then [⟨1,[36]⟩,⟨2,s⟩] else if k=6 then ⟨1,[91]⟩ :: (tokVs l++[⟨1,[93]⟩]) else ⟨1,[123]⟩ :: (tokMs m++[⟨1,[125]⟩])
def tokVs:List Val→List Tok
 | []=>[]
 | v :: r=>tokV v++tokVs r
def tokM:Mem→List Tok
 | .mk s v=>⟨2,s⟩ :: ⟨1,[58]⟩ :: tokV v
def tokMs:List Mem→List Tok
 | []=>[]
 | x :: r=>tokM x++tokMs r
end
def inR (n:Int):Prop:=-9223372036854775808≤n∧n≤9223372036854775807
mutual
def wfV:Val→Prop
 | .mk _ n _ l m=>inR n∧wfVs l∧wfMs m
def wfVs:List Val→Prop
 | []=>True
 | v :: r=>wfV v∧wfVs r
def wfM:Mem→Prop
 | .mk _ v=>wfV v
def wfMs:List Mem→Prop
 | []=>True
 | x :: r=>wfM x∧wfMs r
end
theorem wfVs_mem:∀ {l:List Val},wfVs l→∀ v ∈ l,wfV v
 | _ :: _,h,v,hv=>(List.mem_cons.1 hv).elim (fun e=>e▸h.1) (wfVs_mem h.2 v)
theorem wfMs_mem:∀ {l:List Mem},wfMs l→∀ s v,Mem.mk s v ∈ l→wfV v
 | _ :: _,h,s,v,hv=>(List.mem_cons.1 hv).elim (fun e=>by have:=h.1;rw [← e] at this;exact this) (wfMs_mem h.2 s v)
theorem cKs_app (a:List Tok) (t:Tok):cKs a++[[.int .i64 t.k,.str t.s]]=cKs (a++[t]):=by simp [cKs,cK]
end Go.Proofs.YticbbfbpeimkbaaGreatDoor
namespace Go.Proofs.YticbbfbpeimkbaaGreatDoor
def joinP0 (P:Program) (f:FuncId) (fn:Func) (s:ChangeSpec) (c:OpenClaim):Bool:=c.wf (OpenSpec.ofChange s) && laidOutB P && mapsRowed P && fn.params.all (P.readableRec ·) && namedTie P c.named s.vars
def joinP1 (P:Program) (f:FuncId) (fn:Func) (s:ChangeSpec) (c:OpenClaim):Bool:=(c.stops == []) && (P.stops == []) && (c.knobs == []) && (P.stopKnobs == []) && (c.maps == (fn.params.toList++s.plain.varTypes P).any (P.mapsRec ·)) && (c.ifaces == (fn.params.toList++s.plain.varTypes P).any (P.ifacesRec ·)) && (c.mapsOut == P.mapsAmong fn.resultTypes.toList) && (c.loops == (fn.params.toList++s.plain.varTypes P).any (P.loopsFrom ·)) && (c.wideKeys == (fn.params.toList++s.plain.varTypes P++fn.resultTypes.toList).any (P.wideKeysFrom ·)) && s.vars.all (P.varReadable ·) && fn.resultTypes.all (fun t=>P.readableRec t && decide (t<P.types.size)) && (c.ifacesOut == fn.resultTypes.toList.any (P.ifacesRec ·)) && (c.loopsOut == fn.resultTypes.toList.any (P.loopsFrom ·)) && (c.veiled == (fn.params.toList++s.plain.varTypes P++fn.resultTypes.toList).any (P.veiledRec ·)) && c.veiledFits P fn.params.toList (fn.params.toList++s.plain.varTypes P++fn.resultTypes.toList)
def joinP2 (P:Program) (f:FuncId) (fn:Func) (s:ChangeSpec) (c:OpenClaim):Bool:=(c.inPlace == P.inPlace f) && (c.unfollowed == P.unfollowed f) && (c.recurses == P.recurses f) && (c.named == P.varsNamed f)
def joinP3 (P:Program) (f:FuncId) (fn:Func) (s:ChangeSpec) (c:OpenClaim):Bool:=(c.plainKeys == P.plainKeys) && c.shortTexts.isNone
def joinP4 (P:Program) (f:FuncId) (fn:Func) (s:ChangeSpec) (c:OpenClaim):Bool:=P.stopsHeard
def joinP5 (P:Program) (f:FuncId) (fn:Func) (s:ChangeSpec) (c:OpenClaim):Bool:=P.mayEnter
def joinP6 (P:Program) (f:FuncId) (fn:Func) (s:ChangeSpec) (c:OpenClaim):Bool:=(c.lifted == P.liftsFinal) && (P.make == some c.make) && (c.kinds == (if c.domain.isEmpty then [] else fn.params.toList.map fun t=>match P.underlying t with|some (.int k)=>some k|_=>none)) && (c.pinned == c.pinnedBy)
theorem joined_of {P:Program} {f:FuncId} {fn:Func} {s:ChangeSpec} {c:OpenClaim} (h0:joinP0 P f fn s c=true) (h1:joinP1 P f fn s c=true) (h2:joinP2 P f fn s c=true) (h3:joinP3 P f fn s c=true) (h4:joinP4 P f fn s c=true) (h5:joinP5 P f fn s c=true) (h6:joinP6 P f fn s c=true):joinedFacts P f fn s c=true:=by
 simp only [joinP0,Bool.and_eq_true] at h0
 obtain ⟨⟨⟨⟨a0,a1⟩,a2⟩,a3⟩,a4⟩:=h0
 simp only [joinP1,Bool.and_eq_true] at h1
 obtain ⟨⟨⟨⟨⟨⟨⟨⟨⟨⟨⟨⟨⟨⟨a5,a6⟩,a7⟩,a8⟩,a13⟩,a14⟩,a15⟩,a16⟩,a17⟩,a18⟩,a19⟩,a20⟩,a21⟩,a30⟩,a31⟩:=h1
 simp only [joinP2,Bool.and_eq_true] at h2
 obtain ⟨⟨⟨a9,a10⟩,a11⟩,a12⟩:=h2
 simp only [joinP3,Bool.and_eq_true] at h3
 obtain ⟨a22,a23⟩:=h3
 simp only [joinP4,Bool.and_eq_true] at h4
 have a24:=h4
 simp only [joinP5,Bool.and_eq_true] at h5
 have a25:=h5
 simp only [joinP6,Bool.and_eq_true] at h6
 obtain ⟨⟨⟨a26,a27⟩,a28⟩,a29⟩:=h6
 simp only [joinedFacts,Bool.and_eq_true]
 exact ⟨⟨⟨⟨⟨⟨⟨⟨⟨⟨⟨⟨⟨⟨⟨⟨⟨⟨⟨⟨⟨⟨⟨⟨⟨⟨⟨⟨⟨⟨⟨a0,a1⟩,a2⟩,a3⟩,a4⟩,a5⟩,a6⟩,a7⟩,a8⟩,a9⟩,a10⟩,a11⟩,a12⟩,a13⟩,a14⟩,a15⟩,a16⟩,a17⟩,a18⟩,a19⟩,a20⟩,a21⟩,a22⟩,a23⟩,a24⟩,a25⟩,a26⟩,a27⟩,a28⟩,a29⟩,a30⟩,a31⟩
end Go.Proofs.YticbbfbpeimkbaaGreatDoor
namespace Go.Proofs.YticbbfbpeimkbaaGreatDoor
open Go.Ab Go.Lib
open Go.ChangeShapes Go.WideShapes Go.ChangeAt Go.RowKit Go.WideElems
theorem own:ownKnob Tryz.prog.godebug=none:=by kernel_rfl
theorem laidOut:laidOutB Tryz.prog=true:=by kernel_rfl
theorem cond_bulk {H:Type} {s:ChangeSpec} {ds:List (DataW H)} (h:∀ k,(Rows.OpenSpec.upto s).cond=some k→k H ds=true):blkAll ds≤1048576:=by
 have h1:Rows.uptoSmall H ds=true:=h _ rfl
 have h2:=of_decide_eq_true h1
 rwa [bulkAll_eq] at h2
end Go.Proofs.YticbbfbpeimkbaaGreatDoor
namespace Go.Proofs.YticbbfbpeimkbaaGreatDoor
open Go.Ab
structure DirD where
 nm:List UInt8
 args:List Mem
inductive SelD where
 | mk (k:Int) (al nm:List UInt8) (args:List Mem) (dirs:List DirD) (on:List UInt8) (sels:List SelD)
structure TyD where
 nm:List UInt8
 lists:Int
 musts:Int
structure VarD where
 nm:List UInt8
 t:TyD
 has:Bool
 d:Val
structure OpD where
 k:Int
 nm:List UInt8
 vars:List VarD
 dirs:List DirD
 sels:List SelD
structure FragD where
 nm:List UInt8
 on:List UInt8
 dirs:List DirD
 sels:List SelD
structure DocD where
 ops:List OpD
 frags:List FragD
def cD (x:DirD):List AV:=[.str x.nm,.sl .no 6 (cMs x.args)]
def cDs (l:List DirD):List (List AV):=l.map cD
mutual
def cS:SelD→List AV
 | .mk k al nm args dirs on sels=>[.int .i64 k,.str al,.str nm,.sl .no 6 (cMs args),.sl .no 2 (cDs dirs),.str on,.sl .no 7 (cSs sels)]
def cSs:List SelD→List (List AV)
 | []=>[]
 | x :: r=>cS x :: cSs r
end
def cTy (t:TyD):List AV:=[.str t.nm,.int .i64 t.lists,.int .i64 t.musts]
def cW (x:VarD):List AV:=cTy ⟨x.nm,0,0⟩ |>.take 1 |>.append (cTy x.t++(.bool x.has :: cV x.d))
def cWs (l:List VarD):List (List AV):=l.map cW
def cO (x:OpD):List AV:=[.int .i64 x.k,.str x.nm,.sl .no 10 (cWs x.vars),.sl .no 2 (cDs x.dirs),.sl .no 7 (cSs x.sels)]
def cOs (l:List OpD):List (List AV):=l.map cO
def cF (x:FragD):List AV:=[.str x.nm,.str x.on,.sl .no 2 (cDs x.dirs),.sl .no 7 (cSs x.sels)]
def cFs (l:List FragD):List (List AV):=l.map cF
def cDoc (d:DocD):List AV:=[.sl .no 5 (cOs d.ops),.sl .no 4 (cFs d.frags)]
theorem cW_mk (nm:List UInt8) (t:TyD) (h:Bool) (d:Val):cW ⟨nm,t,h,d⟩=.str nm :: .str t.nm :: .int .i64 t.lists :: .int .i64 t.musts :: .bool h :: cV d:=rfl
theorem cSs_map:∀ l,cSs l=l.map cS
 | []=>rfl
 | v :: r=>by rw [cSs,cSs_map r];rfl
theorem cDs_len (l:List DirD):(cDs l).length=l.length:=by simp [cDs]
theorem cSs_len (l:List SelD):(cSs l).length=l.length:=by rw [cSs_map];simp
theorem cWs_len (l:List VarD):(cWs l).length=l.length:=by simp [cWs]
theorem cOs_len (l:List OpD):(cOs l).length=l.length:=by simp [cOs]
theorem cFs_len (l:List FragD):(cFs l).length=l.length:=by simp [cFs]
theorem cD_strip (x:DirD):(cD x).map AV.strip1=cD x:=rfl
theorem cS_strip (x:SelD):(cS x).map AV.strip1=cS x:=by cases x;rfl
theorem cW_strip (x:VarD):(cW x).map AV.strip1=cW x:=by rcases x with ⟨a,b,c,⟨⟩⟩;rfl
theorem cS_len (x:SelD):(cS x).length=7:=by cases x;rfl
theorem cS_take (x:SelD):(cS x).take 7=cS x:=by cases x;rfl
theorem cS_splice (a b c d e f g:AV) (x:SelD):splice [a,b,c,d,e,f,g] 0 (cS x)=cS x:=by cases x;rfl
theorem cW_len (x:VarD):(cW x).length=10:=by rcases x with ⟨a,b,c,⟨⟩⟩;rfl
theorem cW_take (x:VarD):(cW x).take 10=cW x:=by rcases x with ⟨a,b,c,⟨⟩⟩;rfl
def bD (x:DirD):Nat:=1+x.nm.length+bMs x.args
def bDs (l:List DirD):Nat:=(l.map bD).sum
mutual
def bS:SelD→Nat
 | .mk _ al nm args dirs on sels=>1+al.length+nm.length+on.length+bMs args+bDs dirs+bSs sels
def bSs:List SelD→Nat
 | []=>0
 | x :: r=>bS x+bSs r
end
def bW (x:VarD):Nat:=x.nm.length+x.t.nm.length+bV x.d
def bWs (l:List VarD):Nat:=(l.map bW).sum
def bO (x:OpD):Nat:=1+x.nm.length+bWs x.vars+bDs x.dirs+bSs x.sels
def bF (x:FragD):Nat:=1+x.nm.length+x.on.length+bDs x.dirs+bSs x.sels
mutual
theorem SelD.ind {P:SelD→Prop} (h:∀ k al nm args dirs on sels,(∀ v ∈ sels,P v)→P (.mk k al nm args dirs on sels)):∀ v,P v
 | .mk k al nm args dirs on sels=>h k al nm args dirs on sels (SelD.indL h sels)
theorem SelD.indL {P:SelD→Prop} (h:∀ k al nm args dirs on sels,(∀ v ∈ sels,P v)→P (.mk k al nm args dirs on sels)):∀ l:List SelD,∀ v ∈ l,P v
 | [],_,hv=>by cases hv
 | x :: r,v,hv=>(List.mem_cons.1 hv).elim (fun e=>e▸SelD.ind h x) (SelD.indL h r v)
end
end Go.Proofs.YticbbfbpeimkbaaGreatDoor
namespace Go.Proofs.YticbbfbpeimkbaaGreatDoor
open Go.Ab
def hexL:List UInt8:=[48,49,50,51,52,53,54,55,56,57,97,98,99,100,101,102]
def hexD (c:UInt8):Option Nat:=if Lib.indexByte hexL (c ||| 32)<0∨c.toNat<48∨(57<c.toNat∧c.toNat<65) then none else some (Lib.indexByte hexL (c ||| 32)).toNat
def unitG:Nat→List UInt8→Nat→Option Nat
 | 0,_,u=>some u
 | _+1,[],_=>none
 | n+1,c :: t,u=>match hexD c with
  | none=>none
  | some k=>unitG n t (16*u+k)
def unitM (s:List UInt8):Option Nat:=unitG 4 s 0
def encM (n:Nat):List UInt8 :=
 if n≤127 then [UInt8.ofNat n]
 else if n≤2047 then [UInt8.ofNat (192+n / 64),UInt8.ofNat (128+n % 64)]
 else if n≤65535 then [UInt8.ofNat (224+n / 4096),UInt8.ofNat (128+n / 64 % 64),UInt8.ofNat (128+n % 64)]
 else [UInt8.ofNat (240+n / 262144),UInt8.ofNat (128+n / 4096 % 64),UInt8.ofNat (128+n / 64 % 64),UInt8.ofNat (128+n % 64)]
def joinM:List Nat→Option (List UInt8)
 | []=>some []
 | u :: r=>if 65535<u∨(56320≤u∧u≤57343) then none
  else if 55296≤u∧u<56320 then match r with
   | []=>none
   | v :: r=>if v<56320∨57343<v then none else (joinM r).map (encM (65536+1024*(u-55296)+(v-56320))++·)
  else (joinM r).map (encM u++·)
structure Sd where
 b:List UInt8
 u:List Nat
 ok:Bool
def flushM (q:Sd):Sd:=⟨q.b++(joinM q.u).getD [],[],q.ok && (joinM q.u).isSome⟩
def Sd.put (q:Sd) (c:UInt8):Sd:=⟨(flushM q).b++[c],[],(flushM q).ok⟩
def escL:List UInt8:=[34,92,47,98,102,110,114,116]
def escV:List UInt8:=[34,92,47,8,12,10,13,9]
def escM (q:Sd):List UInt8→Option (Sd × List UInt8)
 | []=>none
 | c :: t=>if c=117 then (unitM t).map fun u=>(⟨q.b,q.u++[u],q.ok⟩,t.drop 4)
  else if Lib.indexByte escL c<0 then none else some (q.put (escV.getD (Lib.indexByte escL c).toNat 0),t)
def quoG (may:UInt8→Bool):Nat→List UInt8→Sd→Option (Sd × List UInt8)
 | 0,_,_=>none
 | _+1,[],_=>none
 | n+1,c :: t,q=>if c=34 then some (flushM q,t)
  else if c=92 then match escM q t with
   | none=>none
   | some (q',t')=>quoG may n t' q'
  else if may c then quoG may n t (q.put c) else none
def quoM (may:UInt8→Bool) (t:List UInt8):Option (List UInt8 × List UInt8):=match quoG may (t.length+1) t ⟨[],[],true⟩ with
 | some (q,t')=>if q.ok then some (q.b,t') else none
 | none=>none
def hiB (c:UInt8):Bool:=decide (32≤c.toNat)
def bk (c:UInt8):Bool:=decide (0≤Lib.indexByte [9,10,13,32] c)
def skB:List UInt8→List UInt8
 | []=>[]
 | c :: t=>if bk c then skB t else c :: t
def nch (c:UInt8):Bool:=decide (0≤Lib.indexByte [48,49,50,51,52,53,54,55,56,57,43,45,46,101,69] c)
def nst (c:UInt8):Bool:=decide (0≤Lib.indexByte [45,48,49,50,51,52,53,54,55,56,57] c)
abbrev RR (α:Type):=Except Int (α × List UInt8)
def RR.bind {α β:Type} (x:RR α) (f:α→List UInt8→RR β):RR β:=match x with
 | .ok (a,t)=>f a t
 | .error e=>.error e
def mayM (p t:List UInt8):Option (List UInt8):=if p.isPrefixOf (skB t) then some ((skB t).drop p.length) else none
def mustM (p t:List UInt8):RR Unit:=match mayM p t with
 | some t'=>.ok ((),t')
 | none=>.error 2
def textM (t:List UInt8):RR (List UInt8):=if [34].isPrefixOf (skB t) then match quoM hiB (skB t).tail with
  | some x=>.ok x
  | none=>.error 2
 else .error 2
def nullV:Val:=.mk 0 0 [] [] []
def numV (s:List UInt8):Val:=if wholeB s then .mk 2 (valI s) [] [] [] else .mk 3 0 s [] []
def numM (t:List UInt8):RR Val:=if numK (t.takeWhile nch)=0 then .error 2 else .ok (numV (t.takeWhile nch),t.dropWhile nch)
def itemsM (p:List UInt8→RR Val):Nat→List Val→List UInt8→RR (List Val)
 | 0,_,_=>.error 2
 | n+1,l,t=>match mayM [93] t with
  | some t'=>.ok (l,t')
  | none=>(mustM [44] t).bind fun _ t=>(p t).bind fun v t=>itemsM p n (l++[v]) t
def listM (p:List UInt8→RR Val) (t:List UInt8):RR Val:=match mayM [93] t with
 | some t'=>.ok (.mk 6 0 [] [] [],t')
 | none=>(p t).bind fun v t=>(itemsM p (t.length+1) [v] t).bind fun l t=>.ok (.mk 6 0 [] l [],t)
def hasN (s:List UInt8):List Mem→Bool
 | []=>false
 | .mk t _ :: r=>decide (t=s) || hasN s r
def memberM (p:List UInt8→RR Val) (l:List Mem) (t:List UInt8):RR (List Mem) :=
 (textM t).bind fun s t=>if hasN s l then .error 5 else (mustM [58] t).bind fun _ t=>(p t).bind fun v t=>.ok (l++[.mk s v],t)
def membersM (p:List UInt8→RR Val):Nat→List Mem→List UInt8→RR (List Mem)
 | 0,_,_=>.error 2
 | n+1,l,t=>match mayM [125] t with
  | some t'=>.ok (l,t')
  | none=>(mustM [44] t).bind fun _ t=>(memberM p l t).bind fun l t=>membersM p n l t
def mapM (p:List UInt8→RR Val) (t:List UInt8):RR Val:=match mayM [125] t with
 | some t'=>.ok (.mk 7 0 [] [] [],t')
 | none=>(memberM p [] t).bind fun l t=>(membersM p (t.length+1) l t).bind fun l t=>.ok (.mk 7 0 [] [] l,t)
def wordM (t:List UInt8):RR Val:=match mayM [110,117,108,108] t with
 | some t'=>.ok (nullV,t')
 | none=>match mayM [116,114,117,101] t with
  | some t'=>.ok (.mk 1 1 [] [] [],t')
  | none=>(mustM [102,97,108,115,101] t).bind fun _ t=>.ok (.mk 1 0 [] [] [],t)
def headM (t:List UInt8) (p:List UInt8→RR Val):RR Val:=match t with
 | []=>wordM []
 | c :: r=>if c=123 then mapM p r else if c=91 then listM p r
  else if c=34 then (textM (c :: r)).bind fun s t=>.ok (.mk 4 0 s [] [],t)
  else if nst c then numM (c :: r) else wordM (c :: r)
def deepM (_:List UInt8):RR Val:=.error 4
def valM:Nat→List UInt8→RR Val
 | 0,t=>if (skB t).head?=some 123∨(skB t).head?=some 91 then .error 4 else headM (skB t) deepM
 | n+1,t=>headM (skB t) (valM n)
theorem escM_suf {q q':Sd} {t t':List UInt8} (h:escM q t=some (q',t')):t' <:+ t∧t'.length<t.length:=by
 cases t with
 | nil=>cases h
 | cons c t =>
  simp only [escM] at h
  split at h
  ·cases hu:unitM t with
   | none=>simp [hu] at h
   | some u =>
    simp only [hu,Option.map_some,Option.some.injEq,Prod.mk.injEq] at h
    obtain ⟨_,rfl⟩:=h
    exact ⟨(List.drop_suffix _ _).trans (List.suffix_cons ..),by simp;omega⟩
  ·split at h
   ·cases h
   ·simp only [Option.some.injEq,Prod.mk.injEq] at h
    obtain ⟨_,rfl⟩:=h
    exact ⟨List.suffix_cons ..,by simp⟩
theorem quoG_suf {may:UInt8→Bool}:∀ (n:Nat) (t:List UInt8) (q q':Sd) (t':List UInt8),quoG may n t q=some (q',t')→t' <:+ t∧t'.length<t.length
 | 0,_,_,_,_,h=>by cases h
 | _+1,[],_,_,_,h=>by cases h
 | n+1,c :: t,q,q',t',h=>by
  simp only [quoG] at h
  split at h
  ·simp only [Option.some.injEq,Prod.mk.injEq] at h
   obtain ⟨_,rfl⟩:=h
   exact ⟨List.suffix_cons ..,by simp⟩
  ·split at h
   ·cases he:escM q t with
    | none=>simp [he] at h
    | some x =>
     obtain ⟨q1,t1⟩:=x
     simp only [he] at h
     have h1:=escM_suf he
     have h2:=quoG_suf n t1 q1 q' t' h
     exact ⟨(h2.1.trans h1.1).trans (List.suffix_cons ..),by simp;omega⟩
   ·split at h
    ·have h2:=quoG_suf n t _ q' t' h
     exact ⟨h2.1.trans (List.suffix_cons ..),by simp;omega⟩
    ·cases h
theorem quoM_suf {may:UInt8→Bool} {t t' b:List UInt8} (h:quoM may t=some (b,t')):t' <:+ t∧t'.length<t.length:=by
 unfold quoM at h
 split at h
 ·rename_i q t1 hq
  split at h
  ·cases h;exact quoG_suf _ _ _ _ _ hq
  ·cases h
 ·cases h
end Go.Proofs.YticbbfbpeimkbaaGreatDoor
namespace Go.Proofs.YticbbfbpeimkbaaGreatDoor
open Go.Ab
theorem unitG_len:∀ (n:Nat) (t:List UInt8) (u v:Nat),unitG n t u=some v→n≤t.length
 | 0,_,_,_,_=>Nat.zero_le _
 | n+1,[],_,_,h=>by cases h
 | n+1,c :: t,u,v,h=>by
  simp only [unitG] at h
  split at h
  ·cases h
  ·have:=unitG_len n t _ v h;simp;omega
theorem encM_len (n:Nat):(encM n).length≤4∧(n≤65535→(encM n).length≤3):=by
 unfold encM
 split
 ·simp
 ·split
  ·simp
  ·split
   ·simp
   ·refine ⟨by simp,fun h=>by omega⟩
theorem joinM_len:∀ (u:List Nat) (s:List UInt8),joinM u=some s→s.length≤3*u.length
 | [],s,h=>by cases h;simp
 | u :: [],s,h=>by
  simp only [joinM] at h
  split at h
  ·cases h
  ·rename_i h1
   split at h
   ·cases h
   ·simp only [Option.map_some,Option.some.injEq] at h
    subst h
    have:=(encM_len u).2 (by omega)
    simp;omega
 | u :: v :: r,s,h=>by
  rw [joinM] at h
  split at h
  ·cases h
  ·rename_i h1
   split at h
   ·split at h
    ·cases h
    ·cases hr:joinM r with
     | none=>simp [hr] at h
     | some x =>
      simp only [hr,Option.map_some,Option.some.injEq] at h
      subst h
      have h2:=joinM_len r x hr
      have h3:=(encM_len (65536+1024*(u-55296)+(v-56320))).1
      simp only [List.length_append,List.length_cons];omega
   ·cases hr:joinM (v :: r) with
    | none=>simp [hr] at h
    | some x =>
     simp only [hr,Option.map_some,Option.some.injEq] at h
     subst h
     have h2:=joinM_len (v :: r) x hr
     have h3:=(encM_len u).2 (by omega)
     simp only [List.length_append,List.length_cons] at h2 ⊢;omega
def Sd.w (q:Sd):Nat:=q.b.length+3*q.u.length
theorem flush_w (q:Sd):(flushM q).b.length≤q.w:=by
 unfold flushM Sd.w
 cases h:joinM q.u with
 | none=>simp
 | some s=>have:=joinM_len _ _ h;simp;omega
theorem put_w (q:Sd) (c:UInt8):(q.put c).w≤q.w+1:=by
 have:=flush_w q
 simp only [Sd.put,Sd.w,List.length_append,List.length_cons,List.length_nil] at this ⊢;omega
theorem escM_w {q q':Sd} {t t':List UInt8} (h:escM q t=some (q',t')):q'.w+t'.length≤q.w+t.length:=by
 cases t with
 | nil=>cases h
 | cons c t =>
  simp only [escM] at h
  split at h
  ·cases hu:unitM t with
   | none=>simp [hu] at h
   | some u =>
    simp only [hu,Option.map_some,Option.some.injEq,Prod.mk.injEq] at h
    obtain ⟨rfl,rfl⟩:=h
    have:=unitG_len _ _ _ _ hu
    simp only [Sd.w,List.length_append,List.length_cons,List.length_nil,List.length_drop];omega
  ·split at h
   ·cases h
   ·simp only [Option.some.injEq,Prod.mk.injEq] at h
    obtain ⟨rfl,rfl⟩:=h
    have:=put_w q (escV.getD (Lib.indexByte escL c).toNat 0)
    simp only [List.length_cons];omega
theorem quoG_w {may:UInt8→Bool}:∀ (n:Nat) (t:List UInt8) (q q':Sd) (t':List UInt8),quoG may n t q=some (q',t')→q'.b.length+t'.length+1≤q.w+t.length
 | 0,_,_,_,_,h=>by cases h
 | _+1,[],_,_,_,h=>by cases h
 | n+1,c :: t,q,q',t',h=>by
  simp only [quoG] at h
  split at h
  ·simp only [Option.some.injEq,Prod.mk.injEq] at h
   obtain ⟨rfl,rfl⟩:=h
   have:=flush_w q
   simp only [List.length_cons];omega
  ·split at h
   ·cases he:escM q t with
    | none=>simp [he] at h
    | some x =>
     obtain ⟨q1,t1⟩:=x
     simp only [he] at h
     have h1:=escM_w he
     have h2:=quoG_w n t1 q1 q' t' h
     simp only [List.length_cons];omega
   ·split at h
    ·have h2:=quoG_w n t _ q' t' h
     have h3:=put_w q c
     simp only [List.length_cons];omega
    ·cases h
theorem quoM_w {may:UInt8→Bool} {t t' b:List UInt8} (h:quoM may t=some (b,t')):b.length+t'.length+1≤t.length:=by
 unfold quoM at h
 split at h
 ·rename_i q t1 hq
  split at h
  ·cases h;have:=quoG_w _ _ _ _ _ hq;simpa [Sd.w] using this
  ·cases h
 ·cases h
theorem inR0:inR 0:=by simp [inR]
theorem parse_inR {s:List UInt8} {n:Int} (h:Lib.parseIntB 64 s=.ok n):inR n:=by
 cases s with
 | nil=>cases h
 | cons c r =>
  simp only [Lib.parseIntB] at h
  split at h
  ·cases h
  ·cases h
  ·split at h
   ·cases h
   ·split at h
    ·cases h
    ·rename_i h1 h2
     cases h
     simp only [inR]
     split<;>simp_all<;>omega
theorem numV_fit (s:List UInt8):bV (numV s)≤1+s.length∧wfV (numV s):=by
 unfold numV
 split
 ·rename_i h
  refine ⟨by simp only [bV,bVs,bMs,List.length_nil];omega,?_,trivial,trivial⟩
  unfold wholeB at h
  unfold valI
  rcases hp:Lib.parseIntB 64 s with v|_|_
  ·exact parse_inR hp
  ·exact inR0
  ·rw [hp] at h;simp [okI] at h
 ·exact ⟨by simp only [bV,bVs,bMs];omega,inR0,trivial,trivial⟩
end Go.Proofs.YticbbfbpeimkbaaGreatDoor
namespace Go.Proofs.YticbbfbpeimkbaaGreatDoor
open Go.Ab
abbrev TS:=List Tok
def hdT (t:TS):Tok:=t.headD ⟨0,[]⟩
def isP (m:List UInt8) (t:TS):Bool:=decide ((hdT t).k=1) && decide ((hdT t).s=m)
def isW (w:List UInt8) (t:TS):Bool:=decide ((hdT t).k=2) && decide ((hdT t).s=w)
abbrev PR (α:Type):=Except Int (α × TS)
def pb {α β:Type} (x:PR α) (f:α→TS→PR β):PR β:=match x with
 | .ok (a,t)=>f a t
 | .error e=>.error e
theorem pb_ok {α β:Type} (a:α) (t:TS) (f:α→TS→PR β):pb (.ok (a,t)) f=f a t:=rfl
def mustP (m:List UInt8) (t:TS):PR Unit:=if isP m t then .ok ((),t.tail) else .error 2
def nameP (t:TS):PR (List UInt8):=if (hdT t).k=2 then .ok ((hdT t).s,t.tail) else .error 2
def mayWordP (w:List UInt8) (t:TS):TS:=if isW w t then t.tail else t
def manyP {α:Type} (m:List UInt8) (f:TS→PR α):Nat→List α→TS→PR (List α)
 | 0,_,_=>.error 0
 | n+1,l,t=>if isP m t then .ok (l,t.tail) else pb (f t) fun x t=>manyP m f n (l++[x]) t
def many1P {α:Type} (m:List UInt8) (f:TS→PR α) (t:TS):PR (List α):=pb (f t) fun x t=>manyP m f (t.length+1) [x] t
def whileP {α:Type} (m:List UInt8) (f:TS→PR α):Nat→List α→TS→PR (List α)
 | 0,_,_=>.error 0
 | n+1,l,t=>if isP m t then pb (f t.tail) fun x t=>whileP m f n (l++[x]) t else .ok (l,t)
def bangP (ty:TyD) (t:TS):PR TyD:=if isP [33] t then .ok (⟨ty.nm,ty.lists,ty.musts+1⟩,t.tail) else .ok (ty,t)
def predP {α:Type} (f:Nat→α):Nat→Option α
 | 0=>none
 | k+1=>some (f k)
theorem predP_s {α:Type} (f:Nat→α) (k:Nat):predP f (k+1)=some (f k):=rfl
def typB (sub:Option (TS→PR TyD)) (t:TS):PR TyD:=if isP [91] t then (match sub with
   | none=>.error 4
   | some f=>pb (f t.tail) fun ty t=>pb (mustP [93] t) fun _ t=>bangP ⟨ty.nm,ty.lists+1,ty.musts*2⟩ t)
  else pb (nameP t) fun s t=>bangP ⟨s,0,0⟩ t
def typP:Nat→TS→PR TyD
 | 0=>typB none
 | k+1=>typB (some (typP k))
theorem typP_eq (k:Nat) (t:TS):typP k t=typB (predP typP k) t:=by cases k<;>rfl
def wordV (s:List UInt8):Val:=if s=[110,117,108,108] then zV else if s=[116,114,117,101] then .mk 1 1 [] [] [] else if s=[102,97,108,115,101] then .mk 1 0 [] [] [] else .mk 5 0 s [] []
def memberP (v:TS→PR Val) (t:TS):PR Mem:=pb (nameP t) fun s t=>pb (mustP [58] t) fun _ t=>pb (v t) fun x t=>.ok (.mk s x,t)
def valB (fixed:Bool) (sub:Option (TS→PR Val)) (t:TS):PR Val :=
  if (hdT t).k=2 then .ok (wordV (hdT t).s,t.tail)
  else if (hdT t).k=3∨(hdT t).k=4 then .ok (numV (hdT t).s,t.tail)
  else if (hdT t).k=5 then .ok (.mk 4 0 (hdT t).s [] [],t.tail)
  else if isP [91] t then (match sub with
   | none=>.error 4
   | some f=>pb (manyP [93] f (t.tail.length+1) [] t.tail) fun l t=>.ok (.mk 6 0 [] l [],t))
  else if isP [123] t then (match sub with
   | none=>.error 4
   | some f=>pb (manyP [125] (memberP f) (t.tail.length+1) [] t.tail) fun l t=>.ok (.mk 7 0 [] [] l,t))
  else if fixed then .error 2
  else pb (mustP [36] t) fun _ t=>pb (nameP t) fun s t=>.ok (.mk 8 0 s [] [],t)
def valP (fixed:Bool):Nat→TS→PR Val
 | 0=>valB fixed none
 | k+1=>valB fixed (some (valP fixed k))
theorem valP_eq (fixed:Bool) (k:Nat) (t:TS):valP fixed k t=valB fixed (predP (valP fixed) k) t:=by cases k<;>rfl
def argsP (fixed:Bool) (k:Nat) (t:TS):PR (List Mem):=if isP [40] t then many1P [41] (memberP (valP fixed k)) t.tail else .ok ([],t)
def dirP (fixed:Bool) (k:Nat) (t:TS):PR DirD:=pb (nameP t) fun s t=>pb (argsP fixed k t) fun a t=>.ok (⟨s,a⟩,t)
def dirsP (fixed:Bool) (k:Nat) (t:TS):PR (List DirD):=whileP [64] (dirP fixed k) (t.length+1) [] t
def spreadP (sels:TS→PR (List SelD)) (k:Nat) (t:TS):PR SelD :=
 if (hdT t).k=2∧isW [111,110] t=false then pb (nameP t) fun s t=>pb (dirsP false k t) fun d t=>.ok (.mk 1 [] s [] d [] [],t)
 else pb (if isW [111,110] t then nameP t.tail else .ok ([],t)) fun o t=>pb (dirsP false k t) fun d t=>pb (sels t) fun l t=>.ok (.mk 2 [] [] [] d o l,t)
def selP (sels:TS→PR (List SelD)) (k:Nat) (t:TS):PR SelD :=
 if isP [46,46,46] t then spreadP sels k t.tail
 else pb (nameP t) fun s t=>pb (if isP [58] t then pb (nameP t.tail) fun s2 t=>.ok ((s,s2),t) else .ok (([],s),t)) fun an t =>
  pb (argsP false k t) fun a t=>pb (dirsP false k t) fun d t=>pb (if isP [123] t then sels t else .ok ([],t)) fun l t=>.ok (.mk 0 an.1 an.2 a d [] l,t)
def selsP:Nat→TS→PR (List SelD)
 | 0,t=>if isP [123] t then .error 4 else .error 2
 | k+1,t=>if isP [123] t then many1P [125] (selP (selsP k) k) t.tail else .error 2
def varP (t:TS):PR VarD:=pb (mustP [36] t) fun _ t=>pb (nameP t) fun s t=>pb (mustP [58] t) fun _ t=>pb (typP 4 t) fun ty t =>
 if isP [61] t then pb (valP true 16 t.tail) fun v t=>.ok (⟨s,ty,true,v⟩,t) else .ok (⟨s,ty,false,zV⟩,t)
def opP (kind:Int) (t:TS):PR OpD :=
 pb (if (hdT t).k=2 then nameP t else .ok ([],t)) fun s t=>pb (if isP [40] t then many1P [41] varP t.tail else .ok ([],t)) fun vs t =>
 pb (dirsP true 16 t) fun d t=>pb (selsP 16 t) fun l t=>.ok (⟨kind,s,vs,d,l⟩,t)
def fragP (t:TS):PR FragD :=
 pb (if isW [111,110] t then .error 2 else nameP t) fun s t=>pb (if isW [111,110] t then .ok ((),t.tail) else .error 2) fun _ t=>pb (nameP t) fun o t =>
 pb (dirsP true 16 t) fun d t=>pb (selsP 16 t) fun l t=>.ok (⟨s,o,d,l⟩,t)
def defP (d:DocD) (t:TS):PR DocD :=
 if isP [123] t then pb (selsP 16 t) fun l t=>.ok (⟨d.ops++[⟨0,[],[],[],l⟩],d.frags⟩,t)
 else if isW [113,117,101,114,121] t then pb (opP 0 t.tail) fun o t=>.ok (⟨d.ops++[o],d.frags⟩,t)
 else if isW [109,117,116,97,116,105,111,110] t then pb (opP 1 t.tail) fun o t=>.ok (⟨d.ops++[o],d.frags⟩,t)
 else if isW [102,114,97,103,109,101,110,116] t then pb (fragP t.tail) fun f t=>.ok (⟨d.ops,d.frags++[f]⟩,t)
 else .error 2
def defsP:Nat→DocD→TS→PR DocD
 | 0,_,_=>.error 0
 | n+1,d,t=>if t=[] then .ok (d,t) else pb (defP d t) fun d t=>defsP n d t
def docP (t:TS):PR DocD:=pb (defP ⟨[],[]⟩ t) fun d t=>defsP (t.length+1) d t
def wK (t:Tok):Nat:=t.s.length+4
def wT (l:TS):Nat:=(l.map wK).sum
theorem wT_cons (x:Tok) (l:TS):wT (x :: l)=wK x+wT l:=by simp [wT]
structure Fp {α:Type} (b:α→Nat) (ok:α→Prop) (c:Nat) (t:TS) (a:α) (t':TS):Prop where
 suf:t' <:+ t
 w:b a+c+wT t'≤wT t
 ok:ok a
def GP {α:Type} (b:α→Nat) (ok:α→Prop) (c:Nat) (f:TS→PR α):Prop:=∀ t a t',f t=.ok (a,t')→Fp b ok c t a t'
theorem Fp.lt {α:Type} {b:α→Nat} {ok:α→Prop} {c:Nat} {t t':TS} {a:α} (h:Fp b ok c t a t') (hc:0<c):t'.length<t.length:=by
 obtain ⟨p,hp⟩:=h.suf
 have h2:=h.w
 cases p with
 | nil=>simp at hp;subst hp;omega
 | cons x p=>rw [← hp];simp;omega
theorem hd_tail {t:TS} (h:(hdT t).k≠0):t=hdT t :: t.tail:=by
 cases t with
 | nil=>exact absurd rfl h
 | cons x t=>rfl
theorem isP_ne {m:List UInt8} {t:TS} (h:isP m t=true):(hdT t).k≠0:=by
 simp only [isP,Bool.and_eq_true,decide_eq_true_eq] at h;rw [h.1];decide
theorem isW_ne {m:List UInt8} {t:TS} (h:isW m t=true):(hdT t).k≠0:=by
 simp only [isW,Bool.and_eq_true,decide_eq_true_eq] at h;rw [h.1];decide
theorem tail_w {t:TS} (h:(hdT t).k≠0):t.tail <:+ t∧(hdT t).s.length+4+wT t.tail=wT t:=by
 refine ⟨List.tail_suffix t,?_⟩
 conv=>rhs;rw [hd_tail h,wT_cons]
 rfl
theorem tail_p {m:List UInt8} {t:TS} (h:isP m t=true):t.tail <:+ t∧4+wT t.tail≤wT t:=by
 have:=tail_w (isP_ne h);exact ⟨this.1,by omega⟩
theorem tail_ww {m:List UInt8} {t:TS} (h:isW m t=true):t.tail <:+ t∧4+wT t.tail≤wT t:=by
 have:=tail_w (isW_ne h);exact ⟨this.1,by omega⟩
def T1 {α:Type} (_:α):Prop:=True
def b0 {α:Type} (_:α):Nat:=0
theorem mustP_fit (m:List UInt8):GP b0 T1 4 (mustP m):=fun t a t' h=>by
 unfold mustP at h
 split at h
 ·rename_i hp;simp only [Except.ok.injEq,Prod.mk.injEq] at h;obtain ⟨_,rfl⟩:=h
  have:=tail_p hp;exact ⟨this.1,by simp only [b0];omega,trivial⟩
 ·cases h
theorem nameP_fit:GP List.length T1 4 nameP:=fun t a t' h=>by
 unfold nameP at h
 split at h
 ·rename_i hp;simp only [Except.ok.injEq,Prod.mk.injEq] at h;obtain ⟨rfl,rfl⟩:=h
  have:=tail_w (t:=t) (by rw [hp];decide);exact ⟨this.1,by omega,trivial⟩
 ·cases h
theorem pb_inv {α β:Type} {x:PR α} {f:α→TS→PR β} {b:β} {t':TS} (h:pb x f=.ok (b,t')):∃ a t,x=.ok (a,t)∧f a t=.ok (b,t'):=by
 rcases x with e|⟨a,t⟩
 ·cases h
 ·exact ⟨a,t,rfl,h⟩
def sm {α:Type} (b:α→Nat) (l:List α):Nat:=(l.map b).sum+l.length
theorem sm_snoc {α:Type} (b:α→Nat) (l:List α) (x:α):sm b (l++[x])=sm b l+b x+1:=by simp [sm];omega
theorem ok_snoc {α:Type} {ok:α→Prop} {l:List α} {x:α} (h:∀ y ∈ l,ok y) (hx:ok x):∀ y ∈ l++[x],ok y:=fun y hy=>by
 rcases List.mem_append.1 hy with h1|h1
 ·exact h y h1
 ·simp at h1;subst h1;exact hx
theorem manyP_fit {α:Type} {b:α→Nat} {ok:α→Prop} {m:List UInt8} {f:TS→PR α} (hf:GP b ok 1 f):∀ (n:Nat) (l:List α) (t:TS) (l':List α) (t':TS),(∀ x ∈ l,ok x)→manyP m f n l t=.ok (l',t')→t' <:+ t∧sm b l'+4+wT t'≤sm b l+wT t∧∀ x ∈ l',ok x
 | 0,_,_,_,_,_,h=>by cases h
 | n+1,l,t,l',t',hl,h=>by
  simp only [manyP] at h
  split at h
  ·rename_i hp;simp only [Except.ok.injEq,Prod.mk.injEq] at h;obtain ⟨rfl,rfl⟩:=h
   have:=tail_p hp;exact ⟨this.1,by omega,hl⟩
  ·obtain ⟨x,t1,h1,h2⟩:=pb_inv h
   have g1:=hf _ _ _ h1
   have w:=g1.w
   have g2:=manyP_fit hf n _ _ _ _ (ok_snoc hl g1.ok) h2
   rw [sm_snoc] at g2
   exact ⟨g2.1.trans g1.suf,by omega,g2.2.2⟩
theorem whileP_fit {α:Type} {b:α→Nat} {ok:α→Prop} {m:List UInt8} {f:TS→PR α} (hf:GP b ok 1 f):∀ (n:Nat) (l:List α) (t:TS) (l':List α) (t':TS),(∀ x ∈ l,ok x)→whileP m f n l t=.ok (l',t')→t' <:+ t∧sm b l'+wT t'≤sm b l+wT t∧∀ x ∈ l',ok x
 | 0,_,_,_,_,_,h=>by cases h
 | n+1,l,t,l',t',hl,h=>by
  simp only [whileP] at h
  split at h
  ·rename_i hp
   have h0:=tail_p hp
   obtain ⟨x,t1,h1,h2⟩:=pb_inv h
   have g1:=hf _ _ _ h1
   have w:=g1.w
   have g2:=whileP_fit hf n _ _ _ _ (ok_snoc hl g1.ok) h2
   rw [sm_snoc] at g2
   exact ⟨(g2.1.trans g1.suf).trans h0.1,by omega,g2.2.2⟩
  ·simp only [Except.ok.injEq,Prod.mk.injEq] at h;obtain ⟨rfl,rfl⟩:=h
   exact ⟨List.suffix_refl t,by omega,hl⟩
theorem many1P_fit {α:Type} {b:α→Nat} {ok:α→Prop} {m:List UInt8} {f:TS→PR α} (hf:GP b ok 1 f):GP (sm b) (fun l=>∀ x ∈ l,ok x) 4 (many1P m f):=fun t l t' h=>by
 obtain ⟨x,t1,h1,h2⟩:=pb_inv h
 have g1:=hf _ _ _ h1
 have w:=g1.w
 have g2:=manyP_fit hf _ [x] _ _ _ (fun y hy=>by simp at hy;subst hy;exact g1.ok) h2
 have e:sm b [x]=b x+1:=by simp [sm]
 exact ⟨g2.1.trans g1.suf,by omega,g2.2.2⟩
theorem tail_lt {m:List UInt8} {t:TS} (h:isP m t=true):t.tail.length<t.length:=by
 conv=>rhs;rw [hd_tail (isP_ne h)]
 simp
theorem GP.lt {α:Type} {b:α→Nat} {ok:α→Prop} {c:Nat} {f:TS→PR α} (h:GP b ok c f) (hc:0<c):∀ t a t',f t=.ok (a,t')→t'.length<t.length:=fun t a t' e=>(h t a t' e).lt hc
def okTy (ty:TyD) (n:Nat):Prop:=0≤ty.lists∧ty.lists≤n∧0≤ty.musts∧ty.musts<2 ^ (ty.lists.toNat+1)∧ty.musts % 2=0
def okTy' (n:Nat) (ty:TyD):Prop:=0≤ty.lists∧ty.lists≤n∧0≤ty.musts∧ty.musts<2 ^ (ty.lists.toNat+1)
theorem bangP_fit {ty:TyD} {n:Nat} (h:okTy ty n):∀ t a t',bangP ty t=.ok (a,t')→t' <:+ t∧a.nm=ty.nm∧wT t'≤wT t∧okTy' n a:=fun t a t' e=>by
 obtain ⟨h1,h2,h3,h4,h5⟩:=h
 unfold bangP at e
 split at e
 ·rename_i hp;simp only [Except.ok.injEq,Prod.mk.injEq] at e;obtain ⟨rfl,rfl⟩:=e
  have:=tail_p hp
  refine ⟨this.1,rfl,by omega,h1,h2,by simp only;omega,?_⟩
  have e2:(2:Int) ^ (ty.lists.toNat+1) % 2=0:=by rw [Int.pow_succ];omega
  simp only;omega
 ·simp only [Except.ok.injEq,Prod.mk.injEq] at e;obtain ⟨rfl,rfl⟩:=e
  exact ⟨List.suffix_refl t,rfl,Nat.le_refl _,h1,h2,h3,h4⟩
theorem typP_step (n:Nat) (ih:∀ m,n=m+1→GP (fun ty=>ty.nm.length) (okTy' m) 4 (typP m)):GP (fun ty=>ty.nm.length) (okTy' n) 4 (typP n):=fun t a t' h=>by
 rw [typP_eq,typB.eq_def] at h
 split at h
 ·rename_i hp
  have h0:=tail_p hp
  cases n with
  | zero=>cases h
  | succ n =>
   obtain ⟨ty,t1,h1,h2⟩:=pb_inv h
   obtain ⟨_,t2,h3,h4⟩:=pb_inv h2
   have g1:=ih n rfl _ _ _ h1
   have g3:=mustP_fit _ _ _ _ h3
   obtain ⟨a1,a2,a3,a4⟩:=g1.ok
   have e1:(ty.lists+1).toNat=ty.lists.toNat+1:=by omega
   have g4:=bangP_fit (n:=n+1) ⟨by simp only;omega,by simp only;omega,by simp only;omega,by simp only;rw [e1,Int.pow_succ];omega,by simp only;omega⟩ _ _ _ h4
   have w1:=g1.w
   have w3:=g3.w
   simp only [b0] at w1 w3
   exact ⟨((g4.1.trans g3.suf).trans g1.suf).trans h0.1,by rw [g4.2.1];simp only;omega,g4.2.2.2⟩
 ·obtain ⟨s,t1,h1,h2⟩:=pb_inv h
  have g1:=nameP_fit _ _ _ h1
  have g4:=bangP_fit (n:=n) ⟨by simp,by simp,by simp,by simp,by simp⟩ _ _ _ h2
  have w1:=g1.w
  exact ⟨g4.1.trans g1.suf,by rw [g4.2.1];simp only;omega,g4.2.2.2⟩
theorem typP_fit:∀ n,GP (fun ty=>ty.nm.length) (okTy' n) 4 (typP n)
 | 0=>typP_step 0 fun m h=>by cases h
 | k+1=>typP_step (k+1) fun m h=>by cases h;exact typP_fit k
end Go.Proofs.YticbbfbpeimkbaaGreatDoor
namespace Go.Proofs.YticbbfbpeimkbaaGreatDoor
open Go.Ab
def tokA (x:Tok):AV:=.agg [.int .i64 x.k,.str x.s]
end Go.Proofs.YticbbfbpeimkbaaGreatDoor
namespace Go.Proofs.YticbbfbpeimkbaaGreatDoor
open Go.Ab
def tipOf:Own→Option Nat
 | .tip b _=>some b
 | _=>none
structure Sep (H:Heap) (l:List (Own × Nat × Nat)):Prop where
 own:∀ x ∈ l,Owned H x.1 x.2.1 x.2.2
 nd:(l.filterMap fun x=>tipOf x.1).Nodup
theorem tipOf_some {o:Own} {b:Nat} (h:tipOf o=some b):∃ d,o=.tip b d:=by
 cases o<;>simp [tipOf] at h
 rename_i c d;subst h;exact ⟨d,rfl⟩
theorem Owned.ofKept {H H':Heap} {o o2:Own} {n sz:Nat} (h:Owned H o n sz) (hk:Kept H o2 H') (hne:∀ b d d2,o=.tip b d→o2≠.tip b d2):Owned H' o n sz:=by
 cases o with
 | tip b d=>exact hk b _ h fun d2 e=>hne b d d2 rfl e
 | no=>exact h
 | nil=>exact h
 | full=>exact h
theorem Sep.step {H H':Heap} {a b:List (Own × Nat × Nat)} {o o':Own} {n n' sz:Nat} (h:Sep H (a++(o,n,sz) :: b)) (h':OwnS H o H' o' n' sz):Sep H' (a++(o',n',sz) :: b):=by
 have hnd:=h.nd
 simp only [List.filterMap_append,List.filterMap_cons] at hnd
 have hother:∀ x,x ∈ a∨x ∈ b→∀ c d d2,x.1=.tip c d→o≠.tip c d2:=fun x hx c d d2 hxe e=>by
  subst e
  simp only [tipOf] at hnd
  rw [List.nodup_append] at hnd
  obtain ⟨_,hb,hab⟩:=hnd
  rcases hx with hx|hx
  ·exact hab c (List.mem_filterMap.2 ⟨x,hx,by rw [hxe]⟩) c (List.mem_cons_self ..) rfl
  ·exact (List.nodup_cons.1 hb).1 (List.mem_filterMap.2 ⟨x,hx,by rw [hxe]⟩)
 refine ⟨fun x hx=>?_,?_⟩
 ·rcases List.mem_append.1 hx with hx|hx
  ·exact Owned.ofKept (h.own x (by simp [hx])) h'.kept fun c d d2=>hother x (.inl hx) c d d2
  ·rcases List.mem_cons.1 hx with rfl|hx
   ·exact h'.own
   ·exact Owned.ofKept (h.own x (by simp [hx])) h'.kept fun c d d2=>hother x (.inr hx) c d d2
 ·simp only [List.filterMap_append,List.filterMap_cons]
  have hsub:∀ c,c ∈ a.filterMap (fun x=>tipOf x.1)∨c ∈ b.filterMap (fun x=>tipOf x.1)→tipOf o'≠some c:=fun c hc e=>by
   obtain ⟨d',e⟩:=tipOf_some e
   have hH:H c≠none∧∀ d0,o≠.tip c d0:=by
    rcases hc with hc|hc<;>obtain ⟨x,hx,hxe⟩:=List.mem_filterMap.1 hc<;>obtain ⟨d,hxe⟩:=tipOf_some hxe
    ·have:=h.own x (by simp [hx]);rw [hxe] at this
     have h2:H c=some _:=this
     exact ⟨by simp [h2],fun d0=>hother x (.inl hx) c d d0 hxe⟩
    ·have:=h.own x (by simp [hx]);rw [hxe] at this
     have h2:H c=some _:=this
     exact ⟨by simp [h2],fun d0=>hother x (.inr hx) c d d0 hxe⟩
   rcases h'.new c d' e with h1|⟨d0,h1⟩
   ·exact hH.1 h1
   ·exact hH.2 d0 h1
  have hnd2:(a.filterMap (fun x=>tipOf x.1)++b.filterMap (fun x=>tipOf x.1)).Nodup:=by
   cases ho:tipOf o with
   | none=>rw [ho] at hnd;exact hnd
   | some c =>
    rw [ho] at hnd
    rw [List.nodup_append] at hnd ⊢
    exact ⟨hnd.1,(List.nodup_cons.1 hnd.2.1).2,fun x hx y hy=>hnd.2.2 x hx y (List.mem_cons_of_mem _ hy)⟩
  cases ho:tipOf o' with
  | none=>exact hnd2
  | some c =>
   have hc:=hsub c
   rw [List.nodup_append] at hnd2 ⊢
   refine ⟨hnd2.1,List.nodup_cons.2 ⟨fun hm=>hc (.inr hm) ho,hnd2.2.1⟩,fun x hx y hy=>?_⟩
   rcases List.mem_cons.1 hy with rfl|hy
   ·exact fun e=>hc (.inl (e▸hx)) ho
   ·exact hnd2.2.2 x hx y hy
theorem Sep.mono {H H':Heap} {l:List (Own × Nat × Nat)} (h:Sep H l) (hk:∀ c n sz,H c=some (.tip n sz)→H' c=some (.tip n sz)):Sep H' l :=
 ⟨fun x hx=>by
  have:=h.own x hx
  obtain ⟨o,n,sz⟩:=x
  cases o with
  | tip c d=>exact hk c _ _ this
  | no=>exact this
  | nil=>exact this
  | full=>exact this,h.nd⟩
end Go.Proofs.YticbbfbpeimkbaaGreatDoor
namespace Go.Proofs.YticbbfbpeimkbaaGreatDoor
open Go.Ab Go.RowKit Go.Sort Go.Lib
theorem idxByteC (s:List UInt8) (c:UInt8):Pure Tryz.prog 222 [.str s,.int .u8 c.toNat] (.int .i64 (Lib.indexByte s c)):=by
 refine Pure.of_calls fun γ w vs ht hv=>?_
 obtain ⟨hl,hr⟩:=hv
 match vs,hl with
 | [v,u],_ =>
  cases hr 0 _ _ rfl rfl
  cases hr 1 _ _ rfl rfl
  refine (Tryz.strings_IndexByte ⟨s.toArray⟩ c.toNat w).mono fun e w' ⟨he,hw⟩=>⟨hw,_,he,?_⟩
  have e1:((c.toNat:Int)).toNat.toUInt8=c:=by simp
  rw [e1]
  exact .int _ _
end Go.Proofs.YticbbfbpeimkbaaGreatDoor
