import Derived.Shelf.Strings.Builder1
import Derived.Shelf.Strings.Builder2
import Derived.Shelf.Strings.OnBuilder
import Derived.Shelf.Small.Utf8
import Derived.Shelf.Small.Strs
import Derived.Shelf.Small.Wraps
import Derived.Shelf.Strings.BuilderF
import Derived.Shelf.Strings.BuilderK
import Derived.Shelf.Utf8.AppendRune
import Derived.Shelf.Strconv.Itoa0
import Derived.Shelf.Strconv.Itoa1
import Derived.Shelf.LaysM
import Derived.Shelf.Strconv.Itoa2
import Derived.Shelf.Strconv.Itoa3
import Derived.Shelf.Strconv.Itoa4
import Derived.Shelf.Strconv.ParseIntEmpty
import Derived.Shelf.Strconv.Clone
import Derived.Shelf.Strconv.SyntaxError
import Derived.Shelf.LaysC
import Derived.Shelf.Strconv.ToError
import Derived.Shelf.Strconv.Lower
import Derived.Shelf.Strconv.ParseUint10
import Derived.Shelf.Strconv.ParseUint10Empty
import Derived.Shelf.Strconv.ParseUint10Any
import Derived.Shelf.Strconv.ParseInt10
import Derived.Shelf.Strconv.RangeError
import Derived.Shelf.Strconv.ToErrorRange
import Derived.Shelf.Strconv.ParseUintEmpty
import Derived.Shelf.Strconv.ParseUint10b64
import Derived.Shelf.Strconv.ParseUint10b32
import Derived.Shelf.Strconv.ParseUint10b16
import Derived.Shelf.Strconv.ParseUint10b8
import Derived.Shelf.Strconv.ParseUint10At
import Derived.Shelf.Strconv.ParseInt10At64
import Derived.Shelf.Strconv.ParseInt10At32
import Derived.Shelf.Strconv.ParseInt10At16
import Derived.Shelf.Strconv.ParseInt10At8
import Derived.Shelf.Strconv.ParseInt10All
import Derived.Shelf.Strconv.ParseIntPublic10
import Derived.Shelf.Strconv.ErrVarParseInt
import Derived.Shelf.Strings.Search1
import Derived.Shelf.Strings.Search2
import Derived.Shelf.Strings.Search3
import Derived.Shelf.Strings.Shaped
import Derived.Shelf.Strconv.AppendUint10
import Derived.Shelf.Strconv.AppendInt10
import Derived.Shelf.Strconv.AppendIntPublic10
import Derived.Shelf.Strings.Prefix
import Derived.Shelf.Unicode.Decode
import Derived.Shelf.Strings.Runes
import Derived.Shelf.Strings.IndexAny
import Derived.Shelf.Strings.AsciiSet
import Derived.Shelf.Strings.IndexAnyAll
import Derived.Shelf.Unicode.DecodeSlow
import Derived.Shelf.Unicode.DecodeAny
import Derived.Ground.Names2Prog
import Derived.Shelf.Slices.ReverseS
import Derived.Shelf.Slices.Clone
import Derived.Shelf.Slices.SearchI
import Derived.Shelf.Slices.Cells
import Derived.Ground.SlgnProg
import Derived.Shelf.SlicesE.Clone
import Derived.Test.YtdpfofoinaammaaGreatDoorProg
import Derived.Shelf.Unicode.ValidAny
import Derived.Test.YtdpfofoinaammaaGreatDoorCards
import Derived.Lib.LaidIn
import Derived.Lib.LaidU8T
import Derived.Lib.LaidTab
import Derived.Deep.DeepHandedRow
import Derived.Deep.DeepWitnessRowRef
import Derived.ProofKit
import Derived.SizedLaws
import Derived.OpenShut
import Derived.Test.YtdpfofoinaammaaGreatDoorM4
set_option maxRecDepth 100000
set_option linter.all false
namespace Go.Proofs
open Go.Shelf
def Tryz.lays156_ren:Go.Shelf.Ren:=⟨fun|156=>480|165=>516|166=>517|169=>518|240=>540|241=>541|276=>557|277=>558|n=>n,fun|31=>48|9=>9|3=>3|4=>4|0=>0|20=>20|72=>571|76=>572|70=>569|37=>95|75=>492|127=>593|164=>606|5=>5|80=>284|n=>n,fun|n=>n⟩
theorem Tryz.lays156:Go.Proofs.Lays.n156 Tryz.prog Tryz.lays156_ren:={
 mixed:=by kernel_rfl
 f156:=Tryz.func480.trans (congrArg some (by kernel_rfl))
 f165:=Tryz.func516.trans (congrArg some (by kernel_rfl))
 f166:=Tryz.func517.trans (congrArg some (by kernel_rfl))
 f169:=Tryz.func518.trans (congrArg some (by kernel_rfl))
 f240:=Tryz.func540.trans (congrArg some (by kernel_rfl))
 f241:=Tryz.func541.trans (congrArg some (by kernel_rfl))
 f276:=Tryz.func557.trans (congrArg some (by kernel_rfl))
 f277:=Tryz.func558.trans (congrArg some (by kernel_rfl))
 t0:=Tryz.underlying0
 a0:=Tryz.isAgg0
 z0:=Tryz.sizeOf0
 v0:=Tryz.zeroValue0
 t3:=Tryz.underlying3
 a3:=Tryz.isAgg3
 z3:=Tryz.sizeOf3
 v3:=Tryz.zeroValue3
 t4:=Tryz.underlying4
 a4:=Tryz.isAgg4
 z4:=Tryz.sizeOf4
 v4:=Tryz.zeroValue4
 t9:=Tryz.underlying9
 a9:=Tryz.isAgg9
 z9:=Tryz.sizeOf9
 v9:=Tryz.zeroValue9
 t20:=Tryz.underlying20
 a20:=Tryz.isAgg20
 z20:=Tryz.sizeOf20
 v20:=Tryz.zeroValue20
 t31:=Tryz.underlying48
 a31:=Tryz.isAgg48
 z31:=Tryz.sizeOf48
 v31:=Tryz.zeroValue48
 t37:=Tryz.underlying95
 a37:=Tryz.isAgg95
 z37:=Tryz.sizeOf95
 v37:=Tryz.zeroValue95
 t70:=Tryz.underlying569
 a70:=Tryz.isAgg569
 z70:=Tryz.sizeOf569
 v70:=Tryz.zeroValue569
 t72:=Tryz.underlying571
 a72:=Tryz.isAgg571
 z72:=Tryz.sizeOf571
 v72:=Tryz.zeroValue571
 t75:=Tryz.underlying492
 a75:=Tryz.isAgg492
 z75:=Tryz.sizeOf492
 v75:=Tryz.zeroValue492
 t76:=Tryz.underlying572
 a76:=Tryz.isAgg572
 z76:=Tryz.sizeOf572
 v76:=Tryz.zeroValue572
 t127:=Tryz.underlying593
 a127:=Tryz.isAgg593
 z127:=Tryz.sizeOf593
 v127:=Tryz.zeroValue593
 t164:=Tryz.underlying606
 a164:=Tryz.isAgg606
 z164:=Tryz.sizeOf606
 v164:=Tryz.zeroValue606 }
def Tryz.lays137_ren:Go.Shelf.Ren:=⟨fun|137=>190|217=>321|266=>422|n=>n,fun|9=>9|5=>5|3=>3|n=>n,fun|n=>n⟩
theorem Tryz.lays137:Go.Proofs.Lays.n137 Tryz.prog Tryz.lays137_ren:={
 mixed:=by kernel_rfl
 f137:=Tryz.func190.trans (congrArg some (by kernel_rfl))
 f217:=Tryz.func321.trans (congrArg some (by kernel_rfl))
 f266:=Tryz.func422.trans (congrArg some (by kernel_rfl))
 t3:=Tryz.underlying3
 a3:=Tryz.isAgg3
 z3:=Tryz.sizeOf3
 v3:=Tryz.zeroValue3
 t5:=Tryz.underlying5
 a5:=Tryz.isAgg5
 z5:=Tryz.sizeOf5
 v5:=Tryz.zeroValue5
 t9:=Tryz.underlying9
 a9:=Tryz.isAgg9
 z9:=Tryz.sizeOf9
 v9:=Tryz.zeroValue9 }
def Tryz.laysM173_ren:Go.Shelf.Ren:=⟨fun|173=>502|246=>130|283=>230|284=>231|285=>232|286=>233|129=>366|317=>365|318=>367|319=>368|320=>369|337=>445|338=>446|n=>n,fun|2=>2|3=>3|9=>9|4=>4|171=>338|0=>0|53=>339|37=>95|5=>5|173=>342|212=>448|51=>449|20=>20|213=>450|46=>250|232=>557|233=>558|n=>n,fun|17=>2|18=>4|19=>5|n=>n⟩
theorem Tryz.laysM173:Go.Proofs.LaysM.n173 Tryz.prog Tryz.laysM173_ren:={
 mixed:=by kernel_rfl
 f129:=Tryz.func366.trans (congrArg some (by kernel_rfl))
 f173:=Tryz.func502.trans (congrArg some (by kernel_rfl))
 f246:=Tryz.func130.trans (congrArg some (by kernel_rfl))
 f283:=Tryz.func230.trans (congrArg some (by kernel_rfl))
 f284:=Tryz.func231.trans (congrArg some (by kernel_rfl))
 f285:=Tryz.func232.trans (congrArg some (by kernel_rfl))
 f286:=Tryz.func233.trans (congrArg some (by kernel_rfl))
 f317:=Tryz.func365.trans (congrArg some (by kernel_rfl))
 f318:=Tryz.func367.trans (congrArg some (by kernel_rfl))
 f319:=Tryz.func368.trans (congrArg some (by kernel_rfl))
 f320:=Tryz.func369.trans (congrArg some (by kernel_rfl))
 f337:=Tryz.func445.trans (congrArg some (by kernel_rfl))
 f338:=Tryz.func446.trans (congrArg some (by kernel_rfl))
 t0:=Tryz.underlying0
 a0:=Tryz.isAgg0
 z0:=Tryz.sizeOf0
 v0:=Tryz.zeroValue0
 t2:=Tryz.underlying2
 a2:=Tryz.isAgg2
 z2:=Tryz.sizeOf2
 v2:=Tryz.zeroValue2
 t3:=Tryz.underlying3
 a3:=Tryz.isAgg3
 z3:=Tryz.sizeOf3
 v3:=Tryz.zeroValue3
 t4:=Tryz.underlying4
 a4:=Tryz.isAgg4
 z4:=Tryz.sizeOf4
 v4:=Tryz.zeroValue4
 t5:=Tryz.underlying5
 a5:=Tryz.isAgg5
 z5:=Tryz.sizeOf5
 v5:=Tryz.zeroValue5
 t9:=Tryz.underlying9
 a9:=Tryz.isAgg9
 z9:=Tryz.sizeOf9
 v9:=Tryz.zeroValue9
 t20:=Tryz.underlying20
 a20:=Tryz.isAgg20
 z20:=Tryz.sizeOf20
 v20:=Tryz.zeroValue20
 t37:=Tryz.underlying95
 a37:=Tryz.isAgg95
 z37:=Tryz.sizeOf95
 v37:=Tryz.zeroValue95
 t46:=Tryz.underlying250
 a46:=Tryz.isAgg250
 z46:=Tryz.sizeOf250
 v46:=Tryz.zeroValue250
 t51:=Tryz.underlying449
 a51:=Tryz.isAgg449
 z51:=Tryz.sizeOf449
 v51:=Tryz.zeroValue449
 t53:=Tryz.underlying339
 a53:=Tryz.isAgg339
 z53:=Tryz.sizeOf339
 v53:=Tryz.zeroValue339
 t171:=Tryz.underlying338
 a171:=Tryz.isAgg338
 z171:=Tryz.sizeOf338
 v171:=Tryz.zeroValue338
 t173:=Tryz.underlying342
 a173:=Tryz.isAgg342
 z173:=Tryz.sizeOf342
 v173:=Tryz.zeroValue342
 t212:=Tryz.underlying448
 a212:=Tryz.isAgg448
 z212:=Tryz.sizeOf448
 v212:=Tryz.zeroValue448
 t213:=Tryz.underlying450
 a213:=Tryz.isAgg450
 z213:=Tryz.sizeOf450
 t232:=Tryz.underlying557
 a232:=Tryz.isAgg557
 z232:=Tryz.sizeOf557
 v232:=Tryz.zeroValue557
 t233:=Tryz.underlying558
 a233:=Tryz.isAgg558
 z233:=Tryz.sizeOf558
 v233:=Tryz.zeroValue558
 g17:=by kernel_rfl
 g18:=by kernel_rfl
 g19:=by kernel_rfl
 i0:=by kernel_rfl
 i2:=by kernel_rfl
 i3:=by kernel_rfl
 i4:=by kernel_rfl
 i5:=by kernel_rfl
 i9:=by kernel_rfl
 i20:=by kernel_rfl
 i37:=by kernel_rfl
 i46:=by kernel_rfl
 i51:=by kernel_rfl
 i53:=by kernel_rfl
 i171:=by kernel_rfl
 i173:=by kernel_rfl
 i212:=by kernel_rfl
 i232:=by kernel_rfl
 i233:=by kernel_rfl
 m17:=by kernel_rfl
 m18:=by kernel_rfl
 m19:=by kernel_rfl }
def Tryz.laysC174_ren:Go.Shelf.Ren:=⟨fun|174=>421|247=>486|245=>487|287=>524|279=>525|280=>526|281=>527|282=>528|321=>545|322=>546|316=>547|171=>29|205=>548|243=>64|246=>130|283=>230|284=>231|285=>232|286=>233|129=>366|317=>365|318=>367|319=>368|320=>369|337=>445|338=>446|n=>n,fun|9=>9|3=>3|2=>2|75=>492|85=>493|4=>4|167=>579|5=>5|53=>339|175=>580|46=>250|168=>582|37=>95|0=>0|210=>598|21=>21|127=>593|145=>611|143=>609|171=>338|173=>342|212=>448|51=>449|20=>20|213=>450|232=>557|233=>558|80=>284|n=>n,fun|15=>6|16=>7|17=>2|18=>4|19=>5|n=>n⟩
theorem Tryz.laysC174:Go.Proofs.LaysC.n174 Tryz.prog Tryz.laysC174_ren:={
 mixed:=by kernel_rfl
 f129:=Tryz.func366.trans (congrArg some (by kernel_rfl))
 f171:=Tryz.func29.trans (congrArg some (by kernel_rfl))
 f174:=Tryz.func421.trans (congrArg some (by kernel_rfl))
 f205:=Tryz.func548.trans (congrArg some (by kernel_rfl))
 f243:=Tryz.func64.trans (congrArg some (by kernel_rfl))
 f245:=Tryz.func487.trans (congrArg some (by kernel_rfl))
 f246:=Tryz.func130.trans (congrArg some (by kernel_rfl))
 f247:=Tryz.func486.trans (congrArg some (by kernel_rfl))
 f279:=Tryz.func525.trans (congrArg some (by kernel_rfl))
 f280:=Tryz.func526.trans (congrArg some (by kernel_rfl))
 f281:=Tryz.func527.trans (congrArg some (by kernel_rfl))
 f282:=Tryz.func528.trans (congrArg some (by kernel_rfl))
 f283:=Tryz.func230.trans (congrArg some (by kernel_rfl))
 f284:=Tryz.func231.trans (congrArg some (by kernel_rfl))
 f285:=Tryz.func232.trans (congrArg some (by kernel_rfl))
 f286:=Tryz.func233.trans (congrArg some (by kernel_rfl))
 f287:=Tryz.func524.trans (congrArg some (by kernel_rfl))
 f316:=Tryz.func547.trans (congrArg some (by kernel_rfl))
 f317:=Tryz.func365.trans (congrArg some (by kernel_rfl))
 f318:=Tryz.func367.trans (congrArg some (by kernel_rfl))
 f319:=Tryz.func368.trans (congrArg some (by kernel_rfl))
 f320:=Tryz.func369.trans (congrArg some (by kernel_rfl))
 f321:=Tryz.func545.trans (congrArg some (by kernel_rfl))
 f322:=Tryz.func546.trans (congrArg some (by kernel_rfl))
 f337:=Tryz.func445.trans (congrArg some (by kernel_rfl))
 f338:=Tryz.func446.trans (congrArg some (by kernel_rfl))
 t0:=Tryz.underlying0
 a0:=Tryz.isAgg0
 z0:=Tryz.sizeOf0
 v0:=Tryz.zeroValue0
 t2:=Tryz.underlying2
 a2:=Tryz.isAgg2
 z2:=Tryz.sizeOf2
 v2:=Tryz.zeroValue2
 t3:=Tryz.underlying3
 a3:=Tryz.isAgg3
 z3:=Tryz.sizeOf3
 v3:=Tryz.zeroValue3
 t4:=Tryz.underlying4
 a4:=Tryz.isAgg4
 z4:=Tryz.sizeOf4
 v4:=Tryz.zeroValue4
 t5:=Tryz.underlying5
 a5:=Tryz.isAgg5
 z5:=Tryz.sizeOf5
 v5:=Tryz.zeroValue5
 t9:=Tryz.underlying9
 a9:=Tryz.isAgg9
 z9:=Tryz.sizeOf9
 v9:=Tryz.zeroValue9
 t20:=Tryz.underlying20
 a20:=Tryz.isAgg20
 z20:=Tryz.sizeOf20
 v20:=Tryz.zeroValue20
 t21:=Tryz.underlying21
 a21:=Tryz.isAgg21
 z21:=Tryz.sizeOf21
 v21:=Tryz.zeroValue21
 t37:=Tryz.underlying95
 a37:=Tryz.isAgg95
 z37:=Tryz.sizeOf95
 v37:=Tryz.zeroValue95
 t46:=Tryz.underlying250
 a46:=Tryz.isAgg250
 z46:=Tryz.sizeOf250
 v46:=Tryz.zeroValue250
 t51:=Tryz.underlying449
 a51:=Tryz.isAgg449
 z51:=Tryz.sizeOf449
 v51:=Tryz.zeroValue449
 t53:=Tryz.underlying339
 a53:=Tryz.isAgg339
 z53:=Tryz.sizeOf339
 v53:=Tryz.zeroValue339
 t75:=Tryz.underlying492
 a75:=Tryz.isAgg492
 z75:=Tryz.sizeOf492
 v75:=Tryz.zeroValue492
 t85:=Tryz.underlying493
 a85:=Tryz.isAgg493
 z85:=Tryz.sizeOf493
 v85:=Tryz.zeroValue493
 t127:=Tryz.underlying593
 a127:=Tryz.isAgg593
 z127:=Tryz.sizeOf593
 v127:=Tryz.zeroValue593
 t143:=Tryz.underlying609
 a143:=Tryz.isAgg609
 z143:=Tryz.sizeOf609
 v143:=Tryz.zeroValue609
 t145:=Tryz.underlying611
 a145:=Tryz.isAgg611
 z145:=Tryz.sizeOf611
 v145:=Tryz.zeroValue611
 t167:=Tryz.underlying579
 a167:=Tryz.isAgg579
 z167:=Tryz.sizeOf579
 v167:=Tryz.zeroValue579
 t168:=Tryz.underlying582
 a168:=Tryz.isAgg582
 z168:=Tryz.sizeOf582
 v168:=Tryz.zeroValue582
 t171:=Tryz.underlying338
 a171:=Tryz.isAgg338
 z171:=Tryz.sizeOf338
 v171:=Tryz.zeroValue338
 t173:=Tryz.underlying342
 a173:=Tryz.isAgg342
 z173:=Tryz.sizeOf342
 v173:=Tryz.zeroValue342
 t175:=Tryz.underlying580
 a175:=Tryz.isAgg580
 z175:=Tryz.sizeOf580
 v175:=Tryz.zeroValue580
 t210:=Tryz.underlying598
 a210:=Tryz.isAgg598
 z210:=Tryz.sizeOf598
 v210:=Tryz.zeroValue598
 t212:=Tryz.underlying448
 a212:=Tryz.isAgg448
 z212:=Tryz.sizeOf448
 v212:=Tryz.zeroValue448
 t213:=Tryz.underlying450
 a213:=Tryz.isAgg450
 z213:=Tryz.sizeOf450
 t232:=Tryz.underlying557
 a232:=Tryz.isAgg557
 z232:=Tryz.sizeOf557
 v232:=Tryz.zeroValue557
 t233:=Tryz.underlying558
 a233:=Tryz.isAgg558
 z233:=Tryz.sizeOf558
 v233:=Tryz.zeroValue558
 g15:=by kernel_rfl
 g16:=by kernel_rfl
 g17:=by kernel_rfl
 g18:=by kernel_rfl
 g19:=by kernel_rfl
 t80:=Tryz.underlying284
 a80:=Tryz.isAgg284
 z80:=Tryz.sizeOf284
 v80:=Tryz.zeroValue284
 i0:=by kernel_rfl
 i2:=by kernel_rfl
 i3:=by kernel_rfl
 i4:=by kernel_rfl
 i5:=by kernel_rfl
 i9:=by kernel_rfl
 i20:=by kernel_rfl
 i21:=by kernel_rfl
 i37:=by kernel_rfl
 i46:=by kernel_rfl
 i51:=by kernel_rfl
 i53:=by kernel_rfl
 i75:=by kernel_rfl
 i80:=by kernel_rfl
 i85:=by kernel_rfl
 i127:=by kernel_rfl
 i143:=by kernel_rfl
 i145:=by kernel_rfl
 i167:=by kernel_rfl
 i168:=by kernel_rfl
 i171:=by kernel_rfl
 i173:=by kernel_rfl
 i175:=by kernel_rfl
 i210:=by kernel_rfl
 i212:=by kernel_rfl
 i232:=by kernel_rfl
 i233:=by kernel_rfl
 m15:=by kernel_rfl
 m16:=by kernel_rfl
 m17:=by kernel_rfl
 m18:=by kernel_rfl
 m19:=by kernel_rfl
 c0:=by kernel_rfl
 c2:=by kernel_rfl
 c3:=by kernel_rfl
 c4:=by kernel_rfl
 c5:=by kernel_rfl
 c9:=by kernel_rfl
 c20:=by kernel_rfl
 c21:=by kernel_rfl
 c37:=by kernel_rfl
 c46:=by kernel_rfl
 c51:=by kernel_rfl
 c53:=by kernel_rfl
 c75:=by kernel_rfl
 c80:=by kernel_rfl
 c85:=by kernel_rfl
 c127:=by kernel_rfl
 c143:=by kernel_rfl
 c145:=by kernel_rfl
 c167:=by kernel_rfl
 c168:=by kernel_rfl
 c171:=by kernel_rfl
 c173:=by kernel_rfl
 c175:=by kernel_rfl
 c210:=by kernel_rfl
 c212:=by kernel_rfl
 c213:=by kernel_rfl
 c232:=by kernel_rfl
 c233:=by kernel_rfl }
def Tryz.lays144_ren:Go.Shelf.Ren:=⟨fun|144=>186|143=>318|219=>420|217=>321|225=>476|224=>475|267=>485|266=>422|314=>523|n=>n,fun|9=>9|4=>4|3=>3|5=>5|46=>250|146=>577|51=>449|n=>n,fun|1=>3|n=>n⟩
theorem Tryz.lays144:Go.Proofs.Lays.n144 Tryz.prog Tryz.lays144_ren:={
 mixed:=by kernel_rfl
 f143:=Tryz.func318.trans (congrArg some (by kernel_rfl))
 f144:=Tryz.func186.trans (congrArg some (by kernel_rfl))
 f217:=Tryz.func321.trans (congrArg some (by kernel_rfl))
 f219:=Tryz.func420.trans (congrArg some (by kernel_rfl))
 f224:=Tryz.func475.trans (congrArg some (by kernel_rfl))
 f225:=Tryz.func476.trans (congrArg some (by kernel_rfl))
 f266:=Tryz.func422.trans (congrArg some (by kernel_rfl))
 f267:=Tryz.func485.trans (congrArg some (by kernel_rfl))
 f314:=Tryz.func523.trans (congrArg some (by kernel_rfl))
 t3:=Tryz.underlying3
 a3:=Tryz.isAgg3
 z3:=Tryz.sizeOf3
 v3:=Tryz.zeroValue3
 t4:=Tryz.underlying4
 a4:=Tryz.isAgg4
 z4:=Tryz.sizeOf4
 v4:=Tryz.zeroValue4
 t5:=Tryz.underlying5
 a5:=Tryz.isAgg5
 z5:=Tryz.sizeOf5
 v5:=Tryz.zeroValue5
 t9:=Tryz.underlying9
 a9:=Tryz.isAgg9
 z9:=Tryz.sizeOf9
 v9:=Tryz.zeroValue9
 t46:=Tryz.underlying250
 a46:=Tryz.isAgg250
 z46:=Tryz.sizeOf250
 v46:=Tryz.zeroValue250
 t51:=Tryz.underlying449
 a51:=Tryz.isAgg449
 z51:=Tryz.sizeOf449
 v51:=Tryz.zeroValue449
 t146:=Tryz.underlying577
 a146:=Tryz.isAgg577
 z146:=Tryz.sizeOf577
 v146:=Tryz.zeroValue577
 g1:=by kernel_rfl }
def Tryz.lays99_ren:Go.Shelf.Ren:=⟨fun|99=>267|206=>395|n=>n,fun|9=>9|4=>4|3=>3|n=>n,fun|n=>n⟩
theorem Tryz.lays99:Go.Proofs.Lays.n99 Tryz.prog Tryz.lays99_ren:={
 mixed:=by kernel_rfl
 f99:=Tryz.func267.trans (congrArg some (by kernel_rfl))
 f206:=Tryz.func395.trans (congrArg some (by kernel_rfl))
 t3:=Tryz.underlying3
 a3:=Tryz.isAgg3
 z3:=Tryz.sizeOf3
 v3:=Tryz.zeroValue3
 t4:=Tryz.underlying4
 a4:=Tryz.isAgg4
 z4:=Tryz.sizeOf4
 v4:=Tryz.zeroValue4
 t9:=Tryz.underlying9
 a9:=Tryz.isAgg9
 z9:=Tryz.sizeOf9
 v9:=Tryz.zeroValue9 }
def Tryz.lays153_ren:Go.Shelf.Ren:=⟨fun|153=>268|152=>396|226=>397|227=>398|228=>399|137=>190|119=>474|224=>475|225=>476|217=>321|266=>422|n=>n,fun|9=>9|3=>3|4=>4|5=>5|21=>21|117=>479|116=>478|0=>0|46=>250|124=>536|n=>n,fun|n=>n⟩
theorem Tryz.lays153:Go.Proofs.Lays.n153 Tryz.prog Tryz.lays153_ren:={
 mixed:=by kernel_rfl
 f119:=Tryz.func474.trans (congrArg some (by kernel_rfl))
 f137:=Tryz.func190.trans (congrArg some (by kernel_rfl))
 f152:=Tryz.func396.trans (congrArg some (by kernel_rfl))
 f153:=Tryz.func268.trans (congrArg some (by kernel_rfl))
 f217:=Tryz.func321.trans (congrArg some (by kernel_rfl))
 f224:=Tryz.func475.trans (congrArg some (by kernel_rfl))
 f225:=Tryz.func476.trans (congrArg some (by kernel_rfl))
 f226:=Tryz.func397.trans (congrArg some (by kernel_rfl))
 f227:=Tryz.func398.trans (congrArg some (by kernel_rfl))
 f228:=Tryz.func399.trans (congrArg some (by kernel_rfl))
 f266:=Tryz.func422.trans (congrArg some (by kernel_rfl))
 t0:=Tryz.underlying0
 a0:=Tryz.isAgg0
 z0:=Tryz.sizeOf0
 v0:=Tryz.zeroValue0
 t3:=Tryz.underlying3
 a3:=Tryz.isAgg3
 z3:=Tryz.sizeOf3
 v3:=Tryz.zeroValue3
 t4:=Tryz.underlying4
 a4:=Tryz.isAgg4
 z4:=Tryz.sizeOf4
 v4:=Tryz.zeroValue4
 t5:=Tryz.underlying5
 a5:=Tryz.isAgg5
 z5:=Tryz.sizeOf5
 v5:=Tryz.zeroValue5
 t9:=Tryz.underlying9
 a9:=Tryz.isAgg9
 z9:=Tryz.sizeOf9
 v9:=Tryz.zeroValue9
 t21:=Tryz.underlying21
 a21:=Tryz.isAgg21
 z21:=Tryz.sizeOf21
 v21:=Tryz.zeroValue21
 t46:=Tryz.underlying250
 a46:=Tryz.isAgg250
 z46:=Tryz.sizeOf250
 v46:=Tryz.zeroValue250
 t116:=Tryz.underlying478
 a116:=Tryz.isAgg478
 z116:=Tryz.sizeOf478
 t117:=Tryz.underlying479
 a117:=Tryz.isAgg479
 z117:=Tryz.sizeOf479
 v117:=Tryz.zeroValue479
 t124:=Tryz.underlying536
 a124:=Tryz.isAgg536
 z124:=Tryz.sizeOf536
 v124:=Tryz.zeroValue536 }
def Tryz.lays197_ren:Go.Shelf.Ren:=⟨fun|197=>394|260=>473|n=>n,fun|9=>9|21=>21|3=>3|4=>4|5=>5|105=>474|119=>297|0=>0|46=>250|139=>300|138=>299|n=>n,fun|3=>0|4=>1|n=>n⟩
theorem Tryz.lays197:Go.Proofs.Lays.n197 Tryz.prog Tryz.lays197_ren:={
 mixed:=by kernel_rfl
 f197:=Tryz.func394.trans (congrArg some (by kernel_rfl))
 f260:=Tryz.func473.trans (congrArg some (by kernel_rfl))
 t0:=Tryz.underlying0
 a0:=Tryz.isAgg0
 z0:=Tryz.sizeOf0
 v0:=Tryz.zeroValue0
 t3:=Tryz.underlying3
 a3:=Tryz.isAgg3
 z3:=Tryz.sizeOf3
 v3:=Tryz.zeroValue3
 t4:=Tryz.underlying4
 a4:=Tryz.isAgg4
 z4:=Tryz.sizeOf4
 v4:=Tryz.zeroValue4
 t5:=Tryz.underlying5
 a5:=Tryz.isAgg5
 z5:=Tryz.sizeOf5
 v5:=Tryz.zeroValue5
 t9:=Tryz.underlying9
 a9:=Tryz.isAgg9
 z9:=Tryz.sizeOf9
 v9:=Tryz.zeroValue9
 t21:=Tryz.underlying21
 a21:=Tryz.isAgg21
 z21:=Tryz.sizeOf21
 v21:=Tryz.zeroValue21
 t46:=Tryz.underlying250
 a46:=Tryz.isAgg250
 z46:=Tryz.sizeOf250
 v46:=Tryz.zeroValue250
 t105:=Tryz.underlying474
 a105:=Tryz.isAgg474
 z105:=Tryz.sizeOf474
 v105:=Tryz.zeroValue474
 t119:=Tryz.underlying297
 a119:=Tryz.isAgg297
 z119:=Tryz.sizeOf297
 t138:=Tryz.underlying299
 a138:=Tryz.isAgg299
 z138:=Tryz.sizeOf299
 v138:=Tryz.zeroValue299
 t139:=Tryz.underlying300
 a139:=Tryz.isAgg300
 z139:=Tryz.sizeOf300
 v139:=Tryz.zeroValue300
 g3:=by kernel_rfl
 g4:=by kernel_rfl }
open Go.RowKit in
theorem Tryz.strings_IndexByte (s:ByteArray) (c:Int) (w:World) :
 Calls Tryz.prog 190 #[.string s,.int .u8 c] w fun e w'=>e=.returned (.int .i64 (Lib.indexByte s.data.toList c.toNat.toUInt8))∧w'=w:=Any.strings_IndexByte Tryz.lays137 s c w
open Go.RowKit Go.Sort Go.Lib in
theorem Tryz.strconv_FormatInt_10 (n : Int) (h0 : -9223372036854775808 ≤ n) (h1 : n ≤ 9223372036854775807) (w : World) (htab : Lib.TabIs Tryz.prog w "internal/strconv.uint64pow10" .u64 Lib.pow10Tab) :
 Calls Tryz.prog 502 #[.int .i64 n,.int .i64 10] w fun e w'=>e=.returned (.string ⟨(Lib.itoa n).toArray⟩)∧∃ k os,w'=grow (w.drewN k) os:=Any.strconv_FormatInt_10 Tryz.laysM173 n h0 h1 w htab
open Go.RowKit in
theorem Tryz.strconv_ParseInt_10_at64_ok (s:ByteArray) (hmax:s.size≤9223372036854775806) (v:Int) (h:Lib.parseIntB 64 s.data.toList=.ok v) (w:World) :
 Calls Tryz.prog 421 #[.string s,.int .i64 10,.int .i64 64] w fun e w'=>e=.returned (.tuple #[.int .i64 v,.nilIface])∧(w'=w∨∃ t,w'=Lib.bytesWorld w 5 t):=Any.strconv_ParseInt_10_at64_ok Tryz.laysC174 s hmax v h w
open Go.RowKit in
theorem Tryz.strconv_ParseInt_10_at64_syntax (s:ByteArray) (hlim:s.size≤281474976710656) (h:Lib.parseIntB 64 s.data.toList=Lib.NumEnd.syntax) (ev:Value) (w:World) (hv:w.cell? ⟨6,0,none⟩=some ev) (hev:ev=.nilIface∨∃ te pe,ev=.iface te pe) :
 Calls Tryz.prog 421 #[.string s,.int .i64 10,.int .i64 64] w fun e w'=>∃ N,e=.returned (.tuple #[.int .i64 (0),.iface 582 (.pointer (some ⟨N,0,none⟩))])∧w.heap.size≤N∧w'.heap[N]?=some (.cells #[.string ⟨#[80,97,114,115,101,73,110,116]⟩,.string s,ev] 598 (0,0))∧Below w.heap.size w w':=Any.strconv_ParseInt_10_at64_syntax Tryz.laysC174 s hlim h ev w hv hev
open Go.RowKit in
theorem Tryz.strconv_ParseInt_10_at64_range (s:ByteArray) (hlim:s.size≤281474976710656) (h:Lib.parseIntB 64 s.data.toList=.range) (ev:Value) (w:World) (hv:w.cell? ⟨7,0,none⟩=some ev) (hev:ev=.nilIface∨∃ te pe,ev=.iface te pe) :
 Calls Tryz.prog 421 #[.string s,.int .i64 10,.int .i64 64] w fun e w'=>∃ N,e=.returned (.tuple #[.int .i64 (Lib.intSat 64 s.data.toList),.iface 582 (.pointer (some ⟨N,0,none⟩))])∧w.heap.size≤N∧w'.heap[N]?=some (.cells #[.string ⟨#[80,97,114,115,101,73,110,116]⟩,.string s,ev] 598 (0,0))∧Below w.heap.size w w':=Any.strconv_ParseInt_10_at64_range Tryz.laysC174 s hlim h ev w hv hev
open Go.RowKit Go.Lib in
theorem Tryz.strings_Contains_one (s:ByteArray) (c:UInt8) (w:World) :
 Calls Tryz.prog 186 #[.string s,.string ⟨#[c]⟩] w fun e w'=>e=.returned (.bool (decide (0≤Lib.indexByte s.data.toList c)))∧w'=w:=Any.strings_Contains_one Tryz.lays144 s c w
open Go.RowKit Go.Lib in
theorem Tryz.strings_HasPrefix (s p:ByteArray) (w:World) :
 Calls Tryz.prog 267 #[.string s,.string p] w fun e w'=>e=.returned (.bool (Lib.hasPrefix s.data.toList p.data.toList))∧w'=w:=Any.strings_HasPrefix Tryz.lays99 s p w
open Go.RowKit Go.Lib in
theorem Tryz.strings_IndexAny_long (hv116:∀ w,(zeroValue 478).run Tryz.prog w=.ok (.agg (Array.replicate 256 (.bool false))) w) (s chars:ByteArray) (w:World) (h2:2≤chars.size) (h8:8<s.size) (hs:s.size<4294967281) (hcs:chars.size<4294967281) (hascii:∀(j:Nat) b,chars.data.toList[j]?=some b→b.toNat<128) :
 Calls Tryz.prog 268 #[.string s,.string chars] w fun e w'=>e=.returned (.int .i64 (Lib.indexAny s.data.toList chars.data.toList))∧w'=((w.alloc (.cells (Lib.setCells chars.data.toList) 478)).alloc (.cells (Lib.setCells chars.data.toList) 478)):=Any.strings_IndexAny_long Tryz.lays153 hv116 (by kernel_rfl) s chars w h2 h8 hs hcs hascii
open Go.RowKit Go.Lib in
theorem Tryz.utf8_DecodeRuneInString (s:ByteArray) (w:World) (hT:Lib.Utf8Tabs 0 1 w) :
 Calls Tryz.prog 394 #[.string s] w fun e w'=>e=.returned (.tuple #[.int .i32 (Lib.decodeGo s).1,.int .i64 (Lib.decodeGo s).2])∧Below w.heap.size w w':=Any.utf8_DecodeRuneInString Tryz.lays197 s w hT
def Tryz.lays196_ren:Go.Shelf.Ren:=⟨fun|196=>112|259=>179|n=>n,fun|9=>9|4=>4|3=>3|5=>5|12=>12|119=>297|0=>0|46=>250|139=>300|138=>299|53=>339|n=>n,fun|3=>0|4=>1|n=>n⟩
theorem Tryz.lays196:Go.Proofs.Lays.n196 Tryz.prog Tryz.lays196_ren:={
 mixed:=by kernel_rfl
 f196:=Tryz.func112.trans (congrArg some (by kernel_rfl))
 f259:=Tryz.func179.trans (congrArg some (by kernel_rfl))
 t0:=Tryz.underlying0
 a0:=Tryz.isAgg0
 z0:=Tryz.sizeOf0
 v0:=Tryz.zeroValue0
 t3:=Tryz.underlying3
 a3:=Tryz.isAgg3
 z3:=Tryz.sizeOf3
 v3:=Tryz.zeroValue3
 t4:=Tryz.underlying4
 a4:=Tryz.isAgg4
 z4:=Tryz.sizeOf4
 v4:=Tryz.zeroValue4
 t5:=Tryz.underlying5
 a5:=Tryz.isAgg5
 z5:=Tryz.sizeOf5
 v5:=Tryz.zeroValue5
 t9:=Tryz.underlying9
 a9:=Tryz.isAgg9
 z9:=Tryz.sizeOf9
 v9:=Tryz.zeroValue9
 t12:=Tryz.underlying12
 a12:=Tryz.isAgg12
 z12:=Tryz.sizeOf12
 v12:=Tryz.zeroValue12
 t46:=Tryz.underlying250
 a46:=Tryz.isAgg250
 z46:=Tryz.sizeOf250
 v46:=Tryz.zeroValue250
 t53:=Tryz.underlying339
 a53:=Tryz.isAgg339
 z53:=Tryz.sizeOf339
 v53:=Tryz.zeroValue339
 t119:=Tryz.underlying297
 a119:=Tryz.isAgg297
 z119:=Tryz.sizeOf297
 t138:=Tryz.underlying299
 a138:=Tryz.isAgg299
 z138:=Tryz.sizeOf299
 v138:=Tryz.zeroValue299
 t139:=Tryz.underlying300
 a139:=Tryz.isAgg300
 z139:=Tryz.sizeOf300
 v139:=Tryz.zeroValue300
 g3:=by kernel_rfl
 g4:=by kernel_rfl }
end Go.Proofs
namespace Go.Proofs.YtdpfofoinaammaaGreatDoor
open Go.Ab Go.RowKit Go.Sort Go.Lib
theorem ST {γ:Gh} {w w':World} (h:Below w.heap.size w w'):yV (fun _=>False) γ w γ w':=by
 refine⟨⟨h.size,fun b o v hc hp=>⟨hp,?_⟩,fun b arr E fr hb=>⟨arr,?_,rfl⟩⟩,h.os,h.output,fun a ha=>?_,fun b hb _=>⟨rfl,h.block b hb⟩⟩
 ·have hlt:=World.block_lt_of_cell? w _ hc
  unfold World.cell? at hc ⊢
  rw[h.block _ hlt];exact hc
 ·have hlt:=(Zj.1 hb).1
  rw[h.block b hlt];exact hb
 ·exact World.frozen?_of_block (h.block _ ha)
theorem zz.of_below {P:Program} {f:FuncId} {args:List AV} {r:AV} (h:∀(γ:Gh) (w:World) (vs:List Value),y1 γ w→zv γ w args vs→Calls P f vs.toArray w fun e w'=>Below w.heap.size w w'∧∃ v,e=.returned v∧Rep γ w' r v):zz P f args r:=by
 intro γ w vs ht _ hv
 refine(h γ w vs ht hv).mono fun e w' ⟨hw,v,he,hr⟩=>?_
 subst he
 exact⟨γ,zb.emp,.ret r,(ST hw).weaken fun _ f=>f.elim,fun b o hb=>by simp[zb.emp] at hb,fun b hb=>by simp[zb.emp] at hb,hr,rfl,rfl⟩
theorem below_grow (w:World) (k:Nat) (os:Array Obj):Below w.heap.size w (grow (w.drewN k) os):=by
 refine⟨rfl,rfl,rfl,?_,fun i hi=>?_⟩
 ·show w.heap.size≤(w.heap++os).size;simp
 ·show (w.heap++os)[i]?=w.heap[i]?
  rw[Array.getElem?_append_left hi]
theorem UY (w:World) (e:TypeId) (t:ByteArray):Below w.heap.size w (Lib.bytesWorld w e t):=by
 have h1:Below w.heap.size w (w.drew.alloc (.cells (bytesCells w e t) e)):=(Below.refl _ w).drew.alloc (yX _) _
 unfold Lib.bytesWorld World.freeze
 simp only[Nat.one_ne_zero,if_false]
 refine⟨h1.os,h1.tape,h1.output,?_,fun i hi=>?_⟩
 ·rw[Array.size_modify];exact h1.size
 ·rw[Array.getElem?_modify]
  have:¬ (w.heap.size=i):=by omega
  simp only[this,if_false]
  exact h1.block i hi
theorem Vk {γ:Gh} {w:World} (h:y1 γ w) {i b:Nat} {ps:List (Value→Prop)} (hi:Qa[i]?=some (b,ps)) {j:Nat} {p:Value→Prop} (hj:ps[j]?=some p):∃ v,w.cell? ⟨b,j,none⟩=some v∧p v:=by
 obtain⟨v,h1,h2⟩:=(h _ (List.mem_of_getElem? hi)).2 j p hj
 exact⟨v,h1.1,h2⟩
theorem Ru:∀ c:Fin 256,Go.Pinned.utf8FirstZ[c.val]?=some (Lib.firstT c.val):=by decide +kernel
def TK:List Nat:=[128,191,160,191,128,159,144,191,128,143,0,0,0,0,0,0,0,0,0,0,0,0,0,0,0,0,0,0,0,0,0,0]
theorem P7:∀ c:Fin 16,TK[2*c.val]?=some (Lib.accLo c.val)∧TK[2*c.val+1]?=some (Lib.accHi c.val):=by decide +kernel
theorem Tn {γ:Gh} {w:World} (h:y1 γ w):Lib.Utf8Tabs 0 1 w:=by
 refine⟨fun c hc=>?_,fun c hc=>?_⟩
 ·have hf:=Ru ⟨c,hc⟩
  obtain⟨v,h1,h2⟩:=Vk h (i:=0) rfl (j:=c) (p:=fun v=>v=.int .u8 (Lib.firstT c)) (by rw[yr,hf];rfl)
  rw[h1,h2]
 ·obtain⟨g1,g2⟩:=P7 ⟨c,hc⟩
  have hi:Qa[1]?=some (1,TK.map fun(n:Nat) (v:Value)=>v=.int .u8 n):=rfl
  obtain⟨v,h1,h2⟩:=Vk h hi (j:=2*c) (p:=fun v=>v=.int .u8 (Lib.accLo c)) (by rw[yr,g1];rfl)
  obtain⟨u,h3,h4⟩:=Vk h hi (j:=2*c+1) (p:=fun v=>v=.int .u8 (Lib.accHi c)) (by rw[yr,g2];rfl)
  exact⟨by rw[h1,h2],by rw[h3,h4]⟩
theorem Sp {γ:Gh} {w:World} {s:List UInt8} {vs:List Value} (h:zv γ w [.str s] vs):vs=[.string ⟨s.toArray⟩]:=by
 obtain⟨hl,hr⟩:=h
 match vs,hl with
 | [v],_=>cases hr 0 _ _ rfl rfl;rfl
theorem OM (s:List UInt8) (hs:s.length≤9223372036854775807):zz Tryz.prog 112 [.str s] (.bool (Lib.validD s)):=by
 refine zz.of_below fun γ w vs ht hv=>?_
 rw[Sp hv]
 have h:=Any.utf8_ValidString Tryz.lays196 ⟨s.toArray⟩ w (by simpa[ByteArray.size] using hs) (Tn ht)
 refine Calls.mono h fun e w' ⟨he,hb⟩=>⟨hb,_,he,.bool _⟩
theorem QW (s p:List UInt8):zz Tryz.prog 267 [.str s,.str p] (.bool (p.isPrefixOf s)):=by
 refine zz.of_below fun γ w vs ht hv=>?_
 obtain⟨hl,hr⟩:=hv
 match vs,hl with
 | [v,u],_ =>
  cases hr 0 _ _ rfl rfl
  cases hr 1 _ _ rfl rfl
  exact(Tryz.strings_HasPrefix ⟨s.toArray⟩ ⟨p.toArray⟩ w).mono fun e w' ⟨he,hw⟩=>⟨by rw[hw];exact Below.refl _ _,_,he,.bool _⟩
def Qd:List Nat:=[1,10,100,1000,10000,100000,1000000,10000000,100000000,1000000000,10000000000,100000000000,1000000000000,10000000000000,100000000000000,1000000000000000,10000000000000000,100000000000000000,1000000000000000000,10000000000000000000]
theorem Td:Qd.length=20:=rfl
theorem U3:Lib.pow10Tab=Qd.map fun(n:Nat)=>(n:Int):=by decide +kernel
theorem P2 {γ : Gh} {w : World} (ht : y1 γ w) : Lib.TabIs Tryz.prog w "internal/strconv.uint64pow10" .u64 Lib.pow10Tab := by
 have hmem:Qa[2]?=some (2,Qd.map fun(n:Nat) (v:Value)=>v=.int .u64 n):=rfl
 obtain⟨⟨arr,E,fr,g1,g2⟩,g3⟩:=ht _ (List.mem_of_getElem? hmem)
 have hg : Tryz.prog.globalNamed "internal/strconv.uint64pow10" = some 2 := by kernel_rfl
 unfold Lib.TabIs World.var?
 rw[hg]
 simp only[Option.bind_some]
 rw[show w.heap[2]?=_ from g1]
 simp only[zx]
 refine Array.ext_getElem? fun j=>?_
 simp only[List.length_map] at g2
 by_cases hj:j<20
 ·have hj':j<Qd.length:=hj
  obtain⟨v,h1,h2⟩:=g3 j (fun v=>v=.int .u64 ((Qd[j]:Nat):Int)) (by rw[yr,Yx hj'];rfl)
  have h3:=h1.1
  simp only[World.cell?] at h3
  rw[show w.heap[2]?=_ from g1] at h3
  have h4:arr[j]?=some v:=by simpa using h3
  rw[h4,h2,U3]
  simp only[List.map_map,List.getElem?_toArray,yr,Yx hj',yv,Function.comp]
 ·rw[Array.getElem?_eq_none (by rw[g2,Td];omega),Array.getElem?_eq_none (by simp[U3,Td];omega)]
theorem TQ (n:Int) (h0:-9223372036854775808≤n) (h1:n≤9223372036854775807):zz Tryz.prog 502 [.int .i64 n,.int .i64 10] (.str (Lib.itoa n)):=by
 refine zz.of_below fun γ w vs ht hv=>?_
 obtain⟨hl,hr⟩:=hv
 match vs,hl with
 | [v,u],_ =>
  cases hr 0 _ _ rfl rfl
  cases hr 1 _ _ rfl rfl
  exact(Tryz.strconv_FormatInt_10 n h0 h1 w (P2 ht)).mono fun e w' ⟨he,k,os,hw⟩=>⟨by rw[hw];exact below_grow _ _ _,_,he,.str _⟩
theorem Tf {γ:Gh} {w:World} (h:y1 γ w):∃ v,w.cell? ⟨7,0,none⟩=some v∧∃ te pe,v=.iface te pe:=Vk h (i:=7) rfl (j:=0) rfl
theorem UC {γ:Gh} {w:World} (h:y1 γ w):∃ v,w.cell? ⟨6,0,none⟩=some v∧∃ te pe,v=.iface te pe:=Vk h (i:=6) rfl (j:=0) rfl
def UQ (s:List UInt8):AV :=
 match Lib.parseIntB 64 s with
 | .ok v=>.tup [.int .i64 v,.oth .nilIface]
 | Lib.NumEnd.syntax=>.tup [.int .i64 0,.ifc 582 .any]
 | .range=>.tup [.int .i64 (Lib.intSat 64 s),.ifc 582 .any]
theorem WT {γ:Gh} {w:World} {a b:AV} {v u:Value} (h1:Rep γ w a v) (h2:Rep γ w b u):Rep γ w (.tup [a,b]) (.tuple #[v,u]):=.tup _ [v,u] rfl (zv.cons h1 (zv.cons h2 zv.nil)).2
theorem SR (s:List UInt8) (hs:s.length≤281474976710656):zz Tryz.prog 421 [.str s,.int .i64 10,.int .i64 64] (UQ s):=by
 refine zz.of_below fun γ w vs ht hv=>?_
 obtain⟨hl,hr⟩:=hv
 match vs,hl with
 | [v,u,x],_ =>
  cases hr 0 _ _ rfl rfl
  cases hr 1 _ _ rfl rfl
  cases hr 2 _ _ rfl rfl
  have hsz:(⟨s.toArray⟩:ByteArray).size=s.length:=rfl
  unfold UQ
  rcases hp:Lib.parseIntB 64 s with v|_|_
  ·refine(Tryz.strconv_ParseInt_10_at64_ok ⟨s.toArray⟩ (by rw[hsz];omega) v hp w).mono fun e w' ⟨he,hw⟩=>⟨?_,_,he,WT (.int _ _) (.oth _)⟩
   rcases hw with rfl|⟨t,rfl⟩
   ·exact Below.refl _ _
   ·exact UY _ _ _
  ·obtain⟨ev,h1,h2⟩:=UC ht
   exact(Tryz.strconv_ParseInt_10_at64_syntax ⟨s.toArray⟩ (by rw[hsz];omega) hp ev w h1 (.inr h2)).mono fun e w' ⟨N,he,_,_,hb⟩=>⟨hb,_,he,WT (.int _ _) (.ifc _ _ _ (.any _))⟩
  ·obtain⟨ev,h1,h2⟩:=Tf ht
   exact(Tryz.strconv_ParseInt_10_at64_range ⟨s.toArray⟩ (by rw[hsz];omega) hp ev w h1 (.inr h2)).mono fun e w' ⟨N,he,_,_,hb⟩=>⟨hb,_,he,WT (.int _ _) (.ifc _ _ _ (.any _))⟩
end Go.Proofs.YtdpfofoinaammaaGreatDoor
namespace Go.Proofs.YtdpfofoinaammaaGreatDoor
open Go.Ab Go.Lib
open Go.ChangeShapes Go.WideShapes Go.ChangeAt Go.RowKit Go.WideElems
mutual
theorem ZU {H:Type}:∀ d:DataW H,Rows.uptoBulk d=blk d
 | .lit (.string _)=>rfl
 | .lit (.bool _)=>rfl
 | .lit (.int _ _)=>rfl
 | .lit (.float _ _)=>rfl
 | .lit .nil=>rfl
 | .nil=>rfl
 | .ptr d=>by simp only[Rows.uptoBulk,blk,ZU d]
 | .slice e s=>by simp only[Rows.uptoBulk,blk,ZM e,ZM s]
 | .agg e=>by simp only[Rows.uptoBulk,blk,ZM e]
 | .iface _ d=>by simp only[Rows.uptoBulk,blk,ZU d]
 | .map e=>by simp only[Rows.uptoBulk,blk,Ug e]
 | .held _=>rfl
theorem ZM {H:Type}:∀ d:List (DataW H),Rows.uptoBulkAll d=yz d
 | []=>rfl
 | d::r=>by simp only[Rows.uptoBulkAll,yz,ZU d,ZM r]
theorem Ug {H:Type}:∀ d:List (Lit×DataW H),Rows.uptoBulkEntries d=Sh d
 | []=>rfl
 | x::r=>by simp only[Rows.uptoBulkEntries,Sh,S8 x,Ug r]
theorem S8 {H:Type}:∀ d:Lit×DataW H,Rows.uptoBulkEntry d=Tz d
 | (.string _,d)=>by simp only[Rows.uptoBulkEntry,Tz,ZU d]
 | (.bool _,d)=>by simp only[Rows.uptoBulkEntry,Tz,ZU d]
 | (.int _ _,d)=>by simp only[Rows.uptoBulkEntry,Tz,ZU d]
 | (.float _ _,d)=>by simp only[Rows.uptoBulkEntry,Tz,ZU d]
 | (.nil,d)=>by simp only[Rows.uptoBulkEntry,Tz,ZU d]
end
def yF (W:World) (g:Nat) (ps:List (Value→Prop)):Prop :=
 (∃(arr:Array Value) (E:TypeId) (fr:Nat×Nat),W.heap[g]?=some (.cells arr E fr)∧arr.size=ps.length)∧∀(j:Nat) (p:Value→Prop),ps[j]?=some p→∃ v,CellIs Vn W g j v∧p v
theorem Yi {W:World} {n:String} {g:Nat} {cs:Array Value} {ps:List (Value→Prop)} (hg:Tryz.prog.globalNamed n=some g) (hv:W.var? Tryz.prog n=some cs) (hl:cs.size=ps.length)
  (h:∀(j:Nat) (p:Value→Prop) v,ps[j]?=some p→cs[j]?=some v→v.oneCell'=true∧p v):yF W g ps:=by
 refine⟨?_,fun j p hp=>?_⟩
 ·have h1:=hv
  simp only[World.var?,hg,Option.bind_some] at h1
  split at h1
  ·rename_i c t fr he
   cases h1
   exact⟨_,_,_,he,hl⟩
  ·cases h1
 ·have hj:j<cs.size:=by
   have:=(yK.1 hp).1
   omega
  have h1:=h j p cs[j] hp (Array.getElem?_eq_getElem hj)
  refine⟨cs[j],⟨?_,trivial,h1.1⟩,h1.2⟩
  rw[World.var?_cell hg hv j,Array.getElem?_eq_getElem hj]
theorem Ym {W:World} {n:String} {g cnt:Nat} {t e:TypeId} {k:IntKind} {zs:List Nat} (hg:Tryz.prog.globalNamed n=some g) (hty:(Tryz.prog.globals[g]?).map (·.type)=some t) (ht:Tryz.prog.underlying t=some (.array cnt e)) (he:Tryz.prog.underlying e=some (.int k)) (hce:Tryz.prog.cellsOf e=1) (hct:Tryz.prog.cellsOf t=cnt)
  (h:VarReads Tryz.prog W n (tabData k (zs.map fun(z:Nat)=>(z:Int)))):yF W g (zs.map fun(z:Nat) (v:Value)=>v=.int k z):=by
 obtain⟨g',t',cs,fuel,p,hg',ht',hvar,hd⟩:=h
 obtain rfl:=Option.some.inj (hg.symm.trans hg')
 obtain rfl:=Option.some.inj (hty.symm.trans ht')
 have hcs:=cells_of_tab ht he hce hct hd
 refine Yi hg hvar (by rw[← Array.length_toList,hcs];simp) fun j p v hp hj=>?_
 rw[← Array.getElem?_toList,hcs] at hj
 simp only[yr,Zh] at hp hj
 obtain⟨z,hz,rfl⟩:=hp
 obtain⟨y,⟨z',hz',rfl⟩,rfl⟩:=hj
 rw[hz] at hz'
 cases hz'
 exact⟨rfl,rfl⟩
theorem OH:U8Extra Tryz.prog Tryz.lays196_ren:=⟨by kernel_rfl,by kernel_rfl,by kernel_rfl,by kernel_rfl,by kernel_rfl,by kernel_rfl,by kernel_rfl⟩
theorem Q1:∀ c:Fin 32,TK[c.val]?=some (if c.val % 2=0 then Lib.accLo (c.val / 2) else Lib.accHi (c.val / 2)):=by decide +kernel
theorem Uu {W : World} (h1 : VarReads Tryz.prog W "unicode/utf8.first" firstData) (h2 : VarReads Tryz.prog W "unicode/utf8.acceptRanges" acceptData) : yF W 1 (TK.map fun (n : Nat) (v : Value) => v = .int .u8 n) := by
 have ht:=utf8Tabs_of_readsT (U8Types.of196 Tryz.lays196) OH h1 h2
 obtain⟨g',t',cs,fuel,p,hg',ht',hvar,hd⟩:=h2
 obtain rfl := Option.some.inj ((show Tryz.prog.globalNamed "unicode/utf8.acceptRanges" = some 1 by kernel_rfl).symm.trans hg')
 obtain rfl:=Option.some.inj (OH.y4.symm.trans ht')
 have hcs:cs.size=32:=by
  have h3:fuel≠0:=fun e=>by subst e;simp[DataW.trod] at hd
  obtain⟨fuel,rfl⟩:=Nat.exists_eq_succ_of_ne_zero h3
  have h4:cs.toList.length=Tryz.prog.cellsOf (Tryz.lays196_ren.t 139):=by
   have hu:=(U8Types.of196 Tryz.lays196).t139
   simp only[DataW.trod,hu,OH.c138] at hd
   split at hd
   ·rename_i hl;simpa using hl
   ·cases hd
  rw[← Array.length_toList,h4];exact(show Tryz.prog.cellsOf (Tryz.lays196_ren.t 139)=32 by kernel_rfl)
 refine Yi hg' hvar (by rw[hcs];rfl) fun j p v hp hj=>?_
 have hj32:j<32:=by rw[← hcs];exact(Zj.1 hj).1
 simp only[yr,Zh] at hp
 obtain⟨z,hz,rfl⟩:=hp
 rw[Q1 ⟨j,hj32⟩] at hz
 cases hz
 have ⟨a1,a2⟩:=ht.2 (j / 2) (by omega)
 rcases Nat.mod_two_eq_zero_or_one j with e|e
 ·have e2:2*(j / 2)=j:=by omega
  rw[e2] at a1
  have h5:=(World.var?_cell hg' hvar j).symm.trans a1
  rw[hj] at h5
  cases h5
  simp[e,Value.oneCell']
 ·have e2:2*(j / 2)+1=j:=by omega
  rw[e2] at a2
  have h5:=(World.var?_cell hg' hvar j).symm.trans a2
  rw[hj] at h5
  cases h5
  simp[e,Value.oneCell']
theorem VX {W:World} {n:String} {g:Nat} {t:TypeId} {s:String} {d:DataW Unit} (hg:Tryz.prog.globalNamed n=some g) (hty:(Tryz.prog.globals[g]?).map (·.type)=some t) {ms:Array (String×TypeId)} (hu:Tryz.prog.underlying t=some (.interface ms)) (h:VarReads Tryz.prog W n (.iface s d)):yF W g [fun v=>∃ te pe,v=.iface te pe]:=by
 obtain⟨g',t',cs,fuel,p,hg',ht',hvar,hd⟩:=h
 obtain rfl:=Option.some.inj (hg.symm.trans hg')
 obtain rfl:=Option.some.inj (hty.symm.trans ht')
 have h1:∃ te pe,cs.toList=[.iface te pe]:=by
  cases fuel with
  | zero=>simp[DataW.trod] at hd
  | succ fuel =>
   simp only[DataW.trod,hu] at hd
   split at hd
   all_goals first
    | (cases hd;done)
    | skip
   all_goals simp_all
   done
 obtain⟨te,pe,he⟩:=h1
 refine Yi hg hvar (by rw[← Array.length_toList,he];rfl) fun j p v hp hj=>?_
 rw[← Array.getElem?_toList,he] at hj
 match j,hp,hj with
 | 0,hp,hj=>cases hp;cases hj;exact⟨rfl,_,_,rfl⟩
 | j+1,hp,hj=>simp at hp
theorem Sz {W:World} (hS:W.ShapedOpen Tryz.prog) {g:Nat} {z:Array Value} {t:TypeId} {k:IntKind} (hg:g<Tryz.prog.globals.size) (h0:(((begin Tryz.prog (fun _ _=>0) default).world.heap[g]?).bind Obj.row?)=some (z,t)) (hz:z.size=1) (hb:Tryz.prog.buildable t=true)
  (hts:Tryz.prog.cellTypes Tryz.prog.depth t=some [t]) (ht:Tryz.prog.underlying t=some (.int k)):yF W g [fun v=>∃ m,v=.int k m]:=by
 obtain⟨cs,h1,h2,h3⟩:=hS.1 g z t hg h0
 have hsz:cs.size=1:=by rw[h2,hz]
 obtain⟨ts,hts',_,hall⟩:=h3 hb
 rw[hts] at hts'
 cases hts'
 have h4:cs[0]?=some cs[0]:=Array.getElem?_eq_getElem (by omega)
 obtain⟨u,hu,hc⟩:=hall 0 cs[0] h4
 cases hu
 have h5:∃ m,cs[0]=.int k m:=by
  unfold Cell.ok at hc
  rw[ht] at hc
  generalize cs[0]=v at hc
  cases v<;>first|exact hc.elim|(obtain⟨rfl,_⟩:=hc;exact⟨_,rfl⟩)
 obtain⟨m,hm⟩:=h5
 refine⟨⟨cs,t,_,h1,hsz⟩,fun j p hp=>?_⟩
 match j,hp with
 | 0,hp =>
  cases hp
  refine⟨.int k m,⟨?_,trivial,rfl⟩,m,rfl⟩
  unfold World.cell?
  simp only[h1,h4,hm]
  simp
 | j+1,hp=>simp at hp
abbrev Mj:List Nat:=[1,10,100,1000,10000,100000,1000000,10000000,100000000,1000000000,10000000000,100000000000,1000000000000,10000000000000,100000000000000,1000000000000000,10000000000000000,100000000000000000,1000000000000000000,10000000000000000000]
abbrev N8:List Nat:=[0,1,28,2,29,14,24,3,30,22,20,15,25,17,4,8,31,27,13,23,21,19,16,7,26,12,18,6,11,5,10,9]
abbrev Mv:List Nat:=[0,1,56,2,57,49,28,3,61,58,42,50,38,29,17,4,62,47,59,36,45,43,51,22,53,39,33,30,24,18,12,5,63,55,48,27,60,41,37,16,46,35,44,21,52,32,23,11,54,26,40,15,34,20,31,10,25,14,19,9,13,8,7,6]
abbrev V8 : List (String × DataW Unit) := [("strconv.ErrSyntax", Rows.laid_strconv_ErrSyntax), ("strconv.ErrRange", Rows.laid_strconv_ErrRange), ("internal/strconv.uint64pow10", Rows.laid_internal_strconv_uint64pow10), ("math/bits.deBruijn32tab", Rows.laid_math_bits_deBruijn32tab), ("math/bits.deBruijn64tab", Rows.laid_math_bits_deBruijn64tab), ("unicode/utf8.first", Rows.laid_unicode_utf8_first), ("unicode/utf8.acceptRanges", Rows.laid_unicode_utf8_acceptRanges)]
theorem Sw {W:World} (hL:laidMetH Tryz.prog V8 W) (hS:W.ShapedOpen Tryz.prog):y1 Vn W:=by
 have hL':laidMet Tryz.prog V8 W:=hL
 have m1 : VarReads Tryz.prog W "unicode/utf8.first" (tabData .u8 (Go.Pinned.utf8FirstZ.map fun (z : Nat) => (z : Int))) := laidMet.reads hL' (d := Rows.laid_unicode_utf8_first) (by repeat (first | exact .head _ | refine .tail _ ?_))
 have m2 : VarReads Tryz.prog W "unicode/utf8.acceptRanges" acceptData := laidMet.reads hL' (d := Rows.laid_unicode_utf8_acceptRanges) (by repeat (first | exact .head _ | refine .tail _ ?_))
 have m3 : VarReads Tryz.prog W "internal/strconv.uint64pow10" (tabData .u64 (Mj.map fun (z : Nat) => (z : Int))) := laidMet.reads hL' (d := Rows.laid_internal_strconv_uint64pow10) (by repeat (first | exact .head _ | refine .tail _ ?_))
 have m4 : VarReads Tryz.prog W "math/bits.deBruijn32tab" (tabData .u8 (N8.map fun (z : Nat) => (z : Int))) := laidMet.reads hL' (d := Rows.laid_math_bits_deBruijn32tab) (by repeat (first | exact .head _ | refine .tail _ ?_))
 have m5 : VarReads Tryz.prog W "math/bits.deBruijn64tab" (tabData .u8 (Mv.map fun (z : Nat) => (z : Int))) := laidMet.reads hL' (d := Rows.laid_math_bits_deBruijn64tab) (by repeat (first | exact .head _ | refine .tail _ ?_))
 have m6 : VarReads Tryz.prog W "strconv.ErrSyntax" Rows.laid_strconv_ErrSyntax := laidMet.reads hL' (by repeat (first | exact .head _ | refine .tail _ ?_))
 have m7 : VarReads Tryz.prog W "strconv.ErrRange" Rows.laid_strconv_ErrRange := laidMet.reads hL' (by repeat (first | exact .head _ | refine .tail _ ?_))
 have m8:firstData=tabData .u8 (Go.Pinned.utf8FirstZ.map fun(z:Nat)=>(z:Int)):=by kernel_rfl
 have e1:yF W 0 (Go.Pinned.utf8FirstZ.map fun(n:Nat) (v:Value)=>v=.int .u8 n) :=
  Ym (t:=Tryz.lays196_ren.t 119) OH.n3 OH.y3 (U8Types.of196 Tryz.lays196).t119 (U8Types.of196 Tryz.lays196).t5 OH.c5 OH.c119 m1
 have e2:yF W 1 (TK.map fun(n:Nat) (v:Value)=>v=.int .u8 n):=Uu (m8▸m1) m2
 have e3:yF W 2 (Mj.map fun(n:Nat) (v:Value)=>v=.int .u64 n) :=
  Ym (t:=448) (e:=339) (cnt:=20) (by kernel_rfl) (by kernel_rfl) (by kernel_rfl) (by kernel_rfl) (by kernel_rfl) (by kernel_rfl) m3
 have e4:yF W 4 (N8.map fun(n:Nat) (v:Value)=>v=.int .u8 n) :=
  Ym (t:=557) (e:=5) (cnt:=32) (by kernel_rfl) (by kernel_rfl) (by kernel_rfl) (by kernel_rfl) (by kernel_rfl) (by kernel_rfl) m4
 have e5:yF W 5 (Mv.map fun(n:Nat) (v:Value)=>v=.int .u8 n) :=
  Ym (t:=558) (e:=5) (cnt:=64) (by kernel_rfl) (by kernel_rfl) (by kernel_rfl) (by kernel_rfl) (by kernel_rfl) (by kernel_rfl) m5
 have e6:yF W 6 [fun v=>∃ te pe,v=.iface te pe]:=VX (t:=492) (by kernel_rfl) (by kernel_rfl) Tryz.underlying492 m6
 have e7:yF W 7 [fun v=>∃ te pe,v=.iface te pe]:=VX (t:=492) (by kernel_rfl) (by kernel_rfl) Tryz.underlying492 m7
 have e8:yF W 3 [fun v=>∃ m,v=.int .i64 m]:=Sz hS (z:=#[.int .i64 0]) (t:=3) (of_decide_eq_true (by kernel_rfl)) (by kernel_rfl) rfl (by kernel_rfl) (by kernel_rfl) (by kernel_rfl)
 intro x hx
 unfold Qa at hx
 simp only[List.mem_cons,List.not_mem_nil,or_false] at hx
 rcases hx with rfl|rfl|rfl|rfl|rfl|rfl|rfl|rfl<;>first|exact e1|exact e2|exact e3|exact e4|exact e5|exact e6|exact e7|exact e8
noncomputable abbrev N0:Nat:=(World.settled Tryz.prog default).heap.size
noncomputable def laidWorld (os:Os):World :=
 let w0:=World.holding Tryz.prog os ⟨#[.cells #[.string ⟨#[105,110,118,97,108,105,100,32,115,121,110,116,97,120]⟩] 611,.cells #[.string ⟨#[118,97,108,117,101,32,111,117,116,32,111,102,32,114,97,110,103,101]⟩] 611],#[],[]⟩
 let put (h:Array Obj) (g:Nat) (cs:Array Value):Array Obj:=h.modify g fun
  | .cells _ t frozen=>.cells cs t frozen
  | o=>o
 let h1:=put w0.heap 0 (Go.Pinned.utf8FirstZ.map fun(z:Nat)=>Value.int .u8 z).toArray
 let h2:=put h1 1 (TK.map fun(z:Nat)=>Value.int .u8 z).toArray
 let h3:=put h2 2 (Mj.map fun(z:Nat)=>Value.int .u64 z).toArray
 let h4:=put h3 4 (N8.map fun(z:Nat)=>Value.int .u8 z).toArray
 let h5:=put h4 5 (Mv.map fun(z:Nat)=>Value.int .u8 z).toArray
 let h6:=put h5 6 #[.iface 609 (.pointer (some ⟨(World.settled Tryz.prog os).heap.size,0,none⟩))]
 let h7:=put h6 7 #[.iface 609 (.pointer (some ⟨(World.settled Tryz.prog os).heap.size+1,0,none⟩))]
 { w0 with heap:=h7 }
theorem laid_met (os:Os) (args:Array Value):laidMet Tryz.prog V8 ((laidWorld os).forCall (fun _ _=>0) ⟨#[],args,[]⟩).memory :=
 (LaidIn.of_run (l:=V8) [0,1,2,3,4,5,6,7,N0,N0+1] 8 (by kernel_rfl) (by kernel_rfl) (by kernel_rfl) (by kernel_rfl)).met
end Go.Proofs.YtdpfofoinaammaaGreatDoor
