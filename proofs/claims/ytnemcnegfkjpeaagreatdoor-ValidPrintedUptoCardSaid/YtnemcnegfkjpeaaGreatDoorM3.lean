import Derived.Shelf.Strings.Builder1
import Derived.Shelf.Strings.Builder2
import Derived.Shelf.Strings.OnBuilder
import Derived.Shelf.Small.Utf8
import Derived.Shelf.Small.Strs
import Derived.Shelf.Small.Wraps
import Derived.Shelf.Strings.BuilderF
import Derived.Shelf.Strings.BuilderK
import Derived.Shelf.Utf8.AppendRune
import Derived.Shelf.Strconv.Itoa0
import Derived.Shelf.Strconv.Itoa1
import Derived.Shelf.LaysM
import Derived.Shelf.Strconv.Itoa2
import Derived.Shelf.Strconv.Itoa3
import Derived.Shelf.Strconv.Itoa4
import Derived.Shelf.Strconv.ParseIntEmpty
import Derived.Shelf.Strconv.Clone
import Derived.Shelf.Strconv.SyntaxError
import Derived.Shelf.LaysC
import Derived.Shelf.Strconv.ToError
import Derived.Shelf.Strconv.Lower
import Derived.Shelf.Strconv.ParseUint10
import Derived.Shelf.Strconv.ParseUint10Empty
import Derived.Shelf.Strconv.ParseUint10Any
import Derived.Shelf.Strconv.ParseInt10
import Derived.Shelf.Strconv.RangeError
import Derived.Shelf.Strconv.ToErrorRange
import Derived.Shelf.Strconv.ParseUintEmpty
import Derived.Shelf.Strconv.ParseUint10b64
import Derived.Shelf.Strconv.ParseUint10b32
import Derived.Shelf.Strconv.ParseUint10b16
import Derived.Shelf.Strconv.ParseUint10b8
import Derived.Shelf.Strconv.ParseUint10At
import Derived.Shelf.Strconv.ParseInt10At64
import Derived.Shelf.Strconv.ParseInt10At32
import Derived.Shelf.Strconv.ParseInt10At16
import Derived.Shelf.Strconv.ParseInt10At8
import Derived.Shelf.Strconv.ParseInt10All
import Derived.Shelf.Strconv.ParseIntPublic10
import Derived.Shelf.Strconv.ErrVarParseInt
import Derived.Shelf.Strings.Search1
import Derived.Shelf.Strings.Search2
import Derived.Shelf.Strings.Search3
import Derived.Shelf.Strings.Shaped
import Derived.Shelf.Strings.Prefix
import Derived.Shelf.Unicode.Decode
import Derived.Shelf.Strings.Runes
import Derived.Shelf.Strings.IndexAny
import Derived.Shelf.Strings.AsciiSet
import Derived.Shelf.Strings.IndexAnyAll
import Derived.Shelf.Unicode.DecodeSlow
import Derived.Shelf.Unicode.DecodeAny
import Derived.Ground.Names2Prog
import Derived.Shelf.Slices.ReverseS
import Derived.Shelf.Slices.Cells
import Derived.Test.YtnemcnegfkjpeaaGreatDoorProg
import Derived.Shelf.Unicode.ValidAny
import Derived.Test.YtnemcnegfkjpeaaGreatDoorCards
import Derived.Test.YtnemcnegfkjpeaaGreatDoorTie
import Derived.Lib.LaidIn
import Derived.Lib.LaidU8T
import Derived.Lib.LaidTab
import Derived.Deep.DeepHandedRow
import Derived.Deep.DeepWitnessRowRef
import Derived.ProofKit
import Derived.SizedLaws
import Derived.OpenShut
import Derived.Test.YtnemcnegfkjpeaaGreatDoorM2
set_option maxRecDepth 100000
set_option linter.all false
namespace Go.Proofs
open Go.Shelf
def Tryz.lays156_ren:Go.Shelf.Ren:=⟨λ|156=>42|165=>97|166=>98|169=>99|240=>179|241=>180|276=>268|277=>269|n=>n,λ|31=>62|9=>9|3=>3|4=>4|0=>0|20=>20|72=>156|76=>160|70=>154|37=>147|75=>159|127=>223|164=>278|5=>5|80=>162|n=>n,λ|n=>n⟩
def Tryz.lays156:Go.Proofs.Lays.n156 Tryz.prog Tryz.lays156_ren:={
 mixed:=by kernel_rfl
 f156:=Tryz.func42.trans (congrArg some (by kernel_rfl))
 f165:=Tryz.func97.trans (congrArg some (by kernel_rfl))
 f166:=Tryz.func98.trans (congrArg some (by kernel_rfl))
 f169:=Tryz.func99.trans (congrArg some (by kernel_rfl))
 f240:=Tryz.func179.trans (congrArg some (by kernel_rfl))
 f241:=Tryz.func180.trans (congrArg some (by kernel_rfl))
 f276:=Tryz.func268.trans (congrArg some (by kernel_rfl))
 f277:=Tryz.func269.trans (congrArg some (by kernel_rfl))
 t0:=Tryz.underlying0
 a0:=Tryz.isAgg0
 z0:=Tryz.sizeOf0
 v0:=Tryz.zeroValue0
 t3:=Tryz.underlying3
 a3:=Tryz.isAgg3
 z3:=Tryz.sizeOf3
 v3:=Tryz.zeroValue3
 t4:=Tryz.underlying4
 a4:=Tryz.isAgg4
 z4:=Tryz.sizeOf4
 v4:=Tryz.zeroValue4
 t9:=Tryz.underlying9
 a9:=Tryz.isAgg9
 z9:=Tryz.sizeOf9
 v9:=Tryz.zeroValue9
 t20:=Tryz.underlying20
 a20:=Tryz.isAgg20
 z20:=Tryz.sizeOf20
 v20:=Tryz.zeroValue20
 t31:=Tryz.underlying62
 a31:=Tryz.isAgg62
 z31:=Tryz.sizeOf62
 v31:=Tryz.zeroValue62
 t37:=Tryz.underlying147
 a37:=Tryz.isAgg147
 z37:=Tryz.sizeOf147
 v37:=Tryz.zeroValue147
 t70:=Tryz.underlying154
 a70:=Tryz.isAgg154
 z70:=Tryz.sizeOf154
 v70:=Tryz.zeroValue154
 t72:=Tryz.underlying156
 a72:=Tryz.isAgg156
 z72:=Tryz.sizeOf156
 v72:=Tryz.zeroValue156
 t75:=Tryz.underlying159
 a75:=Tryz.isAgg159
 z75:=Tryz.sizeOf159
 v75:=Tryz.zeroValue159
 t76:=Tryz.underlying160
 a76:=Tryz.isAgg160
 z76:=Tryz.sizeOf160
 v76:=Tryz.zeroValue160
 t127:=Tryz.underlying223
 a127:=Tryz.isAgg223
 z127:=Tryz.sizeOf223
 v127:=Tryz.zeroValue223
 t164:=Tryz.underlying278
 a164:=Tryz.isAgg278
 z164:=Tryz.sizeOf278
 v164:=Tryz.zeroValue278 }
def Tryz.lays137_ren:Go.Shelf.Ren:=⟨λ|137=>187|217=>278|266=>318|n=>n,λ|9=>9|5=>5|3=>3|n=>n,λ|n=>n⟩
def Tryz.lays137:Go.Proofs.Lays.n137 Tryz.prog Tryz.lays137_ren:={
 mixed:=by kernel_rfl
 f137:=Tryz.func187.trans (congrArg some (by kernel_rfl))
 f217:=Tryz.func278.trans (congrArg some (by kernel_rfl))
 f266:=Tryz.func318.trans (congrArg some (by kernel_rfl))
 t3:=Tryz.underlying3
 a3:=Tryz.isAgg3
 z3:=Tryz.sizeOf3
 v3:=Tryz.zeroValue3
 t5:=Tryz.underlying5
 a5:=Tryz.isAgg5
 z5:=Tryz.sizeOf5
 v5:=Tryz.zeroValue5
 t9:=Tryz.underlying9
 a9:=Tryz.isAgg9
 z9:=Tryz.sizeOf9
 v9:=Tryz.zeroValue9 }
def Tryz.laysM173_ren:Go.Shelf.Ren:=⟨λ|173=>330|246=>346|283=>358|284=>359|285=>360|286=>361|129=>369|317=>368|318=>370|319=>371|320=>372|337=>375|338=>376|n=>n,λ|2=>2|3=>3|9=>9|4=>4|171=>354|0=>0|53=>312|37=>147|5=>5|173=>357|212=>364|51=>332|20=>20|213=>365|46=>277|232=>372|233=>373|n=>n,λ|17=>5|18=>6|19=>7|n=>n⟩
def Tryz.laysM173:Go.Proofs.LaysM.n173 Tryz.prog Tryz.laysM173_ren:={
 mixed:=by kernel_rfl
 f129:=Tryz.func369.trans (congrArg some (by kernel_rfl))
 f173:=Tryz.func330.trans (congrArg some (by kernel_rfl))
 f246:=Tryz.func346.trans (congrArg some (by kernel_rfl))
 f283:=Tryz.func358.trans (congrArg some (by kernel_rfl))
 f284:=Tryz.func359.trans (congrArg some (by kernel_rfl))
 f285:=Tryz.func360.trans (congrArg some (by kernel_rfl))
 f286:=Tryz.func361.trans (congrArg some (by kernel_rfl))
 f317:=Tryz.func368.trans (congrArg some (by kernel_rfl))
 f318:=Tryz.func370.trans (congrArg some (by kernel_rfl))
 f319:=Tryz.func371.trans (congrArg some (by kernel_rfl))
 f320:=Tryz.func372.trans (congrArg some (by kernel_rfl))
 f337:=Tryz.func375.trans (congrArg some (by kernel_rfl))
 f338:=Tryz.func376.trans (congrArg some (by kernel_rfl))
 t0:=Tryz.underlying0
 a0:=Tryz.isAgg0
 z0:=Tryz.sizeOf0
 v0:=Tryz.zeroValue0
 t2:=Tryz.underlying2
 a2:=Tryz.isAgg2
 z2:=Tryz.sizeOf2
 v2:=Tryz.zeroValue2
 t3:=Tryz.underlying3
 a3:=Tryz.isAgg3
 z3:=Tryz.sizeOf3
 v3:=Tryz.zeroValue3
 t4:=Tryz.underlying4
 a4:=Tryz.isAgg4
 z4:=Tryz.sizeOf4
 v4:=Tryz.zeroValue4
 t5:=Tryz.underlying5
 a5:=Tryz.isAgg5
 z5:=Tryz.sizeOf5
 v5:=Tryz.zeroValue5
 t9:=Tryz.underlying9
 a9:=Tryz.isAgg9
 z9:=Tryz.sizeOf9
 v9:=Tryz.zeroValue9
 t20:=Tryz.underlying20
 a20:=Tryz.isAgg20
 z20:=Tryz.sizeOf20
 v20:=Tryz.zeroValue20
 t37:=Tryz.underlying147
 a37:=Tryz.isAgg147
 z37:=Tryz.sizeOf147
 v37:=Tryz.zeroValue147
 t46:=Tryz.underlying277
 a46:=Tryz.isAgg277
 z46:=Tryz.sizeOf277
 v46:=Tryz.zeroValue277
 t51:=Tryz.underlying332
 a51:=Tryz.isAgg332
 z51:=Tryz.sizeOf332
 v51:=Tryz.zeroValue332
 t53:=Tryz.underlying312
 a53:=Tryz.isAgg312
 z53:=Tryz.sizeOf312
 v53:=Tryz.zeroValue312
 t171:=Tryz.underlying354
 a171:=Tryz.isAgg354
 z171:=Tryz.sizeOf354
 v171:=Tryz.zeroValue354
 t173:=Tryz.underlying357
 a173:=Tryz.isAgg357
 z173:=Tryz.sizeOf357
 v173:=Tryz.zeroValue357
 t212:=Tryz.underlying364
 a212:=Tryz.isAgg364
 z212:=Tryz.sizeOf364
 v212:=Tryz.zeroValue364
 t213:=Tryz.underlying365
 a213:=Tryz.isAgg365
 z213:=Tryz.sizeOf365
 t232:=Tryz.underlying372
 a232:=Tryz.isAgg372
 z232:=Tryz.sizeOf372
 v232:=Tryz.zeroValue372
 t233:=Tryz.underlying373
 a233:=Tryz.isAgg373
 z233:=Tryz.sizeOf373
 v233:=Tryz.zeroValue373
 g17:=by kernel_rfl
 g18:=by kernel_rfl
 g19:=by kernel_rfl
 i0:=by kernel_rfl
 i2:=by kernel_rfl
 i3:=by kernel_rfl
 i4:=by kernel_rfl
 i5:=by kernel_rfl
 i9:=by kernel_rfl
 i20:=by kernel_rfl
 i37:=by kernel_rfl
 i46:=by kernel_rfl
 i51:=by kernel_rfl
 i53:=by kernel_rfl
 i171:=by kernel_rfl
 i173:=by kernel_rfl
 i212:=by kernel_rfl
 i232:=by kernel_rfl
 i233:=by kernel_rfl
 m17:=by kernel_rfl
 m18:=by kernel_rfl
 m19:=by kernel_rfl }
def Tryz.laysC174_ren:Go.Shelf.Ren:=⟨λ|174=>319|247=>335|245=>336|287=>348|279=>349|280=>350|281=>351|282=>352|321=>362|322=>363|316=>364|171=>366|205=>365|243=>373|246=>346|283=>358|284=>359|285=>360|286=>361|129=>369|317=>368|318=>370|319=>371|320=>372|337=>375|338=>376|n=>n,λ|9=>9|3=>3|2=>2|75=>159|85=>320|4=>4|167=>342|5=>5|53=>312|175=>343|46=>277|168=>345|37=>147|0=>0|210=>361|21=>21|127=>223|145=>369|143=>367|171=>354|173=>357|212=>364|51=>332|20=>20|213=>365|232=>372|233=>373|80=>162|n=>n,λ|15=>3|16=>4|17=>5|18=>6|19=>7|n=>n⟩
def Tryz.laysC174:Go.Proofs.LaysC.n174 Tryz.prog Tryz.laysC174_ren:={
 mixed:=by kernel_rfl
 f129:=Tryz.func369.trans (congrArg some (by kernel_rfl))
 f171:=Tryz.func366.trans (congrArg some (by kernel_rfl))
 f174:=Tryz.func319.trans (congrArg some (by kernel_rfl))
 f205:=Tryz.func365.trans (congrArg some (by kernel_rfl))
 f243:=Tryz.func373.trans (congrArg some (by kernel_rfl))
 f245:=Tryz.func336.trans (congrArg some (by kernel_rfl))
 f246:=Tryz.func346.trans (congrArg some (by kernel_rfl))
 f247:=Tryz.func335.trans (congrArg some (by kernel_rfl))
 f279:=Tryz.func349.trans (congrArg some (by kernel_rfl))
 f280:=Tryz.func350.trans (congrArg some (by kernel_rfl))
 f281:=Tryz.func351.trans (congrArg some (by kernel_rfl))
 f282:=Tryz.func352.trans (congrArg some (by kernel_rfl))
 f283:=Tryz.func358.trans (congrArg some (by kernel_rfl))
 f284:=Tryz.func359.trans (congrArg some (by kernel_rfl))
 f285:=Tryz.func360.trans (congrArg some (by kernel_rfl))
 f286:=Tryz.func361.trans (congrArg some (by kernel_rfl))
 f287:=Tryz.func348.trans (congrArg some (by kernel_rfl))
 f316:=Tryz.func364.trans (congrArg some (by kernel_rfl))
 f317:=Tryz.func368.trans (congrArg some (by kernel_rfl))
 f318:=Tryz.func370.trans (congrArg some (by kernel_rfl))
 f319:=Tryz.func371.trans (congrArg some (by kernel_rfl))
 f320:=Tryz.func372.trans (congrArg some (by kernel_rfl))
 f321:=Tryz.func362.trans (congrArg some (by kernel_rfl))
 f322:=Tryz.func363.trans (congrArg some (by kernel_rfl))
 f337:=Tryz.func375.trans (congrArg some (by kernel_rfl))
 f338:=Tryz.func376.trans (congrArg some (by kernel_rfl))
 t0:=Tryz.underlying0
 a0:=Tryz.isAgg0
 z0:=Tryz.sizeOf0
 v0:=Tryz.zeroValue0
 t2:=Tryz.underlying2
 a2:=Tryz.isAgg2
 z2:=Tryz.sizeOf2
 v2:=Tryz.zeroValue2
 t3:=Tryz.underlying3
 a3:=Tryz.isAgg3
 z3:=Tryz.sizeOf3
 v3:=Tryz.zeroValue3
 t4:=Tryz.underlying4
 a4:=Tryz.isAgg4
 z4:=Tryz.sizeOf4
 v4:=Tryz.zeroValue4
 t5:=Tryz.underlying5
 a5:=Tryz.isAgg5
 z5:=Tryz.sizeOf5
 v5:=Tryz.zeroValue5
 t9:=Tryz.underlying9
 a9:=Tryz.isAgg9
 z9:=Tryz.sizeOf9
 v9:=Tryz.zeroValue9
 t20:=Tryz.underlying20
 a20:=Tryz.isAgg20
 z20:=Tryz.sizeOf20
 v20:=Tryz.zeroValue20
 t21:=Tryz.underlying21
 a21:=Tryz.isAgg21
 z21:=Tryz.sizeOf21
 v21:=Tryz.zeroValue21
 t37:=Tryz.underlying147
 a37:=Tryz.isAgg147
 z37:=Tryz.sizeOf147
 v37:=Tryz.zeroValue147
 t46:=Tryz.underlying277
 a46:=Tryz.isAgg277
 z46:=Tryz.sizeOf277
 v46:=Tryz.zeroValue277
 t51:=Tryz.underlying332
 a51:=Tryz.isAgg332
 z51:=Tryz.sizeOf332
 v51:=Tryz.zeroValue332
 t53:=Tryz.underlying312
 a53:=Tryz.isAgg312
 z53:=Tryz.sizeOf312
 v53:=Tryz.zeroValue312
 t75:=Tryz.underlying159
 a75:=Tryz.isAgg159
 z75:=Tryz.sizeOf159
 v75:=Tryz.zeroValue159
 t85:=Tryz.underlying320
 a85:=Tryz.isAgg320
 z85:=Tryz.sizeOf320
 v85:=Tryz.zeroValue320
 t127:=Tryz.underlying223
 a127:=Tryz.isAgg223
 z127:=Tryz.sizeOf223
 v127:=Tryz.zeroValue223
 t143:=Tryz.underlying367
 a143:=Tryz.isAgg367
 z143:=Tryz.sizeOf367
 v143:=Tryz.zeroValue367
 t145:=Tryz.underlying369
 a145:=Tryz.isAgg369
 z145:=Tryz.sizeOf369
 v145:=Tryz.zeroValue369
 t167:=Tryz.underlying342
 a167:=Tryz.isAgg342
 z167:=Tryz.sizeOf342
 v167:=Tryz.zeroValue342
 t168:=Tryz.underlying345
 a168:=Tryz.isAgg345
 z168:=Tryz.sizeOf345
 v168:=Tryz.zeroValue345
 t171:=Tryz.underlying354
 a171:=Tryz.isAgg354
 z171:=Tryz.sizeOf354
 v171:=Tryz.zeroValue354
 t173:=Tryz.underlying357
 a173:=Tryz.isAgg357
 z173:=Tryz.sizeOf357
 v173:=Tryz.zeroValue357
 t175:=Tryz.underlying343
 a175:=Tryz.isAgg343
 z175:=Tryz.sizeOf343
 v175:=Tryz.zeroValue343
 t210:=Tryz.underlying361
 a210:=Tryz.isAgg361
 z210:=Tryz.sizeOf361
 v210:=Tryz.zeroValue361
 t212:=Tryz.underlying364
 a212:=Tryz.isAgg364
 z212:=Tryz.sizeOf364
 v212:=Tryz.zeroValue364
 t213:=Tryz.underlying365
 a213:=Tryz.isAgg365
 z213:=Tryz.sizeOf365
 t232:=Tryz.underlying372
 a232:=Tryz.isAgg372
 z232:=Tryz.sizeOf372
 v232:=Tryz.zeroValue372
 t233:=Tryz.underlying373
 a233:=Tryz.isAgg373
 z233:=Tryz.sizeOf373
 v233:=Tryz.zeroValue373
 g15:=by kernel_rfl
 g16:=by kernel_rfl
 g17:=by kernel_rfl
 g18:=by kernel_rfl
 g19:=by kernel_rfl
 t80:=Tryz.underlying162
 a80:=Tryz.isAgg162
 z80:=Tryz.sizeOf162
 v80:=Tryz.zeroValue162
 i0:=by kernel_rfl
 i2:=by kernel_rfl
 i3:=by kernel_rfl
 i4:=by kernel_rfl
 i5:=by kernel_rfl
 i9:=by kernel_rfl
 i20:=by kernel_rfl
 i21:=by kernel_rfl
 i37:=by kernel_rfl
 i46:=by kernel_rfl
 i51:=by kernel_rfl
 i53:=by kernel_rfl
 i75:=by kernel_rfl
 i80:=by kernel_rfl
 i85:=by kernel_rfl
 i127:=by kernel_rfl
 i143:=by kernel_rfl
 i145:=by kernel_rfl
 i167:=by kernel_rfl
 i168:=by kernel_rfl
 i171:=by kernel_rfl
 i173:=by kernel_rfl
 i175:=by kernel_rfl
 i210:=by kernel_rfl
 i212:=by kernel_rfl
 i232:=by kernel_rfl
 i233:=by kernel_rfl
 m15:=by kernel_rfl
 m16:=by kernel_rfl
 m17:=by kernel_rfl
 m18:=by kernel_rfl
 m19:=by kernel_rfl
 c0:=by kernel_rfl
 c2:=by kernel_rfl
 c3:=by kernel_rfl
 c4:=by kernel_rfl
 c5:=by kernel_rfl
 c9:=by kernel_rfl
 c20:=by kernel_rfl
 c21:=by kernel_rfl
 c37:=by kernel_rfl
 c46:=by kernel_rfl
 c51:=by kernel_rfl
 c53:=by kernel_rfl
 c75:=by kernel_rfl
 c80:=by kernel_rfl
 c85:=by kernel_rfl
 c127:=by kernel_rfl
 c143:=by kernel_rfl
 c145:=by kernel_rfl
 c167:=by kernel_rfl
 c168:=by kernel_rfl
 c171:=by kernel_rfl
 c173:=by kernel_rfl
 c175:=by kernel_rfl
 c210:=by kernel_rfl
 c212:=by kernel_rfl
 c213:=by kernel_rfl
 c232:=by kernel_rfl
 c233:=by kernel_rfl }
def Tryz.lays144_ren:Go.Shelf.Ren:=⟨λ|144=>90|143=>173|219=>262|217=>278|225=>309|224=>310|267=>311|266=>318|314=>332|n=>n,λ|9=>9|4=>4|3=>3|5=>5|46=>277|146=>333|51=>332|n=>n,λ|1=>2|n=>n⟩
def Tryz.lays144:Go.Proofs.Lays.n144 Tryz.prog Tryz.lays144_ren:={
 mixed:=by kernel_rfl
 f143:=Tryz.func173.trans (congrArg some (by kernel_rfl))
 f144:=Tryz.func90.trans (congrArg some (by kernel_rfl))
 f217:=Tryz.func278.trans (congrArg some (by kernel_rfl))
 f219:=Tryz.func262.trans (congrArg some (by kernel_rfl))
 f224:=Tryz.func310.trans (congrArg some (by kernel_rfl))
 f225:=Tryz.func309.trans (congrArg some (by kernel_rfl))
 f266:=Tryz.func318.trans (congrArg some (by kernel_rfl))
 f267:=Tryz.func311.trans (congrArg some (by kernel_rfl))
 f314:=Tryz.func332.trans (congrArg some (by kernel_rfl))
 t3:=Tryz.underlying3
 a3:=Tryz.isAgg3
 z3:=Tryz.sizeOf3
 v3:=Tryz.zeroValue3
 t4:=Tryz.underlying4
 a4:=Tryz.isAgg4
 z4:=Tryz.sizeOf4
 v4:=Tryz.zeroValue4
 t5:=Tryz.underlying5
 a5:=Tryz.isAgg5
 z5:=Tryz.sizeOf5
 v5:=Tryz.zeroValue5
 t9:=Tryz.underlying9
 a9:=Tryz.isAgg9
 z9:=Tryz.sizeOf9
 v9:=Tryz.zeroValue9
 t46:=Tryz.underlying277
 a46:=Tryz.isAgg277
 z46:=Tryz.sizeOf277
 v46:=Tryz.zeroValue277
 t51:=Tryz.underlying332
 a51:=Tryz.isAgg332
 z51:=Tryz.sizeOf332
 v51:=Tryz.zeroValue332
 t146:=Tryz.underlying333
 a146:=Tryz.isAgg333
 z146:=Tryz.sizeOf333
 v146:=Tryz.zeroValue333
 g1:=by kernel_rfl }
def Tryz.lays99_ren:Go.Shelf.Ren:=⟨λ|99=>182|206=>270|n=>n,λ|9=>9|4=>4|3=>3|n=>n,λ|n=>n⟩
def Tryz.lays99:Go.Proofs.Lays.n99 Tryz.prog Tryz.lays99_ren:={
 mixed:=by kernel_rfl
 f99:=Tryz.func182.trans (congrArg some (by kernel_rfl))
 f206:=Tryz.func270.trans (congrArg some (by kernel_rfl))
 t3:=Tryz.underlying3
 a3:=Tryz.isAgg3
 z3:=Tryz.sizeOf3
 v3:=Tryz.zeroValue3
 t4:=Tryz.underlying4
 a4:=Tryz.isAgg4
 z4:=Tryz.sizeOf4
 v4:=Tryz.zeroValue4
 t9:=Tryz.underlying9
 a9:=Tryz.isAgg9
 z9:=Tryz.sizeOf9
 v9:=Tryz.zeroValue9 }
def Tryz.lays197_ren:Go.Shelf.Ren:=⟨λ|197=>178|260=>267|n=>n,λ|9=>9|21=>21|3=>3|4=>4|5=>5|105=>221|119=>273|0=>0|46=>277|139=>276|138=>275|n=>n,λ|3=>0|4=>1|n=>n⟩
def Tryz.lays197:Go.Proofs.Lays.n197 Tryz.prog Tryz.lays197_ren:={
 mixed:=by kernel_rfl
 f197:=Tryz.func178.trans (congrArg some (by kernel_rfl))
 f260:=Tryz.func267.trans (congrArg some (by kernel_rfl))
 t0:=Tryz.underlying0
 a0:=Tryz.isAgg0
 z0:=Tryz.sizeOf0
 v0:=Tryz.zeroValue0
 t3:=Tryz.underlying3
 a3:=Tryz.isAgg3
 z3:=Tryz.sizeOf3
 v3:=Tryz.zeroValue3
 t4:=Tryz.underlying4
 a4:=Tryz.isAgg4
 z4:=Tryz.sizeOf4
 v4:=Tryz.zeroValue4
 t5:=Tryz.underlying5
 a5:=Tryz.isAgg5
 z5:=Tryz.sizeOf5
 v5:=Tryz.zeroValue5
 t9:=Tryz.underlying9
 a9:=Tryz.isAgg9
 z9:=Tryz.sizeOf9
 v9:=Tryz.zeroValue9
 t21:=Tryz.underlying21
 a21:=Tryz.isAgg21
 z21:=Tryz.sizeOf21
 v21:=Tryz.zeroValue21
 t46:=Tryz.underlying277
 a46:=Tryz.isAgg277
 z46:=Tryz.sizeOf277
 v46:=Tryz.zeroValue277
 t105:=Tryz.underlying221
 a105:=Tryz.isAgg221
 z105:=Tryz.sizeOf221
 v105:=Tryz.zeroValue221
 t119:=Tryz.underlying273
 a119:=Tryz.isAgg273
 z119:=Tryz.sizeOf273
 t138:=Tryz.underlying275
 a138:=Tryz.isAgg275
 z138:=Tryz.sizeOf275
 v138:=Tryz.zeroValue275
 t139:=Tryz.underlying276
 a139:=Tryz.isAgg276
 z139:=Tryz.sizeOf276
 v139:=Tryz.zeroValue276
 g3:=by kernel_rfl
 g4:=by kernel_rfl }
open Go.RowKit in
def Tryz.strings_IndexByte(s:ByteArray)(c:Int)(w:World): Calls Tryz.prog 187 #[.string s,.int .u8 c] w λe w'=>e=.returned (.int .i64 (Lib.indexByte s.data.toList c.toNat.toUInt8))/\w'=w:=Any.strings_IndexByte Tryz.lays137 s c w
open Go.RowKit Go.Sort Go.Lib in
theorem Tryz.strconv_FormatInt_10 (n : Int) (h0 : -9223372036854775808 ≤ n) (h1 : n ≤ 9223372036854775807) (w : World) (htab : Lib.TabIs Tryz.prog w "internal/strconv.uint64pow10" .u64 Lib.pow10Tab) :
 Calls Tryz.prog 330 #[.int .i64 n,.int .i64 10] w λe w'=>e=.returned (.string ⟨(Lib.itoa n).toArray⟩)/\∃k os,w'=grow (w.drewN k) os:=Any.strconv_FormatInt_10 Tryz.laysM173 n h0 h1 w htab
open Go.RowKit in
def Tryz.strconv_ParseInt_10_at64_ok(s:ByteArray)(A:s.size<=9223372036854775806)(v:Int)(h:Lib.parseIntB 64 s.data.toList=.ok v)(w:World): Calls Tryz.prog 319 #[.string s,.int .i64 10,.int .i64 64] w λe w'=>e=.returned (.tuple #[.int .i64 v,.nilIface])/\(w'=w∨∃t,w'=Lib.bytesWorld w 5 t):=Any.strconv_ParseInt_10_at64_ok Tryz.laysC174 s A v h w
open Go.RowKit in
def Tryz.strconv_ParseInt_10_at64_syntax(s:ByteArray)(I:s.size<=281474976710656)(h:Lib.parseIntB 64 s.data.toList=Lib.NumEnd.syntax)(ev:Value)(w:World)(J:w.cell? ⟨3,0,none⟩=some ev)(A:ev=.nilIface∨∃W U,ev=.iface W U): Calls Tryz.prog 319 #[.string s,.int .i64 10,.int .i64 64] w λe w'=>∃N,e=.returned (.tuple #[.int .i64 (0),.iface 345 (.pointer (some ⟨N,0,none⟩))])/\w.heap.size<=N/\w'.heap[N]?=some (.cells #[.string ⟨#[80,97,114,115,101,73,110,116]⟩,.string s,ev] 361 (0,0))/\Below w.heap.size w w':=Any.strconv_ParseInt_10_at64_syntax Tryz.laysC174 s I h ev w J A
open Go.RowKit in
def Tryz.strconv_ParseInt_10_at64_range(s:ByteArray)(I:s.size<=281474976710656)(h:Lib.parseIntB 64 s.data.toList=.range)(ev:Value)(w:World)(J:w.cell? ⟨4,0,none⟩=some ev)(A:ev=.nilIface∨∃W U,ev=.iface W U): Calls Tryz.prog 319 #[.string s,.int .i64 10,.int .i64 64] w λe w'=>∃N,e=.returned (.tuple #[.int .i64 (Lib.intSat 64 s.data.toList),.iface 345 (.pointer (some ⟨N,0,none⟩))])/\w.heap.size<=N/\w'.heap[N]?=some (.cells #[.string ⟨#[80,97,114,115,101,73,110,116]⟩,.string s,ev] 361 (0,0))/\Below w.heap.size w w':=Any.strconv_ParseInt_10_at64_range Tryz.laysC174 s I h ev w J A
open Go.RowKit Go.Lib in
def Tryz.strings_Contains_one(s:ByteArray)(c:UInt8)(w:World): Calls Tryz.prog 90 #[.string s,.string ⟨#[c]⟩] w λe w'=>e=.returned (.bool (decide (0<=Lib.indexByte s.data.toList c)))/\w'=w:=Any.strings_Contains_one Tryz.lays144 s c w
open Go.RowKit Go.Lib in
def Tryz.strings_HasPrefix(s p:ByteArray)(w:World): Calls Tryz.prog 182 #[.string s,.string p] w λe w'=>e=.returned (.bool (Lib.hasPrefix s.data.toList p.data.toList))/\w'=w:=Any.strings_HasPrefix Tryz.lays99 s p w
open Go.RowKit Go.Lib in
def Tryz.utf8_DecodeRuneInString(s:ByteArray)(w:World)(A:Lib.Utf8Tabs 0 1 w): Calls Tryz.prog 178 #[.string s] w λe w'=>e=.returned (.tuple #[.int .i32 (Lib.decodeGo s).1,.int .i64 (Lib.decodeGo s).2])/\Below w.heap.size w w':=Any.utf8_DecodeRuneInString Tryz.lays197 s w A
def Tryz.lays196_ren:Go.Shelf.Ren:=⟨λ|196=>177|259=>266|n=>n,λ|9=>9|4=>4|3=>3|5=>5|12=>12|119=>273|0=>0|46=>277|139=>276|138=>275|53=>312|n=>n,λ|3=>0|4=>1|n=>n⟩
def Tryz.lays196:Go.Proofs.Lays.n196 Tryz.prog Tryz.lays196_ren:={
 mixed:=by kernel_rfl
 f196:=Tryz.func177.trans (congrArg some (by kernel_rfl))
 f259:=Tryz.func266.trans (congrArg some (by kernel_rfl))
 t0:=Tryz.underlying0
 a0:=Tryz.isAgg0
 z0:=Tryz.sizeOf0
 v0:=Tryz.zeroValue0
 t3:=Tryz.underlying3
 a3:=Tryz.isAgg3
 z3:=Tryz.sizeOf3
 v3:=Tryz.zeroValue3
 t4:=Tryz.underlying4
 a4:=Tryz.isAgg4
 z4:=Tryz.sizeOf4
 v4:=Tryz.zeroValue4
 t5:=Tryz.underlying5
 a5:=Tryz.isAgg5
 z5:=Tryz.sizeOf5
 v5:=Tryz.zeroValue5
 t9:=Tryz.underlying9
 a9:=Tryz.isAgg9
 z9:=Tryz.sizeOf9
 v9:=Tryz.zeroValue9
 t12:=Tryz.underlying12
 a12:=Tryz.isAgg12
 z12:=Tryz.sizeOf12
 v12:=Tryz.zeroValue12
 t46:=Tryz.underlying277
 a46:=Tryz.isAgg277
 z46:=Tryz.sizeOf277
 v46:=Tryz.zeroValue277
 t53:=Tryz.underlying312
 a53:=Tryz.isAgg312
 z53:=Tryz.sizeOf312
 v53:=Tryz.zeroValue312
 t119:=Tryz.underlying273
 a119:=Tryz.isAgg273
 z119:=Tryz.sizeOf273
 t138:=Tryz.underlying275
 a138:=Tryz.isAgg275
 z138:=Tryz.sizeOf275
 v138:=Tryz.zeroValue275
 t139:=Tryz.underlying276
 a139:=Tryz.isAgg276
 z139:=Tryz.sizeOf276
 v139:=Tryz.zeroValue276
 g3:=by kernel_rfl
 g4:=by kernel_rfl }
end Go.Proofs
namespace Go.Proofs.YtnemcnegfkjpeaaGreatDoor
open Go.Ab Go.RowKit Go.Sort Go.Lib
def zro{γ:Gh}{w w':World}(h:Below w.heap.size w w'):Ext (λ_=>False) γ w γ w':=by
 refine⟨⟨h.size,λb o v I W=>⟨W,?_⟩,λb arr E fr A=>⟨arr,?_,rfl⟩⟩,h.os,h.output,λa U=>?_,λb A _=>⟨rfl,h.block b A⟩⟩
 ·have J:=World.block_lt_of_cell? w _ I;unfold World.cell? at I ⊢;rw[h.block _ J];exact I
 ·have J:=(zdF.1 A).1;rw[h.block b J];exact A
 ·exact World.frozen?_of_block (h.block _ U)
def ze.of_below{P:Program}{f:FuncId}{args:List AV}{r:AV}(h:∀(γ:Gh) (w:World) (vs:List Value),zan γ w->zR γ w args vs->Calls P f vs.toArray w λe w'=>Below w.heap.size w w'/\∃v,e=.returned v/\Rep γ w' r v):ze P f args r:=by intro γ w vs J _ U;refine(h γ w vs J U).mono λe w' ⟨W,v,I,hr⟩=>?_;subst I;exact⟨γ,zb.emp,.ret r,(zro W).weaken λ_ f=>f.elim,λb o A=>by simp[zb.emp]at A,λb A=>by simp[zb.emp]at A,hr,rfl,rfl⟩
def below_grow(w:World)(k:Nat)(os:Array Obj):Below w.heap.size w (grow (w.drewN k) os):=by
 refine⟨rfl,rfl,rfl,?_,λi hi=>?_⟩
 ·show w.heap.size<=(w.heap++os).size;simp
 ·show (w.heap++os)[i]?=w.heap[i]?;rw[Array.getElem?_append_left hi]
def znn(w:World)(e:TypeId)(t:ByteArray):Below w.heap.size w (Lib.bytesWorld w e t):=by
 have A:Below w.heap.size w (w.drew.alloc (.cells (bytesCells w e t) e)):=(Below.refl _ w).drew.alloc (Al4 _) _;unfold Lib.bytesWorld World.freeze;simp only[Nat.one_ne_zero,if_false];refine⟨A.os,A.tape,A.output,?_,λi hi=>?_⟩
 ·rw[Array.size_modify];exact A.size
 ·rw[Array.getElem?_modify];have:¬ (w.heap.size=i):=by omega
  simp only[this,if_false];exact A.block i hi
def ziY{γ:Gh}{w:World}(h:zan γ w){i b:Nat}{ps:List (Value->Prop)}(hi:ztW[i]?=some (b,ps)){j:Nat}{p:Value->Prop}(J:ps[j]?=some p):∃v,w.cell? ⟨b,j,none⟩=some v/\p v:=by obtain⟨v,A,I⟩:=(h _ (List.mem_of_getElem? hi)).2 j p J;exact⟨v,A.1,I⟩
def zsY:∀c:Fin 256,Go.Pinned.utf8FirstZ[c.val]?=some (Lib.firstT c.val):=by decide +kernel
def zo0:List Nat:=[128,191,160,191,128,159,144,191,128,143,0,0,0,0,0,0,0,0,0,0,0,0,0,0,0,0,0,0,0,0,0,0]
def zxx:∀c:Fin 16,zo0[2*c.val]?=some (Lib.accLo c.val)/\zo0[2*c.val+1]?=some (Lib.accHi c.val):=by decide +kernel
def zmg{γ:Gh}{w:World}(h:zan γ w):Lib.Utf8Tabs 0 1 w:=by
 refine⟨λc J=>?_,λc J=>?_⟩
 ·have Z:=zsY ⟨c,J⟩;obtain⟨v,A,I⟩:=ziY h (i:=0) rfl (j:=c) (p:=λv=>v=.int .u8 (Lib.firstT c)) (by rw[Yg,Z];rfl);rw[A,I]
 ·obtain⟨U,W⟩:=zxx ⟨c,J⟩;have hi:ztW[1]?=some (1,zo0.map λ(n:Nat) (v:Value)=>v=.int .u8 n):=rfl;obtain⟨v,A,I⟩:=ziY h hi (j:=2*c) (p:=λv=>v=.int .u8 (Lib.accLo c)) (by rw[Yg,U];rfl);obtain⟨u,X,Y⟩:=ziY h hi (j:=2*c+1) (p:=λv=>v=.int .u8 (Lib.accHi c)) (by rw[Yg,W];rfl);exact⟨by rw[A,I],by rw[X,Y]⟩
def zpj{γ:Gh}{w:World}{s:List UInt8}{vs:List Value}(h:zR γ w [.str s] vs):vs=[.string ⟨s.toArray⟩]:=by
 obtain⟨A,hr⟩:=h
 match vs,A with
 | [v],_=>cases hr 0 _ _ rfl rfl;rfl
def zxt(s:List UInt8)(J:s.length<=9223372036854775807):ze Tryz.prog 177 [.str s] (.bool (Lib.validD s)):=by refine ze.of_below λγ w vs U W=>?_;rw[zpj W];have h:=Any.utf8_ValidString Tryz.lays196 ⟨s.toArray⟩ w (by simpa[ByteArray.size]using J) (zmg U);refine Calls.mono h λe w' ⟨I,A⟩=>⟨A,_,I,.bool _⟩
def zdl(s p:List UInt8):ze Tryz.prog 182 [.str s,.str p] (.bool (p.isPrefixOf s)):=by
 refine ze.of_below λγ w vs W J=>?_;obtain⟨I,hr⟩:=J
 match vs,I with
 | [v,u],_ =>cases hr 0 _ _ rfl rfl;cases hr 1 _ _ rfl rfl;exact(Tryz.strings_HasPrefix ⟨s.toArray⟩ ⟨p.toArray⟩ w).mono λe w' ⟨A,U⟩=>⟨by rw[U];exact Below.refl _ _,_,A,.bool _⟩
def zrR:List Nat:=[1,10,100,1000,10000,100000,1000000,10000000,100000000,1000000000,10000000000,100000000000,1000000000000,10000000000000,100000000000000,1000000000000000,10000000000000000,100000000000000000,1000000000000000000,10000000000000000000]
def zmG:zrR.length=20:=rfl
def znp:Lib.pow10Tab=zrR.map λ(n:Nat)=>(n:Int):=by decide +kernel
theorem zxO {γ : Gh} {w : World} (ht : zan γ w) : Lib.TabIs Tryz.prog w "internal/strconv.uint64pow10" .u64 Lib.pow10Tab := by
 have hmem:ztW[5]?=some (5,zrR.map λ(n:Nat) (v:Value)=>v=.int .u64 n):=rfl
 obtain⟨⟨arr,E,fr,g1,g2⟩,g3⟩:=ht _ (List.mem_of_getElem? hmem)
 have hg : Tryz.prog.globalNamed "internal/strconv.uint64pow10" = some 5 := by kernel_rfl
 unfold Lib.TabIs World.var?
 rw[hg]
 simp only[Option.bind_some]
 rw[show w.heap[5]?=_ from g1]
 simp only[Al1]
 refine Array.ext_getElem? λj=>?_
 simp only[List.length_map]at g2
 by_cases hj:j<20
 ·have hj':j<zrR.length:=hj
  obtain⟨v,h1,h2⟩:=g3 j (λv=>v=.int .u64 ((zrR[j]:Nat):Int)) (by rw[Yg,Al9 hj'];rfl)
  have h3:=h1.1
  simp only[World.cell?]at h3
  rw[show w.heap[5]?=_ from g1]at h3
  have h4:arr[j]?=some v:=by simpa using h3
  rw[h4,h2,znp]
  simp only[List.map_map,List.getElem?_toArray,Yg,Al9 hj',ZS,Function.comp]
 ·rw[Array.getElem?_eq_none (by rw[g2,zmG];omega),Array.getElem?_eq_none (by simp[znp,zmG];omega)]
def zoF(n:Int)(A:-9223372036854775808<=n)(I:n<=9223372036854775807):ze Tryz.prog 330 [.int .i64 n,.int .i64 10] (.str (Lib.itoa n)):=by
 refine ze.of_below λγ w vs W X=>?_;obtain⟨U,hr⟩:=X
 match vs,U with
 | [v,u],_ =>cases hr 0 _ _ rfl rfl;cases hr 1 _ _ rfl rfl;exact(Tryz.strconv_FormatInt_10 n A I w (zxO W)).mono λe w' ⟨J,k,os,Y⟩=>⟨by rw[Y];exact below_grow _ _ _,_,J,.str _⟩
def znE{γ:Gh}{w:World}(h:zan γ w):∃v,w.cell? ⟨4,0,none⟩=some v/\∃I A,v=.iface I A:=ziY h (i:=4) rfl (j:=0) rfl
def zli{γ:Gh}{w:World}(h:zan γ w):∃v,w.cell? ⟨3,0,none⟩=some v/\∃I A,v=.iface I A:=ziY h (i:=3) rfl (j:=0) rfl
def ziw(s:List UInt8):AV :=
 match Lib.parseIntB 64 s with
 | .ok v=>.tup [.int .i64 v,.oth .nilIface]
 | Lib.NumEnd.syntax=>.tup [.int .i64 0,.ifc 345 .any]
 | .range=>.tup [.int .i64 (Lib.intSat 64 s),.ifc 345 .any]
def zhZ{γ:Gh}{w:World}{a b:AV}{v u:Value}(A:Rep γ w a v)(I:Rep γ w b u):Rep γ w (.tup [a,b]) (.tuple #[v,u]):=.tup _ [v,u] rfl (zR.cons A (zR.cons I zR.nil)).2
def zre(s:List UInt8)(aa:s.length<=281474976710656):ze Tryz.prog 319 [.str s,.int .i64 10,.int .i64 64] (ziw s):=by
 refine ze.of_below λγ w vs W Y=>?_;obtain⟨X,hr⟩:=Y
 match vs,X with
 | [v,u,x],_ =>
  cases hr 0 _ _ rfl rfl;cases hr 1 _ _ rfl rfl;cases hr 2 _ _ rfl rfl;have hsz:(⟨s.toArray⟩:ByteArray).size=s.length:=rfl;unfold ziw;rcases hp:Lib.parseIntB 64 s with v|_|_
  ·refine(Tryz.strconv_ParseInt_10_at64_ok ⟨s.toArray⟩ (by rw[hsz];omega) v hp w).mono λe w' ⟨A,Z⟩=>⟨?_,_,A,zhZ (.int _ _) (.oth _)⟩;rcases Z with rfl|⟨t,rfl⟩
   ·exact Below.refl _ _
   ·exact znn _ _ _
  ·obtain⟨ev,I,J⟩:=zli W;exact(Tryz.strconv_ParseInt_10_at64_syntax ⟨s.toArray⟩ (by rw[hsz];omega) hp ev w I (.inr J)).mono λe w' ⟨N,A,_,_,U⟩=>⟨U,_,A,zhZ (.int _ _) (.ifc _ _ _ (.any _))⟩
  ·obtain⟨ev,I,J⟩:=znE W;exact(Tryz.strconv_ParseInt_10_at64_range ⟨s.toArray⟩ (by rw[hsz];omega) hp ev w I (.inr J)).mono λe w' ⟨N,A,_,_,U⟩=>⟨U,_,A,zhZ (.int _ _) (.ifc _ _ _ (.any _))⟩
end Go.Proofs.YtnemcnegfkjpeaaGreatDoor
namespace Go.Proofs.YtnemcnegfkjpeaaGreatDoor
open Go.Ab Go.Lib
open Go.ChangeShapes Go.WideShapes Go.ChangeAt Go.RowKit Go.WideElems
mutual
def zb5{H:Type}:∀d:DataW H,Rows.uptoBulk d=blk d
 | .lit (.string _)=>rfl
 | .lit (.bool _)=>rfl
 | .lit (.int _ _)=>rfl
 | .lit (.float _ _)=>rfl
 | .lit .nil=>rfl
 | .nil=>rfl
 | .ptr d=>by simp only[Rows.uptoBulk,blk,zb5 d]
 | .slice e s=>by simp only[Rows.uptoBulk,blk,zbC e,zbC s]
 | .agg e=>by simp only[Rows.uptoBulk,blk,zbC e]
 | .iface _ d=>by simp only[Rows.uptoBulk,blk,zb5 d]
 | .map e=>by simp only[Rows.uptoBulk,blk,zke e]
 | .held _=>rfl
def zbC{H:Type}:∀d:List (DataW H),Rows.uptoBulkAll d=Yy d
 | []=>rfl
 | d::r=>by simp only[Rows.uptoBulkAll,Yy,zb5 d,zbC r]
def zke{H:Type}:∀d:List (Lit×DataW H),Rows.uptoBulkEntries d=zpm d
 | []=>rfl
 | x::r=>by simp only[Rows.uptoBulkEntries,zpm,zr5 x,zke r]
def zr5{H:Type}:∀d:Lit×DataW H,Rows.uptoBulkEntry d=zoT d
 | (.string _,d)=>by simp only[Rows.uptoBulkEntry,zoT,zb5 d]
 | (.bool _,d)=>by simp only[Rows.uptoBulkEntry,zoT,zb5 d]
 | (.int _ _,d)=>by simp only[Rows.uptoBulkEntry,zoT,zb5 d]
 | (.float _ _,d)=>by simp only[Rows.uptoBulkEntry,zoT,zb5 d]
 | (.nil,d)=>by simp only[Rows.uptoBulkEntry,zoT,zb5 d]
end
def Yo(W:World)(g:Nat)(ps:List (Value->Prop)):Prop :=(∃(arr:Array Value) (E:TypeId) (fr:Nat×Nat),W.heap[g]?=some (.cells arr E fr)/\arr.size=ps.length)/\∀(j:Nat) (p:Value->Prop),ps[j]?=some p->∃v,CellIs zjh W g j v/\p v
def zdo{I:World}{n:String}{g:Nat}{cs:Array Value}{ps:List (Value->Prop)}(J:Tryz.prog.globalNamed n=some g)(X:I.var? Tryz.prog n=some cs)(Z:cs.size=ps.length)(h:∀(j:Nat) (p:Value->Prop) v,ps[j]?=some p->cs[j]?=some v->v.oneCell'=true/\p v):Yo I g ps:=by
 refine⟨?_,λj p W=>?_⟩
 ·have A:=X;simp only[World.var?,J,Option.bind_some]at A;split at A
  ·rename_i c t fr Y;cases A;exact⟨_,_,_,Y,Z⟩
  ·cases A
 ·have U:j<cs.size:=by
   have:=(zaB.1 W).1;omega
  have A:=h j p cs[j] W (Array.getElem?_eq_getElem U);refine⟨cs[j],⟨?_,trivial,A.1⟩,A.2⟩;rw[World.var?_cell J X j,Array.getElem?_eq_getElem U]
def zcY{I:World}{n:String}{g cnt:Nat}{t e:TypeId}{k:IntKind}{Y:List Nat}(U:Tryz.prog.globalNamed n=some g)(ag:(Tryz.prog.globals[g]?).map (·.type)=some t)(ae:Tryz.prog.underlying t=some (.array cnt e))(ac:Tryz.prog.underlying e=some (.int k))(Z:Tryz.prog.cellsOf e=1)(aa:Tryz.prog.cellsOf t=cnt)(h:VarReads Tryz.prog I n (tabData k (Y.map λ(z:Nat)=>(z:Int)))):Yo I g (Y.map λ(z:Nat) (v:Value)=>v=.int k z):=by
 obtain⟨aj,t',cs,fuel,p,ad,af,ah,ab⟩:=h;obtain rfl:=Option.some.inj (U.symm.trans ad);obtain rfl:=Option.some.inj (ag.symm.trans af);have J:=cells_of_tab ae ac Z aa ab;refine zdo U ah (by rw[<-Array.length_toList,J];simp) λj p v W A=>?_;rw[<-Array.getElem?_toList,J]at A;simp only[Yg,zbA]at W A;obtain⟨z,ai,rfl⟩:=W;obtain⟨y,⟨ak,X,rfl⟩,rfl⟩:=A;rw[ai]at X;cases X;exact⟨rfl,rfl⟩
def u8x:U8Extra Tryz.prog Tryz.lays196_ren:=⟨by kernel_rfl,by kernel_rfl,by kernel_rfl,by kernel_rfl,by kernel_rfl,by kernel_rfl,by kernel_rfl⟩
def zvT:∀c:Fin 32,zo0[c.val]?=some (if c.val % 2=0 then Lib.accLo (c.val / 2)else Lib.accHi (c.val / 2)):=by decide +kernel
theorem zlJ {W : World} (h1 : VarReads Tryz.prog W "unicode/utf8.first" firstData) (h2 : VarReads Tryz.prog W "unicode/utf8.acceptRanges" acceptData) : Yo W 1 (zo0.map fun (n : Nat) (v : Value) => v = .int .u8 n) := by
 have ht:=utf8Tabs_of_readsT (U8Types.of196 Tryz.lays196) u8x h1 h2
 obtain⟨g',t',cs,fuel,p,hg',ht',hvar,hd⟩:=h2
 obtain rfl := Option.some.inj ((show Tryz.prog.globalNamed "unicode/utf8.acceptRanges" = some 1 by kernel_rfl).symm.trans hg')
 obtain rfl:=Option.some.inj (u8x.y4.symm.trans ht')
 have hcs:cs.size=32:=by
  have h3:fuel≠0:=λe=>by subst e;simp[DataW.trod]at hd
  obtain⟨fuel,rfl⟩:=Nat.exists_eq_succ_of_ne_zero h3
  have h4:cs.toList.length=Tryz.prog.cellsOf (Tryz.lays196_ren.t 139):=by
   have hu:=(U8Types.of196 Tryz.lays196).t139
   simp only[DataW.trod,hu,u8x.c138]at hd
   split at hd
   ·rename_i hl;simpa using hl
   ·cases hd
  rw[<-Array.length_toList,h4];exact(show Tryz.prog.cellsOf (Tryz.lays196_ren.t 139)=32 by kernel_rfl)
 refine zdo hg' hvar (by rw[hcs];rfl) λj p v hp hj=>?_
 have hj32:j<32:=by rw[<-hcs];exact(zdF.1 hj).1
 simp only[Yg,zbA]at hp
 obtain⟨z,hz,rfl⟩:=hp
 rw[zvT ⟨j,hj32⟩]at hz
 cases hz
 have ⟨a1,a2⟩:=ht.2 (j / 2) (by omega)
 rcases Nat.mod_two_eq_zero_or_one j with e|e
 ·have e2:2*(j / 2)=j:=by omega
  rw[e2]at a1
  have h5:=(World.var?_cell hg' hvar j).symm.trans a1
  rw[hj]at h5
  cases h5
  simp[e,Value.oneCell']
 ·have e2:2*(j / 2)+1=j:=by omega
  rw[e2]at a2
  have h5:=(World.var?_cell hg' hvar j).symm.trans a2
  rw[hj]at h5
  cases h5
  simp[e,Value.oneCell']
def zkZ{X:World}{n:String}{g:Nat}{t:TypeId}{s:String}{d:DataW Unit}(Z:Tryz.prog.globalNamed n=some g)(ad:(Tryz.prog.globals[g]?).map (·.type)=some t){ms:Array (String×TypeId)}(ae:Tryz.prog.underlying t=some (.interface ms))(h:VarReads Tryz.prog X n (.iface s d)):Yo X g [λv=>∃W U,v=.iface W U]:=by
 obtain⟨ag,t',cs,fuel,p,ab,ac,af,J⟩:=h;obtain rfl:=Option.some.inj (Z.symm.trans ab);obtain rfl:=Option.some.inj (ad.symm.trans ac);have aa:∃W U,cs.toList=[.iface W U]:=by
  cases fuel with
  | zero=>simp[DataW.trod]at J
  | succ fuel =>
   simp only[DataW.trod,ae]at J;split at J
   all_goals first
    | (cases J;done)
    | skip
   all_goals simp_all
   done
 obtain⟨W,U,Y⟩:=aa;refine zdo Z af (by rw[<-Array.length_toList,Y];rfl) λj p v I A=>?_;rw[<-Array.getElem?_toList,Y]at A
 match j,I,A with
 | 0,I,A=>cases I;cases A;exact⟨rfl,_,_,rfl⟩
 | j+1,I,A=>simp at I
def zrv{J:World}(ac:J.ShapedOpen Tryz.prog){g:Nat}{z:Array Value}{t:TypeId}{k:IntKind}(af:g<Tryz.prog.globals.size)(Y:(((begin Tryz.prog (λ_ _=>0) default).world.heap[g]?).bind Obj.row?)=some (z,t))(ak:z.size=1)(ae:Tryz.prog.buildable t=true)(ai:Tryz.prog.cellTypes Tryz.prog.depth t=some [t])(ah:Tryz.prog.underlying t=some (.int k)):Yo J g [λv=>∃m,v=.int k m]:=by
 obtain⟨cs,U,Z,aa⟩:=ac.1 g z t af Y;have hsz:cs.size=1:=by rw[Z,ak]
 obtain⟨al,X,_,ad⟩:=aa ae;rw[ai]at X;cases X;have W:cs[0]?=some cs[0]:=Array.getElem?_eq_getElem (by omega);obtain⟨u,aj,A⟩:=ad 0 cs[0] W;cases aj;have ab:∃m,cs[0]=.int k m:=by unfold Cell.ok at A;rw[ah]at A;generalize cs[0]=v at A;cases v<;>first|exact A.elim|(obtain⟨rfl,_⟩:=A;exact⟨_,rfl⟩)
 obtain⟨m,ag⟩:=ab;refine⟨⟨cs,t,_,U,hsz⟩,λj p I=>?_⟩
 match j,I with
 | 0,I =>cases I;refine⟨.int k m,⟨?_,trivial,rfl⟩,m,rfl⟩;unfold World.cell?;simp only[U,W,ag];simp
 | j+1,I=>simp at I
abbrev T64:List Nat:=[1,10,100,1000,10000,100000,1000000,10000000,100000000,1000000000,10000000000,100000000000,1000000000000,10000000000000,100000000000000,1000000000000000,10000000000000000,100000000000000000,1000000000000000000,10000000000000000000]
abbrev B32:List Nat:=[0,1,28,2,29,14,24,3,30,22,20,15,25,17,4,8,31,27,13,23,21,19,16,7,26,12,18,6,11,5,10,9]
abbrev B64:List Nat:=[0,1,56,2,57,49,28,3,61,58,42,50,38,29,17,4,62,47,59,36,45,43,51,22,53,39,33,30,24,18,12,5,63,55,48,27,60,41,37,16,46,35,44,21,52,32,23,11,54,26,40,15,34,20,31,10,25,14,19,9,13,8,7,6]
abbrev zmI : List (String × DataW Unit) := [("math/bits.deBruijn32tab", Rows.laid_math_bits_deBruijn32tab), ("math/bits.deBruijn64tab", Rows.laid_math_bits_deBruijn64tab), ("internal/strconv.uint64pow10", Rows.laid_internal_strconv_uint64pow10), ("unicode/utf8.acceptRanges", Rows.laid_unicode_utf8_acceptRanges), ("strconv.ErrRange", Rows.laid_strconv_ErrRange), ("strconv.ErrSyntax", Rows.laid_strconv_ErrSyntax), ("unicode/utf8.first", Rows.laid_unicode_utf8_first)]
theorem zwN {W:World} (hL:laidMetH Tryz.prog zmI W) (hS:W.ShapedOpen Tryz.prog):zan zjh W:=by
 have hL':laidMet Tryz.prog zmI W:=hL
 have m1 : VarReads Tryz.prog W "unicode/utf8.first" (tabData .u8 (Go.Pinned.utf8FirstZ.map fun (z : Nat) => (z : Int))) := laidMet.reads hL' (d := Rows.laid_unicode_utf8_first) (.tail _ (.tail _ (.tail _ (.tail _ (.tail _ (.tail _ (.head _)))))))
 have m2 : VarReads Tryz.prog W "unicode/utf8.acceptRanges" acceptData := laidMet.reads hL' (d := Rows.laid_unicode_utf8_acceptRanges) (.tail _ (.tail _ (.tail _ (.head _))))
 have m3 : VarReads Tryz.prog W "internal/strconv.uint64pow10" (tabData .u64 (T64.map fun (z : Nat) => (z : Int))) := laidMet.reads hL' (d := Rows.laid_internal_strconv_uint64pow10) (.tail _ (.tail _ (.head _)))
 have m4 : VarReads Tryz.prog W "math/bits.deBruijn32tab" (tabData .u8 (B32.map fun (z : Nat) => (z : Int))) := laidMet.reads hL' (d := Rows.laid_math_bits_deBruijn32tab) (.head _)
 have m5 : VarReads Tryz.prog W "math/bits.deBruijn64tab" (tabData .u8 (B64.map fun (z : Nat) => (z : Int))) := laidMet.reads hL' (d := Rows.laid_math_bits_deBruijn64tab) (.tail _ (.head _))
 have m6 : VarReads Tryz.prog W "strconv.ErrSyntax" Rows.laid_strconv_ErrSyntax := laidMet.reads hL' (.tail _ (.tail _ (.tail _ (.tail _ (.tail _ (.head _))))))
 have m7 : VarReads Tryz.prog W "strconv.ErrRange" Rows.laid_strconv_ErrRange := laidMet.reads hL' (.tail _ (.tail _ (.tail _ (.tail _ (.head _)))))
 have m8:firstData=tabData .u8 (Go.Pinned.utf8FirstZ.map λ(z:Nat)=>(z:Int)):=by kernel_rfl
 have e1:Yo W 0 (Go.Pinned.utf8FirstZ.map λ(n:Nat) (v:Value)=>v=.int .u8 n) :=
  zcY (t:=Tryz.lays196_ren.t 119) u8x.n3 u8x.y3 (U8Types.of196 Tryz.lays196).t119 (U8Types.of196 Tryz.lays196).t5 u8x.c5 u8x.c119 m1
 have e2:Yo W 1 (zo0.map λ(n:Nat) (v:Value)=>v=.int .u8 n):=zlJ (m8▸m1) m2
 have e3:Yo W 5 (T64.map λ(n:Nat) (v:Value)=>v=.int .u64 n) :=
  zcY (t:=364) (e:=312) (cnt:=20) (by kernel_rfl) (by kernel_rfl) (by kernel_rfl) (by kernel_rfl) (by kernel_rfl) (by kernel_rfl) m3
 have e4:Yo W 6 (B32.map λ(n:Nat) (v:Value)=>v=.int .u8 n) :=
  zcY (t:=372) (e:=5) (cnt:=32) (by kernel_rfl) (by kernel_rfl) (by kernel_rfl) (by kernel_rfl) (by kernel_rfl) (by kernel_rfl) m4
 have e5:Yo W 7 (B64.map λ(n:Nat) (v:Value)=>v=.int .u8 n) :=
  zcY (t:=373) (e:=5) (cnt:=64) (by kernel_rfl) (by kernel_rfl) (by kernel_rfl) (by kernel_rfl) (by kernel_rfl) (by kernel_rfl) m5
 have e6:Yo W 3 [λv=>∃te pe,v=.iface te pe]:=zkZ (t:=159) (by kernel_rfl) (by kernel_rfl) Tryz.underlying159 m6
 have e7:Yo W 4 [λv=>∃te pe,v=.iface te pe]:=zkZ (t:=159) (by kernel_rfl) (by kernel_rfl) Tryz.underlying159 m7
 have e8:Yo W 2 [λv=>∃m,v=.int .i64 m]:=zrv hS (z:=#[.int .i64 0]) (t:=3) (of_decide_eq_true (by kernel_rfl)) (by kernel_rfl) rfl (by kernel_rfl) (by kernel_rfl) (by kernel_rfl)
 intro x hx
 unfold ztW at hx
 simp only[List.mem_cons,List.not_mem_nil,or_false]at hx
 rcases hx with rfl|rfl|rfl|rfl|rfl|rfl|rfl|rfl<;>first|exact e1|exact e2|exact e3|exact e4|exact e5|exact e6|exact e7|exact e8
noncomputable abbrev N0:Nat:=(World.settled Tryz.prog default).heap.size
noncomputable def laidWorld(os:Os):World :=
 let w0:=World.holding Tryz.prog os ⟨#[.cells #[.string ⟨#[105,110,118,97,108,105,100,32,115,121,110,116,97,120]⟩] 369,.cells #[.string ⟨#[118,97,108,117,101,32,111,117,116,32,111,102,32,114,97,110,103,101]⟩] 369],#[],[]⟩;let put (h:Array Obj) (g:Nat) (cs:Array Value):Array Obj:=h.modify g fun
  | .cells _ t frozen=>.cells cs t frozen
  | o=>o
 let h1:=put w0.heap 0 (Go.Pinned.utf8FirstZ.map λ(z:Nat)=>Value.int .u8 z).toArray;let h2:=put h1 1 (zo0.map λ(z:Nat)=>Value.int .u8 z).toArray;let h3:=put h2 5 (T64.map λ(z:Nat)=>Value.int .u64 z).toArray;let h4:=put h3 6 (B32.map λ(z:Nat)=>Value.int .u8 z).toArray;let h5:=put h4 7 (B64.map λ(z:Nat)=>Value.int .u8 z).toArray;let h6:=put h5 3 #[.iface 367 (.pointer (some ⟨(World.settled Tryz.prog os).heap.size,0,none⟩))];let h7:=put h6 4 #[.iface 367 (.pointer (some ⟨(World.settled Tryz.prog os).heap.size+1,0,none⟩))]
 { w0 with heap:=h7 }
def laid_met(os:Os)(args:Array Value):laidMet Tryz.prog zmI ((laidWorld os).forCall (λ_ _=>0) ⟨#[],args,[]⟩).memory :=(LaidIn.of_run (l:=zmI) [0,1,2,3,4,5,6,7,N0,N0+1] 8 (by kernel_rfl) (by kernel_rfl) (by kernel_rfl) (by kernel_rfl)).met
end Go.Proofs.YtnemcnegfkjpeaaGreatDoor
