import Derived.Shelf.Small.Wraps
import Derived.Shelf.Strconv.Itoa0
import Derived.Shelf.Strconv.Itoa1
import Derived.Shelf.LaysM
import Derived.Shelf.Strconv.Itoa2
import Derived.Shelf.Strconv.Itoa3
import Derived.Shelf.Strconv.Itoa4
import Derived.Shelf.Strconv.ParseIntEmpty
import Derived.Shelf.Strconv.Clone
import Derived.Shelf.Strconv.SyntaxError
import Derived.Shelf.LaysC
import Derived.Shelf.Strconv.ToError
import Derived.Shelf.Strconv.Lower
import Derived.Shelf.Strconv.ParseUint10
import Derived.Shelf.Strconv.ParseUint10Empty
import Derived.Shelf.Strconv.ParseUint10Any
import Derived.Shelf.Strconv.ParseInt10
import Derived.Shelf.Strconv.RangeError
import Derived.Shelf.Strconv.ToErrorRange
import Derived.Shelf.Strconv.ParseUintEmpty
import Derived.Shelf.Strconv.ParseUint10b64
import Derived.Shelf.Strconv.ParseUint10b32
import Derived.Shelf.Strconv.ParseUint10b16
import Derived.Shelf.Strconv.ParseUint10b8
import Derived.Shelf.Strconv.ParseUint10At
import Derived.Shelf.Strconv.ParseInt10At64
import Derived.Shelf.Strconv.ParseInt10At32
import Derived.Shelf.Strconv.ParseInt10At16
import Derived.Shelf.Strconv.ParseInt10At8
import Derived.Shelf.Strconv.ParseInt10All
import Derived.Shelf.Strconv.ParseIntPublic10
import Derived.Shelf.Strconv.ErrVarParseInt
import Derived.Shelf.Strings.Prefix
import Derived.Test.YtbjofkamhijjlaaGreatDoorProg
import Derived.Shelf.Unicode.ValidAny
import Derived.Shelf.Unicode.DecodeAny
import Derived.Test.YtbjofkamhijjlaaGreatDoorCards
import Derived.Test.YtbjofkamhijjlaaGreatDoorTie
import Derived.Lib.LaidIn
import Derived.Lib.LaidU8T
import Derived.Lib.LaidTab
import Derived.Deep.DeepHandedRow
import Derived.Deep.DeepWitnessRowRef
import Derived.ProofKit
import Derived.SizedLaws
import Derived.OpenShut
import Derived.Test.YtbjofkamhijjlaaGreatDoorM1
import Derived.Test.YtbjofkamhijjlaaGreatDoorM2
set_option maxRecDepth 100000
set_option linter.all false
namespace Go.Proofs
open Go.Shelf
def Tryz.laysM173_ren:Go.Shelf.Ren:=⟨fun|173=>251|246=>263|283=>269|284=>270|285=>271|286=>272|129=>279|317=>278|318=>280|319=>281|320=>282|337=>286|338=>287|n=>n,fun|2=>2|3=>3|9=>9|4=>4|171=>267|0=>0|53=>264|37=>270|5=>5|173=>271|212=>279|51=>280|20=>20|213=>281|46=>241|232=>293|233=>294|n=>n,fun|17=>2|18=>3|19=>4|n=>n⟩
theorem Tryz.laysM173:Go.Proofs.LaysM.n173 Tryz.prog Tryz.laysM173_ren:={
 mixed:=by kernel_rfl
 f129:=Tryz.func279.trans (congrArg some (by kernel_rfl))
 f173:=Tryz.func251.trans (congrArg some (by kernel_rfl))
 f246:=Tryz.func263.trans (congrArg some (by kernel_rfl))
 f283:=Tryz.func269.trans (congrArg some (by kernel_rfl))
 f284:=Tryz.func270.trans (congrArg some (by kernel_rfl))
 f285:=Tryz.func271.trans (congrArg some (by kernel_rfl))
 f286:=Tryz.func272.trans (congrArg some (by kernel_rfl))
 f317:=Tryz.func278.trans (congrArg some (by kernel_rfl))
 f318:=Tryz.func280.trans (congrArg some (by kernel_rfl))
 f319:=Tryz.func281.trans (congrArg some (by kernel_rfl))
 f320:=Tryz.func282.trans (congrArg some (by kernel_rfl))
 f337:=Tryz.func286.trans (congrArg some (by kernel_rfl))
 f338:=Tryz.func287.trans (congrArg some (by kernel_rfl))
 t0:=Tryz.underlying0
 a0:=Tryz.isAgg0
 z0:=Tryz.sizeOf0
 v0:=Tryz.zeroValue0
 t2:=Tryz.underlying2
 a2:=Tryz.isAgg2
 z2:=Tryz.sizeOf2
 v2:=Tryz.zeroValue2
 t3:=Tryz.underlying3
 a3:=Tryz.isAgg3
 z3:=Tryz.sizeOf3
 v3:=Tryz.zeroValue3
 t4:=Tryz.underlying4
 a4:=Tryz.isAgg4
 z4:=Tryz.sizeOf4
 v4:=Tryz.zeroValue4
 t5:=Tryz.underlying5
 a5:=Tryz.isAgg5
 z5:=Tryz.sizeOf5
 v5:=Tryz.zeroValue5
 t9:=Tryz.underlying9
 a9:=Tryz.isAgg9
 z9:=Tryz.sizeOf9
 v9:=Tryz.zeroValue9
 t20:=Tryz.underlying20
 a20:=Tryz.isAgg20
 z20:=Tryz.sizeOf20
 v20:=Tryz.zeroValue20
 t37:=Tryz.underlying270
 a37:=Tryz.isAgg270
 z37:=Tryz.sizeOf270
 v37:=Tryz.zeroValue270
 t46:=Tryz.underlying241
 a46:=Tryz.isAgg241
 z46:=Tryz.sizeOf241
 v46:=Tryz.zeroValue241
 t51:=Tryz.underlying280
 a51:=Tryz.isAgg280
 z51:=Tryz.sizeOf280
 v51:=Tryz.zeroValue280
 t53:=Tryz.underlying264
 a53:=Tryz.isAgg264
 z53:=Tryz.sizeOf264
 v53:=Tryz.zeroValue264
 t171:=Tryz.underlying267
 a171:=Tryz.isAgg267
 z171:=Tryz.sizeOf267
 v171:=Tryz.zeroValue267
 t173:=Tryz.underlying271
 a173:=Tryz.isAgg271
 z173:=Tryz.sizeOf271
 v173:=Tryz.zeroValue271
 t212:=Tryz.underlying279
 a212:=Tryz.isAgg279
 z212:=Tryz.sizeOf279
 v212:=Tryz.zeroValue279
 t213:=Tryz.underlying281
 a213:=Tryz.isAgg281
 z213:=Tryz.sizeOf281
 t232:=Tryz.underlying293
 a232:=Tryz.isAgg293
 z232:=Tryz.sizeOf293
 v232:=Tryz.zeroValue293
 t233:=Tryz.underlying294
 a233:=Tryz.isAgg294
 z233:=Tryz.sizeOf294
 v233:=Tryz.zeroValue294
 g17:=by kernel_rfl
 g18:=by kernel_rfl
 g19:=by kernel_rfl
 i0:=by kernel_rfl
 i2:=by kernel_rfl
 i3:=by kernel_rfl
 i4:=by kernel_rfl
 i5:=by kernel_rfl
 i9:=by kernel_rfl
 i20:=by kernel_rfl
 i37:=by kernel_rfl
 i46:=by kernel_rfl
 i51:=by kernel_rfl
 i53:=by kernel_rfl
 i171:=by kernel_rfl
 i173:=by kernel_rfl
 i212:=by kernel_rfl
 i232:=by kernel_rfl
 i233:=by kernel_rfl
 m17:=by kernel_rfl
 m18:=by kernel_rfl
 m19:=by kernel_rfl }
def Tryz.laysC174_ren:Go.Shelf.Ren:=⟨fun|174=>277|247=>284|245=>285|287=>288|279=>289|280=>290|281=>291|282=>292|321=>293|322=>294|316=>295|171=>297|205=>296|243=>298|246=>263|283=>269|284=>270|285=>271|286=>272|129=>279|317=>278|318=>280|319=>281|320=>282|337=>286|338=>287|n=>n,fun|9=>9|3=>3|2=>2|75=>274|85=>275|4=>4|167=>287|5=>5|53=>264|175=>288|46=>241|168=>290|37=>270|0=>0|210=>298|21=>21|127=>300|145=>303|143=>301|171=>267|173=>271|212=>279|51=>280|20=>20|213=>281|232=>293|233=>294|80=>304|n=>n,fun|15=>5|16=>6|17=>2|18=>3|19=>4|n=>n⟩
theorem Tryz.laysC174:Go.Proofs.LaysC.n174 Tryz.prog Tryz.laysC174_ren:={
 mixed:=by kernel_rfl
 f129:=Tryz.func279.trans (congrArg some (by kernel_rfl))
 f171:=Tryz.func297.trans (congrArg some (by kernel_rfl))
 f174:=Tryz.func277.trans (congrArg some (by kernel_rfl))
 f205:=Tryz.func296.trans (congrArg some (by kernel_rfl))
 f243:=Tryz.func298.trans (congrArg some (by kernel_rfl))
 f245:=Tryz.func285.trans (congrArg some (by kernel_rfl))
 f246:=Tryz.func263.trans (congrArg some (by kernel_rfl))
 f247:=Tryz.func284.trans (congrArg some (by kernel_rfl))
 f279:=Tryz.func289.trans (congrArg some (by kernel_rfl))
 f280:=Tryz.func290.trans (congrArg some (by kernel_rfl))
 f281:=Tryz.func291.trans (congrArg some (by kernel_rfl))
 f282:=Tryz.func292.trans (congrArg some (by kernel_rfl))
 f283:=Tryz.func269.trans (congrArg some (by kernel_rfl))
 f284:=Tryz.func270.trans (congrArg some (by kernel_rfl))
 f285:=Tryz.func271.trans (congrArg some (by kernel_rfl))
 f286:=Tryz.func272.trans (congrArg some (by kernel_rfl))
 f287:=Tryz.func288.trans (congrArg some (by kernel_rfl))
 f316:=Tryz.func295.trans (congrArg some (by kernel_rfl))
 f317:=Tryz.func278.trans (congrArg some (by kernel_rfl))
 f318:=Tryz.func280.trans (congrArg some (by kernel_rfl))
 f319:=Tryz.func281.trans (congrArg some (by kernel_rfl))
 f320:=Tryz.func282.trans (congrArg some (by kernel_rfl))
 f321:=Tryz.func293.trans (congrArg some (by kernel_rfl))
 f322:=Tryz.func294.trans (congrArg some (by kernel_rfl))
 f337:=Tryz.func286.trans (congrArg some (by kernel_rfl))
 f338:=Tryz.func287.trans (congrArg some (by kernel_rfl))
 t0:=Tryz.underlying0
 a0:=Tryz.isAgg0
 z0:=Tryz.sizeOf0
 v0:=Tryz.zeroValue0
 t2:=Tryz.underlying2
 a2:=Tryz.isAgg2
 z2:=Tryz.sizeOf2
 v2:=Tryz.zeroValue2
 t3:=Tryz.underlying3
 a3:=Tryz.isAgg3
 z3:=Tryz.sizeOf3
 v3:=Tryz.zeroValue3
 t4:=Tryz.underlying4
 a4:=Tryz.isAgg4
 z4:=Tryz.sizeOf4
 v4:=Tryz.zeroValue4
 t5:=Tryz.underlying5
 a5:=Tryz.isAgg5
 z5:=Tryz.sizeOf5
 v5:=Tryz.zeroValue5
 t9:=Tryz.underlying9
 a9:=Tryz.isAgg9
 z9:=Tryz.sizeOf9
 v9:=Tryz.zeroValue9
 t20:=Tryz.underlying20
 a20:=Tryz.isAgg20
 z20:=Tryz.sizeOf20
 v20:=Tryz.zeroValue20
 t21:=Tryz.underlying21
 a21:=Tryz.isAgg21
 z21:=Tryz.sizeOf21
 v21:=Tryz.zeroValue21
 t37:=Tryz.underlying270
 a37:=Tryz.isAgg270
 z37:=Tryz.sizeOf270
 v37:=Tryz.zeroValue270
 t46:=Tryz.underlying241
 a46:=Tryz.isAgg241
 z46:=Tryz.sizeOf241
 v46:=Tryz.zeroValue241
 t51:=Tryz.underlying280
 a51:=Tryz.isAgg280
 z51:=Tryz.sizeOf280
 v51:=Tryz.zeroValue280
 t53:=Tryz.underlying264
 a53:=Tryz.isAgg264
 z53:=Tryz.sizeOf264
 v53:=Tryz.zeroValue264
 t75:=Tryz.underlying274
 a75:=Tryz.isAgg274
 z75:=Tryz.sizeOf274
 v75:=Tryz.zeroValue274
 t85:=Tryz.underlying275
 a85:=Tryz.isAgg275
 z85:=Tryz.sizeOf275
 v85:=Tryz.zeroValue275
 t127:=Tryz.underlying300
 a127:=Tryz.isAgg300
 z127:=Tryz.sizeOf300
 v127:=Tryz.zeroValue300
 t143:=Tryz.underlying301
 a143:=Tryz.isAgg301
 z143:=Tryz.sizeOf301
 v143:=Tryz.zeroValue301
 t145:=Tryz.underlying303
 a145:=Tryz.isAgg303
 z145:=Tryz.sizeOf303
 v145:=Tryz.zeroValue303
 t167:=Tryz.underlying287
 a167:=Tryz.isAgg287
 z167:=Tryz.sizeOf287
 v167:=Tryz.zeroValue287
 t168:=Tryz.underlying290
 a168:=Tryz.isAgg290
 z168:=Tryz.sizeOf290
 v168:=Tryz.zeroValue290
 t171:=Tryz.underlying267
 a171:=Tryz.isAgg267
 z171:=Tryz.sizeOf267
 v171:=Tryz.zeroValue267
 t173:=Tryz.underlying271
 a173:=Tryz.isAgg271
 z173:=Tryz.sizeOf271
 v173:=Tryz.zeroValue271
 t175:=Tryz.underlying288
 a175:=Tryz.isAgg288
 z175:=Tryz.sizeOf288
 v175:=Tryz.zeroValue288
 t210:=Tryz.underlying298
 a210:=Tryz.isAgg298
 z210:=Tryz.sizeOf298
 v210:=Tryz.zeroValue298
 t212:=Tryz.underlying279
 a212:=Tryz.isAgg279
 z212:=Tryz.sizeOf279
 v212:=Tryz.zeroValue279
 t213:=Tryz.underlying281
 a213:=Tryz.isAgg281
 z213:=Tryz.sizeOf281
 t232:=Tryz.underlying293
 a232:=Tryz.isAgg293
 z232:=Tryz.sizeOf293
 v232:=Tryz.zeroValue293
 t233:=Tryz.underlying294
 a233:=Tryz.isAgg294
 z233:=Tryz.sizeOf294
 v233:=Tryz.zeroValue294
 g15:=by kernel_rfl
 g16:=by kernel_rfl
 g17:=by kernel_rfl
 g18:=by kernel_rfl
 g19:=by kernel_rfl
 t80:=Tryz.underlying304
 a80:=Tryz.isAgg304
 z80:=Tryz.sizeOf304
 v80:=Tryz.zeroValue304
 i0:=by kernel_rfl
 i2:=by kernel_rfl
 i3:=by kernel_rfl
 i4:=by kernel_rfl
 i5:=by kernel_rfl
 i9:=by kernel_rfl
 i20:=by kernel_rfl
 i21:=by kernel_rfl
 i37:=by kernel_rfl
 i46:=by kernel_rfl
 i51:=by kernel_rfl
 i53:=by kernel_rfl
 i75:=by kernel_rfl
 i80:=by kernel_rfl
 i85:=by kernel_rfl
 i127:=by kernel_rfl
 i143:=by kernel_rfl
 i145:=by kernel_rfl
 i167:=by kernel_rfl
 i168:=by kernel_rfl
 i171:=by kernel_rfl
 i173:=by kernel_rfl
 i175:=by kernel_rfl
 i210:=by kernel_rfl
 i212:=by kernel_rfl
 i232:=by kernel_rfl
 i233:=by kernel_rfl
 m15:=by kernel_rfl
 m16:=by kernel_rfl
 m17:=by kernel_rfl
 m18:=by kernel_rfl
 m19:=by kernel_rfl
 c0:=by kernel_rfl
 c2:=by kernel_rfl
 c3:=by kernel_rfl
 c4:=by kernel_rfl
 c5:=by kernel_rfl
 c9:=by kernel_rfl
 c20:=by kernel_rfl
 c21:=by kernel_rfl
 c37:=by kernel_rfl
 c46:=by kernel_rfl
 c51:=by kernel_rfl
 c53:=by kernel_rfl
 c75:=by kernel_rfl
 c80:=by kernel_rfl
 c85:=by kernel_rfl
 c127:=by kernel_rfl
 c143:=by kernel_rfl
 c145:=by kernel_rfl
 c167:=by kernel_rfl
 c168:=by kernel_rfl
 c171:=by kernel_rfl
 c173:=by kernel_rfl
 c175:=by kernel_rfl
 c210:=by kernel_rfl
 c212:=by kernel_rfl
 c213:=by kernel_rfl
 c232:=by kernel_rfl
 c233:=by kernel_rfl }
def Tryz.lays99_ren:Go.Shelf.Ren:=⟨fun|99=>179|206=>223|n=>n,fun|9=>9|4=>4|3=>3|n=>n,fun|n=>n⟩
theorem Tryz.lays99:Go.Proofs.Lays.n99 Tryz.prog Tryz.lays99_ren:={
 mixed:=by kernel_rfl
 f99:=Tryz.func179.trans (congrArg some (by kernel_rfl))
 f206:=Tryz.func223.trans (congrArg some (by kernel_rfl))
 t3:=Tryz.underlying3
 a3:=Tryz.isAgg3
 z3:=Tryz.sizeOf3
 v3:=Tryz.zeroValue3
 t4:=Tryz.underlying4
 a4:=Tryz.isAgg4
 z4:=Tryz.sizeOf4
 v4:=Tryz.zeroValue4
 t9:=Tryz.underlying9
 a9:=Tryz.isAgg9
 z9:=Tryz.sizeOf9
 v9:=Tryz.zeroValue9 }
open Go.RowKit Go.Sort Go.Lib in
theorem Tryz.strconv_FormatInt_10 (n : Int) (h0 : -9223372036854775808 ≤ n) (h1 : n ≤ 9223372036854775807) (w : World) (htab : Lib.TabIs Tryz.prog w "internal/strconv.uint64pow10" .u64 Lib.pow10Tab) :
  Calls Tryz.prog 251 #[.int .i64 n,.int .i64 10] w fun e w'=>e=.returned (.string ⟨(Lib.itoa n).toArray⟩)∧∃ k os,w'=grow (w.drewN k) os:=Any.strconv_FormatInt_10 Tryz.laysM173 n h0 h1 w htab
open Go.RowKit in
theorem Tryz.strconv_ParseInt_10_at64_ok (s:ByteArray) (hmax:s.size≤9223372036854775806) (v:Int) (h:Lib.parseIntB 64 s.data.toList=.ok v) (w:World) :
  Calls Tryz.prog 277 #[.string s,.int .i64 10,.int .i64 64] w fun e w'=>e=.returned (.tuple #[.int .i64 v,.nilIface])∧(w'=w∨∃ t,w'=Lib.bytesWorld w 5 t):=Any.strconv_ParseInt_10_at64_ok Tryz.laysC174 s hmax v h w
open Go.RowKit in
theorem Tryz.strconv_ParseInt_10_at64_syntax (s:ByteArray) (hlim:s.size≤281474976710656) (h:Lib.parseIntB 64 s.data.toList=Lib.NumEnd.syntax) (ev:Value) (w:World) (hv:w.cell? ⟨5,0,none⟩=some ev) (hev:ev=.nilIface∨∃ te pe,ev=.iface te pe) :
  Calls Tryz.prog 277 #[.string s,.int .i64 10,.int .i64 64] w fun e w'=>∃ N,e=.returned (.tuple #[.int .i64 (0),.iface 290 (.pointer (some ⟨N,0,none⟩))])∧w.heap.size≤N∧w'.heap[N]?=some (.cells #[.string ⟨#[80,97,114,115,101,73,110,116]⟩,.string s,ev] 298 (0,0))∧Below w.heap.size w w':=Any.strconv_ParseInt_10_at64_syntax Tryz.laysC174 s hlim h ev w hv hev
open Go.RowKit in
theorem Tryz.strconv_ParseInt_10_at64_range (s:ByteArray) (hlim:s.size≤281474976710656) (h:Lib.parseIntB 64 s.data.toList=.range) (ev:Value) (w:World) (hv:w.cell? ⟨6,0,none⟩=some ev) (hev:ev=.nilIface∨∃ te pe,ev=.iface te pe) :
  Calls Tryz.prog 277 #[.string s,.int .i64 10,.int .i64 64] w fun e w'=>∃ N,e=.returned (.tuple #[.int .i64 (Lib.intSat 64 s.data.toList),.iface 290 (.pointer (some ⟨N,0,none⟩))])∧w.heap.size≤N∧w'.heap[N]?=some (.cells #[.string ⟨#[80,97,114,115,101,73,110,116]⟩,.string s,ev] 298 (0,0))∧Below w.heap.size w w':=Any.strconv_ParseInt_10_at64_range Tryz.laysC174 s hlim h ev w hv hev
open Go.RowKit Go.Lib in
theorem Tryz.strings_HasPrefix (s p:ByteArray) (w:World) :
  Calls Tryz.prog 179 #[.string s,.string p] w fun e w'=>e=.returned (.bool (Lib.hasPrefix s.data.toList p.data.toList))∧w'=w:=Any.strings_HasPrefix Tryz.lays99 s p w
def Tryz.lays196_ren:Go.Shelf.Ren:=⟨fun|196=>246|259=>259|n=>n,fun|9=>9|4=>4|3=>3|5=>5|12=>12|119=>252|0=>0|46=>241|139=>255|138=>254|53=>264|n=>n,fun|3=>0|4=>1|n=>n⟩
theorem Tryz.lays196:Go.Proofs.Lays.n196 Tryz.prog Tryz.lays196_ren:={
 mixed:=by kernel_rfl
 f196:=Tryz.func246.trans (congrArg some (by kernel_rfl))
 f259:=Tryz.func259.trans (congrArg some (by kernel_rfl))
 t0:=Tryz.underlying0
 a0:=Tryz.isAgg0
 z0:=Tryz.sizeOf0
 v0:=Tryz.zeroValue0
 t3:=Tryz.underlying3
 a3:=Tryz.isAgg3
 z3:=Tryz.sizeOf3
 v3:=Tryz.zeroValue3
 t4:=Tryz.underlying4
 a4:=Tryz.isAgg4
 z4:=Tryz.sizeOf4
 v4:=Tryz.zeroValue4
 t5:=Tryz.underlying5
 a5:=Tryz.isAgg5
 z5:=Tryz.sizeOf5
 v5:=Tryz.zeroValue5
 t9:=Tryz.underlying9
 a9:=Tryz.isAgg9
 z9:=Tryz.sizeOf9
 v9:=Tryz.zeroValue9
 t12:=Tryz.underlying12
 a12:=Tryz.isAgg12
 z12:=Tryz.sizeOf12
 v12:=Tryz.zeroValue12
 t46:=Tryz.underlying241
 a46:=Tryz.isAgg241
 z46:=Tryz.sizeOf241
 v46:=Tryz.zeroValue241
 t53:=Tryz.underlying264
 a53:=Tryz.isAgg264
 z53:=Tryz.sizeOf264
 v53:=Tryz.zeroValue264
 t119:=Tryz.underlying252
 a119:=Tryz.isAgg252
 z119:=Tryz.sizeOf252
 t138:=Tryz.underlying254
 a138:=Tryz.isAgg254
 z138:=Tryz.sizeOf254
 v138:=Tryz.zeroValue254
 t139:=Tryz.underlying255
 a139:=Tryz.isAgg255
 z139:=Tryz.sizeOf255
 v139:=Tryz.zeroValue255
 g3:=by kernel_rfl
 g4:=by kernel_rfl }
end Go.Proofs
namespace Go.Proofs.YtbjofkamhijjlaaGreatDoor
open Go.Ab Go.RowKit Go.Sort Go.Lib
theorem zoH {γ:Gh} {w w':World} (h:Below w.heap.size w w'):Ext (fun _=>False) γ w γ w':=by
 refine⟨⟨h.size,fun b o v hc hp=>⟨hp,?_⟩,fun b arr E fr hb=>⟨arr,?_,rfl⟩⟩,h.os,h.output,fun a ha=>?_,fun b hb _=>⟨rfl,h.block b hb⟩⟩
 ·have hlt:=World.block_lt_of_cell? w _ hc
  unfold World.cell? at hc ⊢
  rw[h.block _ hlt];exact hc
 ·have hlt:=(zck.1 hb).1
  rw[h.block b hlt];exact hb
 ·exact World.frozen?_of_block (h.block _ ha)
theorem zg.of_below {P:Program} {f:FuncId} {args:List AV} {r:AV} (h:∀(γ:Gh) (w:World) (vs:List Value),za9 γ w→yg γ w args vs→Calls P f vs.toArray w fun e w'=>Below w.heap.size w w'∧∃ v,e=.returned v∧Rep γ w' r v):zg P f args r:=by
 intro γ w vs ht _ hv
 refine(h γ w vs ht hv).mono fun e w' ⟨hw,v,he,hr⟩=>?_
 subst he
 exact⟨γ,zb.emp,.ret r,(zoH hw).weaken fun _ f=>f.elim,fun b o hb=>by simp[zb.emp] at hb,fun b hb=>by simp[zb.emp] at hb,hr,rfl,rfl⟩
theorem below_grow (w:World) (k:Nat) (os:Array Obj):Below w.heap.size w (grow (w.drewN k) os):=by
 refine⟨rfl,rfl,rfl,?_,fun i hi=>?_⟩
 ·show w.heap.size≤(w.heap++os).size;simp
 ·show (w.heap++os)[i]?=w.heap[i]?
  rw[Array.getElem?_append_left hi]
theorem zlN (w:World) (e:TypeId) (t:ByteArray):Below w.heap.size w (Lib.bytesWorld w e t):=by
 have h1:Below w.heap.size w (w.drew.alloc (.cells (bytesCells w e t) e)):=(Below.refl _ w).drew.alloc (Al4 _) _
 unfold Lib.bytesWorld World.freeze
 simp only[Nat.one_ne_zero,if_false]
 refine⟨h1.os,h1.tape,h1.output,?_,fun i hi=>?_⟩
 ·rw[Array.size_modify];exact h1.size
 ·rw[Array.getElem?_modify]
  have:¬ (w.heap.size=i):=by omega
  simp only[this,if_false]
  exact h1.block i hi
theorem zhL {γ:Gh} {w:World} (h:za9 γ w) {i b:Nat} {ps:List (Value→Prop)} (hi:zqK[i]?=some (b,ps)) {j:Nat} {p:Value→Prop} (hj:ps[j]?=some p):∃ v,w.cell? ⟨b,j,none⟩=some v∧p v:=by
 obtain⟨v,h1,h2⟩:=(h _ (List.mem_of_getElem? hi)).2 j p hj
 exact⟨v,h1.1,h2⟩
theorem zrJ:∀ c:Fin 256,Go.Pinned.utf8FirstZ[c.val]?=some (Lib.firstT c.val):=by decide +kernel
def zmK:List Nat:=[128,191,160,191,128,159,144,191,128,143,0,0,0,0,0,0,0,0,0,0,0,0,0,0,0,0,0,0,0,0,0,0]
theorem zuR:∀ c:Fin 16,zmK[2*c.val]?=some (Lib.accLo c.val)∧zmK[2*c.val+1]?=some (Lib.accHi c.val):=by decide +kernel
theorem zrU {γ:Gh} {w:World} (h:za9 γ w):Lib.Utf8Tabs 0 1 w:=by
 refine⟨fun c hc=>?_,fun c hc=>?_⟩
 ·have hf:=zrJ ⟨c,hc⟩
  obtain⟨v,h1,h2⟩:=zhL h (i:=0) rfl (j:=c) (p:=fun v=>v=.int .u8 (Lib.firstT c)) (by rw[YH,hf];rfl)
  rw[h1,h2]
 ·obtain⟨g1,g2⟩:=zuR ⟨c,hc⟩
  have hi:zqK[1]?=some (1,zmK.map fun(n:Nat) (v:Value)=>v=.int .u8 n):=rfl
  obtain⟨v,h1,h2⟩:=zhL h hi (j:=2*c) (p:=fun v=>v=.int .u8 (Lib.accLo c)) (by rw[YH,g1];rfl)
  obtain⟨u,h3,h4⟩:=zhL h hi (j:=2*c+1) (p:=fun v=>v=.int .u8 (Lib.accHi c)) (by rw[YH,g2];rfl)
  exact⟨by rw[h1,h2],by rw[h3,h4]⟩
theorem zsQ {γ:Gh} {w:World} {s:List UInt8} {vs:List Value} (h:yg γ w [.str s] vs):vs=[.string ⟨s.toArray⟩]:=by
 obtain⟨hl,hr⟩:=h
 match vs,hl with
 | [v],_=>cases hr 0 _ _ rfl rfl;rfl
theorem zuT (s:List UInt8) (hs:s.length≤9223372036854775807):zg Tryz.prog 246 [.str s] (.bool (Lib.validD s)):=by
 refine zg.of_below fun γ w vs ht hv=>?_
 rw[zsQ hv]
 have h:=Any.utf8_ValidString Tryz.lays196 ⟨s.toArray⟩ w (by simpa[ByteArray.size] using hs) (zrU ht)
 refine Calls.mono h fun e w' ⟨he,hb⟩=>⟨hb,_,he,.bool _⟩
theorem zjD (s p:List UInt8):zg Tryz.prog 179 [.str s,.str p] (.bool (p.isPrefixOf s)):=by
 refine zg.of_below fun γ w vs ht hv=>?_
 obtain⟨hl,hr⟩:=hv
 match vs,hl with
 | [v,u],_ =>
  cases hr 0 _ _ rfl rfl
  cases hr 1 _ _ rfl rfl
  exact(Tryz.strings_HasPrefix ⟨s.toArray⟩ ⟨p.toArray⟩ w).mono fun e w' ⟨he,hw⟩=>⟨by rw[hw];exact Below.refl _ _,_,he,.bool _⟩
def zrK:List Nat:=[1,10,100,1000,10000,100000,1000000,10000000,100000000,1000000000,10000000000,100000000000,1000000000000,10000000000000,100000000000000,1000000000000000,10000000000000000,100000000000000000,1000000000000000000,10000000000000000000]
theorem zlj:zrK.length=20:=rfl
theorem zlC:Lib.pow10Tab=zrK.map fun(n:Nat)=>(n:Int):=by decide +kernel
theorem zwa {γ : Gh} {w : World} (ht : za9 γ w) : Lib.TabIs Tryz.prog w "internal/strconv.uint64pow10" .u64 Lib.pow10Tab := by
 have hmem:zqK[2]?=some (2,zrK.map fun(n:Nat) (v:Value)=>v=.int .u64 n):=rfl
 obtain⟨⟨arr,E,fr,g1,g2⟩,g3⟩:=ht _ (List.mem_of_getElem? hmem)
 have hg : Tryz.prog.globalNamed "internal/strconv.uint64pow10" = some 2 := by kernel_rfl
 unfold Lib.TabIs World.var?
 rw[hg]
 simp only[Option.bind_some]
 rw[show w.heap[2]?=_ from g1]
 simp only[Al1]
 refine Array.ext_getElem? fun j=>?_
 simp only[List.length_map] at g2
 by_cases hj:j<20
 ·have hj':j<zrK.length:=hj
  obtain⟨v,h1,h2⟩:=g3 j (fun v=>v=.int .u64 ((zrK[j]:Nat):Int)) (by rw[YH,Al9 hj'];rfl)
  have h3:=h1.1
  simp only[World.cell?] at h3
  rw[show w.heap[2]?=_ from g1] at h3
  have h4:arr[j]?=some v:=by simpa using h3
  rw[h4,h2,zlC]
  simp only[List.map_map,List.getElem?_toArray,YH,Al9 hj',zak,Function.comp]
 ·rw[Array.getElem?_eq_none (by rw[g2,zlj];omega),Array.getElem?_eq_none (by simp[zlC,zlj];omega)]
theorem zms (n:Int) (h0:-9223372036854775808≤n) (h1:n≤9223372036854775807):zg Tryz.prog 251 [.int .i64 n,.int .i64 10] (.str (Lib.itoa n)):=by
 refine zg.of_below fun γ w vs ht hv=>?_
 obtain⟨hl,hr⟩:=hv
 match vs,hl with
 | [v,u],_ =>
  cases hr 0 _ _ rfl rfl
  cases hr 1 _ _ rfl rfl
  exact(Tryz.strconv_FormatInt_10 n h0 h1 w (zwa ht)).mono fun e w' ⟨he,k,os,hw⟩=>⟨by rw[hw];exact below_grow _ _ _,_,he,.str _⟩
theorem zlt {γ:Gh} {w:World} (h:za9 γ w):∃ v,w.cell? ⟨6,0,none⟩=some v∧∃ te pe,v=.iface te pe:=zhL h (i:=6) rfl (j:=0) rfl
theorem zju {γ:Gh} {w:World} (h:za9 γ w):∃ v,w.cell? ⟨5,0,none⟩=some v∧∃ te pe,v=.iface te pe:=zhL h (i:=5) rfl (j:=0) rfl
def zhp (s:List UInt8):AV :=
 match Lib.parseIntB 64 s with
 | .ok v=>.tup [.int .i64 v,.oth .nilIface]
 | Lib.NumEnd.syntax=>.tup [.int .i64 0,.ifc 290 .any]
 | .range=>.tup [.int .i64 (Lib.intSat 64 s),.ifc 290 .any]
theorem zjB {γ:Gh} {w:World} {a b:AV} {v u:Value} (h1:Rep γ w a v) (h2:Rep γ w b u):Rep γ w (.tup [a,b]) (.tuple #[v,u]):=.tup _ [v,u] rfl (yg.cons h1 (yg.cons h2 yg.nil)).2
theorem zoF (s:List UInt8) (hs:s.length≤281474976710656):zg Tryz.prog 277 [.str s,.int .i64 10,.int .i64 64] (zhp s):=by
 refine zg.of_below fun γ w vs ht hv=>?_
 obtain⟨hl,hr⟩:=hv
 match vs,hl with
 | [v,u,x],_ =>
  cases hr 0 _ _ rfl rfl
  cases hr 1 _ _ rfl rfl
  cases hr 2 _ _ rfl rfl
  have hsz:(⟨s.toArray⟩:ByteArray).size=s.length:=rfl
  unfold zhp
  rcases hp:Lib.parseIntB 64 s with v|_|_
  ·refine(Tryz.strconv_ParseInt_10_at64_ok ⟨s.toArray⟩ (by rw[hsz];omega) v hp w).mono fun e w' ⟨he,hw⟩=>⟨?_,_,he,zjB (.int _ _) (.oth _)⟩
   rcases hw with rfl|⟨t,rfl⟩
   ·exact Below.refl _ _
   ·exact zlN _ _ _
  ·obtain⟨ev,h1,h2⟩:=zju ht
   exact(Tryz.strconv_ParseInt_10_at64_syntax ⟨s.toArray⟩ (by rw[hsz];omega) hp ev w h1 (.inr h2)).mono fun e w' ⟨N,he,_,_,hb⟩=>⟨hb,_,he,zjB (.int _ _) (.ifc _ _ _ (.any _))⟩
  ·obtain⟨ev,h1,h2⟩:=zlt ht
   exact(Tryz.strconv_ParseInt_10_at64_range ⟨s.toArray⟩ (by rw[hsz];omega) hp ev w h1 (.inr h2)).mono fun e w' ⟨N,he,_,_,hb⟩=>⟨hb,_,he,zjB (.int _ _) (.ifc _ _ _ (.any _))⟩
end Go.Proofs.YtbjofkamhijjlaaGreatDoor
namespace Go.Proofs.YtbjofkamhijjlaaGreatDoor
open Go.Ab Go.Lib
open Go.ChangeShapes Go.WideShapes Go.ChangeAt Go.RowKit Go.WideElems
mutual
theorem zbA {H:Type}:∀ d:DataW H,Rows.uptoBulk d=blk d
 | .lit (.string _)=>rfl
 | .lit (.bool _)=>rfl
 | .lit (.int _ _)=>rfl
 | .lit (.float _ _)=>rfl
 | .lit .nil=>rfl
 | .nil=>rfl
 | .ptr d=>by simp only[Rows.uptoBulk,blk,zbA d]
 | .slice e s=>by simp only[Rows.uptoBulk,blk,zbq e,zbq s]
 | .agg e=>by simp only[Rows.uptoBulk,blk,zbq e]
 | .iface _ d=>by simp only[Rows.uptoBulk,blk,zbA d]
 | .map e=>by simp only[Rows.uptoBulk,blk,zi2 e]
 | .held _=>rfl
theorem zbq {H:Type}:∀ d:List (DataW H),Rows.uptoBulkAll d=Yq d
 | []=>rfl
 | d::r=>by simp only[Rows.uptoBulkAll,Yq,zbA d,zbq r]
theorem zi2 {H:Type}:∀ d:List (Lit×DataW H),Rows.uptoBulkEntries d=znJ d
 | []=>rfl
 | x::r=>by simp only[Rows.uptoBulkEntries,znJ,zqN x,zi2 r]
theorem zqN {H:Type}:∀ d:Lit×DataW H,Rows.uptoBulkEntry d=zmu d
 | (.string _,d)=>by simp only[Rows.uptoBulkEntry,zmu,zbA d]
 | (.bool _,d)=>by simp only[Rows.uptoBulkEntry,zmu,zbA d]
 | (.int _ _,d)=>by simp only[Rows.uptoBulkEntry,zmu,zbA d]
 | (.float _ _,d)=>by simp only[Rows.uptoBulkEntry,zmu,zbA d]
 | (.nil,d)=>by simp only[Rows.uptoBulkEntry,zmu,zbA d]
end
def Y6 (W:World) (g:Nat) (ps:List (Value→Prop)):Prop :=
 (∃(arr:Array Value) (E:TypeId) (fr:Nat×Nat),W.heap[g]?=some (.cells arr E fr)∧arr.size=ps.length)∧∀(j:Nat) (p:Value→Prop),ps[j]?=some p→∃ v,CellIs zhy W g j v∧p v
theorem zco {W:World} {n:String} {g:Nat} {cs:Array Value} {ps:List (Value→Prop)} (hg:Tryz.prog.globalNamed n=some g) (hv:W.var? Tryz.prog n=some cs) (hl:cs.size=ps.length)
  (h:∀(j:Nat) (p:Value→Prop) v,ps[j]?=some p→cs[j]?=some v→v.oneCell'=true∧p v):Y6 W g ps:=by
 refine⟨?_,fun j p hp=>?_⟩
 ·have h1:=hv
  simp only[World.var?,hg,Option.bind_some] at h1
  split at h1
  ·rename_i c t fr he
   cases h1
   exact⟨_,_,_,he,hl⟩
  ·cases h1
 ·have hj:j<cs.size:=by
   have:=(Z4.1 hp).1
   omega
  have h1:=h j p cs[j] hp (Array.getElem?_eq_getElem hj)
  refine⟨cs[j],⟨?_,trivial,h1.1⟩,h1.2⟩
  rw[World.var?_cell hg hv j,Array.getElem?_eq_getElem hj]
theorem zcj {W:World} {n:String} {g cnt:Nat} {t e:TypeId} {k:IntKind} {zs:List Nat} (hg:Tryz.prog.globalNamed n=some g) (hty:(Tryz.prog.globals[g]?).map (·.type)=some t) (ht:Tryz.prog.underlying t=some (.array cnt e)) (he:Tryz.prog.underlying e=some (.int k)) (hce:Tryz.prog.cellsOf e=1) (hct:Tryz.prog.cellsOf t=cnt)
  (h:VarReads Tryz.prog W n (tabData k (zs.map fun(z:Nat)=>(z:Int)))):Y6 W g (zs.map fun(z:Nat) (v:Value)=>v=.int k z):=by
 obtain⟨g',t',cs,fuel,p,hg',ht',hvar,hd⟩:=h
 obtain rfl:=Option.some.inj (hg.symm.trans hg')
 obtain rfl:=Option.some.inj (hty.symm.trans ht')
 have hcs:=cells_of_tab ht he hce hct hd
 refine zco hg hvar (by rw[← Array.length_toList,hcs];simp) fun j p v hp hj=>?_
 rw[← Array.getElem?_toList,hcs] at hj
 simp only[YH,zdp] at hp hj
 obtain⟨z,hz,rfl⟩:=hp
 obtain⟨y,⟨z',hz',rfl⟩,rfl⟩:=hj
 rw[hz] at hz'
 cases hz'
 exact⟨rfl,rfl⟩
theorem u8x:U8Extra Tryz.prog Tryz.lays196_ren:=⟨by kernel_rfl,by kernel_rfl,by kernel_rfl,by kernel_rfl,by kernel_rfl,by kernel_rfl,by kernel_rfl⟩
theorem ztI:∀ c:Fin 32,zmK[c.val]?=some (if c.val % 2=0 then Lib.accLo (c.val / 2) else Lib.accHi (c.val / 2)):=by decide +kernel
theorem zjw {W : World} (h1 : VarReads Tryz.prog W "unicode/utf8.first" firstData) (h2 : VarReads Tryz.prog W "unicode/utf8.acceptRanges" acceptData) : Y6 W 1 (zmK.map fun (n : Nat) (v : Value) => v = .int .u8 n) := by
 have ht:=utf8Tabs_of_readsT (U8Types.of196 Tryz.lays196) u8x h1 h2
 obtain⟨g',t',cs,fuel,p,hg',ht',hvar,hd⟩:=h2
 obtain rfl := Option.some.inj ((show Tryz.prog.globalNamed "unicode/utf8.acceptRanges" = some 1 by kernel_rfl).symm.trans hg')
 obtain rfl:=Option.some.inj (u8x.y4.symm.trans ht')
 have hcs:cs.size=32:=by
  have h3:fuel≠0:=fun e=>by subst e;simp[DataW.trod] at hd
  obtain⟨fuel,rfl⟩:=Nat.exists_eq_succ_of_ne_zero h3
  have h4:cs.toList.length=Tryz.prog.cellsOf (Tryz.lays196_ren.t 139):=by
   have hu:=(U8Types.of196 Tryz.lays196).t139
   simp only[DataW.trod,hu,u8x.c138] at hd
   split at hd
   ·rename_i hl;simpa using hl
   ·cases hd
  rw[← Array.length_toList,h4];exact(show Tryz.prog.cellsOf (Tryz.lays196_ren.t 139)=32 by kernel_rfl)
 refine zco hg' hvar (by rw[hcs];rfl) fun j p v hp hj=>?_
 have hj32:j<32:=by rw[← hcs];exact(zck.1 hj).1
 simp only[YH,zdp] at hp
 obtain⟨z,hz,rfl⟩:=hp
 rw[ztI ⟨j,hj32⟩] at hz
 cases hz
 have ⟨a1,a2⟩:=ht.2 (j / 2) (by omega)
 rcases Nat.mod_two_eq_zero_or_one j with e|e
 ·have e2:2*(j / 2)=j:=by omega
  rw[e2] at a1
  have h5:=(World.var?_cell hg' hvar j).symm.trans a1
  rw[hj] at h5
  cases h5
  simp[e,Value.oneCell']
 ·have e2:2*(j / 2)+1=j:=by omega
  rw[e2] at a2
  have h5:=(World.var?_cell hg' hvar j).symm.trans a2
  rw[hj] at h5
  cases h5
  simp[e,Value.oneCell']
theorem ziJ {W:World} {n:String} {g:Nat} {t:TypeId} {s:String} {d:DataW Unit} (hg:Tryz.prog.globalNamed n=some g) (hty:(Tryz.prog.globals[g]?).map (·.type)=some t) {ms:Array (String×TypeId)} (hu:Tryz.prog.underlying t=some (.interface ms)) (h:VarReads Tryz.prog W n (.iface s d)):Y6 W g [fun v=>∃ te pe,v=.iface te pe]:=by
 obtain⟨g',t',cs,fuel,p,hg',ht',hvar,hd⟩:=h
 obtain rfl:=Option.some.inj (hg.symm.trans hg')
 obtain rfl:=Option.some.inj (hty.symm.trans ht')
 have h1:∃ te pe,cs.toList=[.iface te pe]:=by
  cases fuel with
  | zero=>simp[DataW.trod] at hd
  | succ fuel =>
   simp only[DataW.trod,hu] at hd
   split at hd
   all_goals first
    | (cases hd;done)
    | skip
   all_goals simp_all
   done
 obtain⟨te,pe,he⟩:=h1
 refine zco hg hvar (by rw[← Array.length_toList,he];rfl) fun j p v hp hj=>?_
 rw[← Array.getElem?_toList,he] at hj
 match j,hp,hj with
 | 0,hp,hj=>cases hp;cases hj;exact⟨rfl,_,_,rfl⟩
 | j+1,hp,hj=>simp at hp
abbrev T64:List Nat:=[1,10,100,1000,10000,100000,1000000,10000000,100000000,1000000000,10000000000,100000000000,1000000000000,10000000000000,100000000000000,1000000000000000,10000000000000000,100000000000000000,1000000000000000000,10000000000000000000]
abbrev B32:List Nat:=[0,1,28,2,29,14,24,3,30,22,20,15,25,17,4,8,31,27,13,23,21,19,16,7,26,12,18,6,11,5,10,9]
abbrev B64:List Nat:=[0,1,56,2,57,49,28,3,61,58,42,50,38,29,17,4,62,47,59,36,45,43,51,22,53,39,33,30,24,18,12,5,63,55,48,27,60,41,37,16,46,35,44,21,52,32,23,11,54,26,40,15,34,20,31,10,25,14,19,9,13,8,7,6]
abbrev zkI : List (String × DataW Unit) := [("math/bits.deBruijn32tab", Rows.laid_math_bits_deBruijn32tab), ("math/bits.deBruijn64tab", Rows.laid_math_bits_deBruijn64tab), ("internal/strconv.uint64pow10", Rows.laid_internal_strconv_uint64pow10), ("unicode/utf8.acceptRanges", Rows.laid_unicode_utf8_acceptRanges), ("strconv.ErrRange", Rows.laid_strconv_ErrRange), ("strconv.ErrSyntax", Rows.laid_strconv_ErrSyntax), ("unicode/utf8.first", Rows.laid_unicode_utf8_first)]
theorem ztq {W:World} (hL:laidMetH Tryz.prog zkI W) (hS:W.ShapedOpen Tryz.prog):za9 zhy W:=by
 have hL':laidMet Tryz.prog zkI W:=hL
 have m1 : VarReads Tryz.prog W "unicode/utf8.first" (tabData .u8 (Go.Pinned.utf8FirstZ.map fun (z : Nat) => (z : Int))) := laidMet.reads hL' (d := Rows.laid_unicode_utf8_first) (.tail _ (.tail _ (.tail _ (.tail _ (.tail _ (.tail _ (.head _)))))))
 have m2 : VarReads Tryz.prog W "unicode/utf8.acceptRanges" acceptData := laidMet.reads hL' (d := Rows.laid_unicode_utf8_acceptRanges) (.tail _ (.tail _ (.tail _ (.head _))))
 have m3 : VarReads Tryz.prog W "internal/strconv.uint64pow10" (tabData .u64 (T64.map fun (z : Nat) => (z : Int))) := laidMet.reads hL' (d := Rows.laid_internal_strconv_uint64pow10) (.tail _ (.tail _ (.head _)))
 have m4 : VarReads Tryz.prog W "math/bits.deBruijn32tab" (tabData .u8 (B32.map fun (z : Nat) => (z : Int))) := laidMet.reads hL' (d := Rows.laid_math_bits_deBruijn32tab) (.head _)
 have m5 : VarReads Tryz.prog W "math/bits.deBruijn64tab" (tabData .u8 (B64.map fun (z : Nat) => (z : Int))) := laidMet.reads hL' (d := Rows.laid_math_bits_deBruijn64tab) (.tail _ (.head _))
 have m6 : VarReads Tryz.prog W "strconv.ErrSyntax" Rows.laid_strconv_ErrSyntax := laidMet.reads hL' (.tail _ (.tail _ (.tail _ (.tail _ (.tail _ (.head _))))))
 have m7 : VarReads Tryz.prog W "strconv.ErrRange" Rows.laid_strconv_ErrRange := laidMet.reads hL' (.tail _ (.tail _ (.tail _ (.tail _ (.head _)))))
 have m8:firstData=tabData .u8 (Go.Pinned.utf8FirstZ.map fun(z:Nat)=>(z:Int)):=by kernel_rfl
 have e1:Y6 W 0 (Go.Pinned.utf8FirstZ.map fun(n:Nat) (v:Value)=>v=.int .u8 n) :=
  zcj (t:=Tryz.lays196_ren.t 119) u8x.n3 u8x.y3 (U8Types.of196 Tryz.lays196).t119 (U8Types.of196 Tryz.lays196).t5 u8x.c5 u8x.c119 m1
 have e2:Y6 W 1 (zmK.map fun(n:Nat) (v:Value)=>v=.int .u8 n):=zjw (m8▸m1) m2
 have e3:Y6 W 2 (T64.map fun(n:Nat) (v:Value)=>v=.int .u64 n) :=
  zcj (t:=279) (e:=264) (cnt:=20) (by kernel_rfl) (by kernel_rfl) (by kernel_rfl) (by kernel_rfl) (by kernel_rfl) (by kernel_rfl) m3
 have e4:Y6 W 3 (B32.map fun(n:Nat) (v:Value)=>v=.int .u8 n) :=
  zcj (t:=293) (e:=5) (cnt:=32) (by kernel_rfl) (by kernel_rfl) (by kernel_rfl) (by kernel_rfl) (by kernel_rfl) (by kernel_rfl) m4
 have e5:Y6 W 4 (B64.map fun(n:Nat) (v:Value)=>v=.int .u8 n) :=
  zcj (t:=294) (e:=5) (cnt:=64) (by kernel_rfl) (by kernel_rfl) (by kernel_rfl) (by kernel_rfl) (by kernel_rfl) (by kernel_rfl) m5
 have e6:Y6 W 5 [fun v=>∃ te pe,v=.iface te pe]:=ziJ (t:=274) (by kernel_rfl) (by kernel_rfl) Tryz.underlying274 m6
 have e7:Y6 W 6 [fun v=>∃ te pe,v=.iface te pe]:=ziJ (t:=274) (by kernel_rfl) (by kernel_rfl) Tryz.underlying274 m7
 intro x hx
 unfold zqK at hx
 simp only[List.mem_cons,List.not_mem_nil,or_false] at hx
 rcases hx with rfl|rfl|rfl|rfl|rfl|rfl|rfl<;>first|exact e1|exact e2|exact e3|exact e4|exact e5|exact e6|exact e7
noncomputable abbrev N0:Nat:=(World.settled Tryz.prog default).heap.size
noncomputable def laidWorld (os:Os):World :=
 let w0:=World.holding Tryz.prog os ⟨#[.cells #[.string ⟨#[105,110,118,97,108,105,100,32,115,121,110,116,97,120]⟩] 303,.cells #[.string ⟨#[118,97,108,117,101,32,111,117,116,32,111,102,32,114,97,110,103,101]⟩] 303],#[],[]⟩
 let put (h:Array Obj) (g:Nat) (cs:Array Value):Array Obj:=h.modify g fun
  | .cells _ t frozen=>.cells cs t frozen
  | o=>o
 let h1:=put w0.heap 0 (Go.Pinned.utf8FirstZ.map fun(z:Nat)=>Value.int .u8 z).toArray
 let h2:=put h1 1 (zmK.map fun(z:Nat)=>Value.int .u8 z).toArray
 let h3:=put h2 2 (T64.map fun(z:Nat)=>Value.int .u64 z).toArray
 let h4:=put h3 3 (B32.map fun(z:Nat)=>Value.int .u8 z).toArray
 let h5:=put h4 4 (B64.map fun(z:Nat)=>Value.int .u8 z).toArray
 let h6:=put h5 5 #[.iface 301 (.pointer (some ⟨(World.settled Tryz.prog os).heap.size,0,none⟩))]
 let h7:=put h6 6 #[.iface 301 (.pointer (some ⟨(World.settled Tryz.prog os).heap.size+1,0,none⟩))]
 { w0 with heap:=h7 }
theorem laid_met (os:Os) (args:Array Value):laidMet Tryz.prog zkI ((laidWorld os).forCall (fun _ _=>0) ⟨#[],args,[]⟩).memory :=
 (LaidIn.of_run (l:=zkI) [0,1,2,3,4,5,6,7,N0,N0+1] 8 (by kernel_rfl) (by kernel_rfl) (by kernel_rfl) (by kernel_rfl)).met
end Go.Proofs.YtbjofkamhijjlaaGreatDoor
