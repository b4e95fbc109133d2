import Derived.Shelf.Small.Wraps
import Derived.Shelf.Strconv.Itoa0
import Derived.Shelf.Strconv.Itoa1
import Derived.Shelf.LaysM
import Derived.Shelf.Strconv.Itoa2
import Derived.Shelf.Strconv.Itoa3
import Derived.Shelf.Strconv.Itoa4
import Derived.Shelf.Strconv.ParseIntEmpty
import Derived.Shelf.Strconv.Clone
import Derived.Shelf.Strconv.SyntaxError
import Derived.Shelf.LaysC
import Derived.Shelf.Strconv.ToError
import Derived.Shelf.Strconv.Lower
import Derived.Shelf.Strconv.ParseUint10
import Derived.Shelf.Strconv.ParseUint10Empty
import Derived.Shelf.Strconv.ParseUint10Any
import Derived.Shelf.Strconv.ParseInt10
import Derived.Shelf.Strconv.RangeError
import Derived.Shelf.Strconv.ToErrorRange
import Derived.Shelf.Strconv.ParseUintEmpty
import Derived.Shelf.Strconv.ParseUint10b64
import Derived.Shelf.Strconv.ParseUint10b32
import Derived.Shelf.Strconv.ParseUint10b16
import Derived.Shelf.Strconv.ParseUint10b8
import Derived.Shelf.Strconv.ParseUint10At
import Derived.Shelf.Strconv.ParseInt10At64
import Derived.Shelf.Strconv.ParseInt10At32
import Derived.Shelf.Strconv.ParseInt10At16
import Derived.Shelf.Strconv.ParseInt10At8
import Derived.Shelf.Strconv.ParseInt10All
import Derived.Shelf.Strconv.ParseIntPublic10
import Derived.Shelf.Strconv.ErrVarParseInt
import Derived.Shelf.Strings.Prefix
import Derived.Test.YtcbfcliickppiaaGreatDoorProg
import Derived.Shelf.Unicode.ValidAny
import Derived.Shelf.Unicode.DecodeAny
import Derived.Test.YtcbfcliickppiaaGreatDoorCards
import Derived.Test.YtcbfcliickppiaaGreatDoorTie
import Derived.Lib.LaidIn
import Derived.Lib.LaidU8T
import Derived.Lib.LaidTab
import Derived.Deep.DeepHandedRow
import Derived.Deep.DeepWitnessRowRef
import Derived.ProofKit
import Derived.SizedLaws
import Derived.OpenShut
import Derived.Test.YtcbfcliickppiaaGreatDoorM2
set_option maxRecDepth 100000
set_option linter.all false
namespace Go.Proofs
open Go.Shelf
def Tryz.laysM173_ren:Go.Shelf.Ren:=⟨λ|173=>398|246=>406|283=>410|284=>411|285=>412|286=>413|129=>421|317=>420|318=>422|319=>423|320=>424|337=>430|338=>431|n=>n,λ|2=>2|3=>3|9=>9|4=>4|171=>324|0=>0|53=>317|37=>327|5=>5|173=>328|212=>334|51=>335|20=>20|213=>336|46=>143|232=>351|233=>352|n=>n,λ|17=>2|18=>5|19=>6|n=>n⟩
def Tryz.laysM173:Go.Proofs.LaysM.n173 Tryz.prog Tryz.laysM173_ren:={
 mixed:=by kernel_rfl
 f129:=Tryz.func421.trans (congrArg some yw)
 f173:=Tryz.func398.trans (congrArg some yw)
 f246:=Tryz.func406.trans (congrArg some yw)
 f283:=Tryz.func410.trans (congrArg some yw)
 f284:=Tryz.func411.trans (congrArg some yw)
 f285:=Tryz.func412.trans (congrArg some yw)
 f286:=Tryz.func413.trans (congrArg some yw)
 f317:=Tryz.func420.trans (congrArg some yw)
 f318:=Tryz.func422.trans (congrArg some yw)
 f319:=Tryz.func423.trans (congrArg some yw)
 f320:=Tryz.func424.trans (congrArg some yw)
 f337:=Tryz.func430.trans (congrArg some yw)
 f338:=Tryz.func431.trans (congrArg some yw)
 t0:=Tryz.underlying0
 a0:=Tryz.isAgg0
 z0:=Tryz.sizeOf0
 v0:=Tryz.zeroValue0
 t2:=Tryz.underlying2
 a2:=Tryz.isAgg2
 z2:=Tryz.sizeOf2
 v2:=Tryz.zeroValue2
 t3:=Tryz.underlying3
 a3:=Tryz.isAgg3
 z3:=Tryz.sizeOf3
 v3:=Tryz.zeroValue3
 t4:=Tryz.underlying4
 a4:=Tryz.isAgg4
 z4:=Tryz.sizeOf4
 v4:=Tryz.zeroValue4
 t5:=Tryz.underlying5
 a5:=Tryz.isAgg5
 z5:=Tryz.sizeOf5
 v5:=Tryz.zeroValue5
 t9:=Tryz.underlying9
 a9:=Tryz.isAgg9
 z9:=Tryz.sizeOf9
 v9:=Tryz.zeroValue9
 t20:=Tryz.underlying20
 a20:=Tryz.isAgg20
 z20:=Tryz.sizeOf20
 v20:=Tryz.zeroValue20
 t37:=Tryz.underlying327
 a37:=Tryz.isAgg327
 z37:=Tryz.sizeOf327
 v37:=Tryz.zeroValue327
 t46:=Tryz.underlying143
 a46:=Tryz.isAgg143
 z46:=Tryz.sizeOf143
 v46:=Tryz.zeroValue143
 t51:=Tryz.underlying335
 a51:=Tryz.isAgg335
 z51:=Tryz.sizeOf335
 v51:=Tryz.zeroValue335
 t53:=Tryz.underlying317
 a53:=Tryz.isAgg317
 z53:=Tryz.sizeOf317
 v53:=Tryz.zeroValue317
 t171:=Tryz.underlying324
 a171:=Tryz.isAgg324
 z171:=Tryz.sizeOf324
 v171:=Tryz.zeroValue324
 t173:=Tryz.underlying328
 a173:=Tryz.isAgg328
 z173:=Tryz.sizeOf328
 v173:=Tryz.zeroValue328
 t212:=Tryz.underlying334
 a212:=Tryz.isAgg334
 z212:=Tryz.sizeOf334
 v212:=Tryz.zeroValue334
 t213:=Tryz.underlying336
 a213:=Tryz.isAgg336
 z213:=Tryz.sizeOf336
 t232:=Tryz.underlying351
 a232:=Tryz.isAgg351
 z232:=Tryz.sizeOf351
 v232:=Tryz.zeroValue351
 t233:=Tryz.underlying352
 a233:=Tryz.isAgg352
 z233:=Tryz.sizeOf352
 v233:=Tryz.zeroValue352
 g17:=by kernel_rfl
 g18:=by kernel_rfl
 g19:=by kernel_rfl
 i0:=by kernel_rfl
 i2:=by kernel_rfl
 i3:=by kernel_rfl
 i4:=by kernel_rfl
 i5:=by kernel_rfl
 i9:=by kernel_rfl
 i20:=by kernel_rfl
 i37:=by kernel_rfl
 i46:=by kernel_rfl
 i51:=by kernel_rfl
 i53:=by kernel_rfl
 i171:=by kernel_rfl
 i173:=by kernel_rfl
 i212:=by kernel_rfl
 i232:=by kernel_rfl
 i233:=by kernel_rfl
 m17:=by kernel_rfl
 m18:=by kernel_rfl
 m19:=by kernel_rfl }
def Tryz.laysC174_ren:Go.Shelf.Ren:=⟨λ|174=>409|247=>418|245=>419|287=>425|279=>426|280=>427|281=>428|282=>429|321=>432|322=>433|316=>434|171=>436|205=>435|243=>437|246=>406|283=>410|284=>411|285=>412|286=>413|129=>421|317=>420|318=>422|319=>423|320=>424|337=>430|338=>431|n=>n,λ|9=>9|3=>3|2=>2|75=>320|85=>321|4=>4|167=>339|5=>5|53=>317|175=>340|46=>143|168=>342|37=>327|0=>0|210=>349|21=>21|127=>353|145=>356|143=>354|171=>324|173=>328|212=>334|51=>335|20=>20|213=>336|232=>351|233=>352|80=>357|n=>n,λ|15=>3|16=>4|17=>2|18=>5|19=>6|n=>n⟩
def Tryz.laysC174:Go.Proofs.LaysC.n174 Tryz.prog Tryz.laysC174_ren:={
 mixed:=by kernel_rfl
 f129:=Tryz.func421.trans (congrArg some yw)
 f171:=Tryz.func436.trans (congrArg some yw)
 f174:=Tryz.func409.trans (congrArg some yw)
 f205:=Tryz.func435.trans (congrArg some yw)
 f243:=Tryz.func437.trans (congrArg some yw)
 f245:=Tryz.func419.trans (congrArg some yw)
 f246:=Tryz.func406.trans (congrArg some yw)
 f247:=Tryz.func418.trans (congrArg some yw)
 f279:=Tryz.func426.trans (congrArg some yw)
 f280:=Tryz.func427.trans (congrArg some yw)
 f281:=Tryz.func428.trans (congrArg some yw)
 f282:=Tryz.func429.trans (congrArg some yw)
 f283:=Tryz.func410.trans (congrArg some yw)
 f284:=Tryz.func411.trans (congrArg some yw)
 f285:=Tryz.func412.trans (congrArg some yw)
 f286:=Tryz.func413.trans (congrArg some yw)
 f287:=Tryz.func425.trans (congrArg some yw)
 f316:=Tryz.func434.trans (congrArg some yw)
 f317:=Tryz.func420.trans (congrArg some yw)
 f318:=Tryz.func422.trans (congrArg some yw)
 f319:=Tryz.func423.trans (congrArg some yw)
 f320:=Tryz.func424.trans (congrArg some yw)
 f321:=Tryz.func432.trans (congrArg some yw)
 f322:=Tryz.func433.trans (congrArg some yw)
 f337:=Tryz.func430.trans (congrArg some yw)
 f338:=Tryz.func431.trans (congrArg some yw)
 t0:=Tryz.underlying0
 a0:=Tryz.isAgg0
 z0:=Tryz.sizeOf0
 v0:=Tryz.zeroValue0
 t2:=Tryz.underlying2
 a2:=Tryz.isAgg2
 z2:=Tryz.sizeOf2
 v2:=Tryz.zeroValue2
 t3:=Tryz.underlying3
 a3:=Tryz.isAgg3
 z3:=Tryz.sizeOf3
 v3:=Tryz.zeroValue3
 t4:=Tryz.underlying4
 a4:=Tryz.isAgg4
 z4:=Tryz.sizeOf4
 v4:=Tryz.zeroValue4
 t5:=Tryz.underlying5
 a5:=Tryz.isAgg5
 z5:=Tryz.sizeOf5
 v5:=Tryz.zeroValue5
 t9:=Tryz.underlying9
 a9:=Tryz.isAgg9
 z9:=Tryz.sizeOf9
 v9:=Tryz.zeroValue9
 t20:=Tryz.underlying20
 a20:=Tryz.isAgg20
 z20:=Tryz.sizeOf20
 v20:=Tryz.zeroValue20
 t21:=Tryz.underlying21
 a21:=Tryz.isAgg21
 z21:=Tryz.sizeOf21
 v21:=Tryz.zeroValue21
 t37:=Tryz.underlying327
 a37:=Tryz.isAgg327
 z37:=Tryz.sizeOf327
 v37:=Tryz.zeroValue327
 t46:=Tryz.underlying143
 a46:=Tryz.isAgg143
 z46:=Tryz.sizeOf143
 v46:=Tryz.zeroValue143
 t51:=Tryz.underlying335
 a51:=Tryz.isAgg335
 z51:=Tryz.sizeOf335
 v51:=Tryz.zeroValue335
 t53:=Tryz.underlying317
 a53:=Tryz.isAgg317
 z53:=Tryz.sizeOf317
 v53:=Tryz.zeroValue317
 t75:=Tryz.underlying320
 a75:=Tryz.isAgg320
 z75:=Tryz.sizeOf320
 v75:=Tryz.zeroValue320
 t85:=Tryz.underlying321
 a85:=Tryz.isAgg321
 z85:=Tryz.sizeOf321
 v85:=Tryz.zeroValue321
 t127:=Tryz.underlying353
 a127:=Tryz.isAgg353
 z127:=Tryz.sizeOf353
 v127:=Tryz.zeroValue353
 t143:=Tryz.underlying354
 a143:=Tryz.isAgg354
 z143:=Tryz.sizeOf354
 v143:=Tryz.zeroValue354
 t145:=Tryz.underlying356
 a145:=Tryz.isAgg356
 z145:=Tryz.sizeOf356
 v145:=Tryz.zeroValue356
 t167:=Tryz.underlying339
 a167:=Tryz.isAgg339
 z167:=Tryz.sizeOf339
 v167:=Tryz.zeroValue339
 t168:=Tryz.underlying342
 a168:=Tryz.isAgg342
 z168:=Tryz.sizeOf342
 v168:=Tryz.zeroValue342
 t171:=Tryz.underlying324
 a171:=Tryz.isAgg324
 z171:=Tryz.sizeOf324
 v171:=Tryz.zeroValue324
 t173:=Tryz.underlying328
 a173:=Tryz.isAgg328
 z173:=Tryz.sizeOf328
 v173:=Tryz.zeroValue328
 t175:=Tryz.underlying340
 a175:=Tryz.isAgg340
 z175:=Tryz.sizeOf340
 v175:=Tryz.zeroValue340
 t210:=Tryz.underlying349
 a210:=Tryz.isAgg349
 z210:=Tryz.sizeOf349
 v210:=Tryz.zeroValue349
 t212:=Tryz.underlying334
 a212:=Tryz.isAgg334
 z212:=Tryz.sizeOf334
 v212:=Tryz.zeroValue334
 t213:=Tryz.underlying336
 a213:=Tryz.isAgg336
 z213:=Tryz.sizeOf336
 t232:=Tryz.underlying351
 a232:=Tryz.isAgg351
 z232:=Tryz.sizeOf351
 v232:=Tryz.zeroValue351
 t233:=Tryz.underlying352
 a233:=Tryz.isAgg352
 z233:=Tryz.sizeOf352
 v233:=Tryz.zeroValue352
 g15:=by kernel_rfl
 g16:=by kernel_rfl
 g17:=by kernel_rfl
 g18:=by kernel_rfl
 g19:=by kernel_rfl
 t80:=Tryz.underlying357
 a80:=Tryz.isAgg357
 z80:=Tryz.sizeOf357
 v80:=Tryz.zeroValue357
 i0:=by kernel_rfl
 i2:=by kernel_rfl
 i3:=by kernel_rfl
 i4:=by kernel_rfl
 i5:=by kernel_rfl
 i9:=by kernel_rfl
 i20:=by kernel_rfl
 i21:=by kernel_rfl
 i37:=by kernel_rfl
 i46:=by kernel_rfl
 i51:=by kernel_rfl
 i53:=by kernel_rfl
 i75:=by kernel_rfl
 i80:=by kernel_rfl
 i85:=by kernel_rfl
 i127:=by kernel_rfl
 i143:=by kernel_rfl
 i145:=by kernel_rfl
 i167:=by kernel_rfl
 i168:=by kernel_rfl
 i171:=by kernel_rfl
 i173:=by kernel_rfl
 i175:=by kernel_rfl
 i210:=by kernel_rfl
 i212:=by kernel_rfl
 i232:=by kernel_rfl
 i233:=by kernel_rfl
 m15:=by kernel_rfl
 m16:=by kernel_rfl
 m17:=by kernel_rfl
 m18:=by kernel_rfl
 m19:=by kernel_rfl
 c0:=by kernel_rfl
 c2:=by kernel_rfl
 c3:=by kernel_rfl
 c4:=by kernel_rfl
 c5:=by kernel_rfl
 c9:=by kernel_rfl
 c20:=by kernel_rfl
 c21:=by kernel_rfl
 c37:=by kernel_rfl
 c46:=by kernel_rfl
 c51:=by kernel_rfl
 c53:=by kernel_rfl
 c75:=by kernel_rfl
 c80:=by kernel_rfl
 c85:=by kernel_rfl
 c127:=by kernel_rfl
 c143:=by kernel_rfl
 c145:=by kernel_rfl
 c167:=by kernel_rfl
 c168:=by kernel_rfl
 c171:=by kernel_rfl
 c173:=by kernel_rfl
 c175:=by kernel_rfl
 c210:=by kernel_rfl
 c212:=by kernel_rfl
 c213:=by kernel_rfl
 c232:=by kernel_rfl
 c233:=by kernel_rfl }
def Tryz.lays99_ren:Go.Shelf.Ren:=⟨λ|99=>307|206=>350|n=>n,λ|9=>9|4=>4|3=>3|n=>n,λ|n=>n⟩
def Tryz.lays99:Go.Proofs.Lays.n99 Tryz.prog Tryz.lays99_ren:={
 mixed:=by kernel_rfl
 f99:=Tryz.func307.trans (congrArg some yw)
 f206:=Tryz.func350.trans (congrArg some yw)
 t3:=Tryz.underlying3
 a3:=Tryz.isAgg3
 z3:=Tryz.sizeOf3
 v3:=Tryz.zeroValue3
 t4:=Tryz.underlying4
 a4:=Tryz.isAgg4
 z4:=Tryz.sizeOf4
 v4:=Tryz.zeroValue4
 t9:=Tryz.underlying9
 a9:=Tryz.isAgg9
 z9:=Tryz.sizeOf9
 v9:=Tryz.zeroValue9 }
open Go.RowKit Go.Sort Go.Lib in
theorem Tryz.strconv_FormatInt_10 (n : Int) (h0 : -9223372036854775808 ≤ n) (h1 : n ≤ 9223372036854775807) (w : World) (htab : Lib.TabIs Tryz.prog w "internal/strconv.uint64pow10" .u64 Lib.pow10Tab) :
 Calls Tryz.prog 398 #[.int .i64 n,.int .i64 10] w λe w'=>e=.returned (.string ⟨(Lib.itoa n).toArray⟩)/\∃k os,w'=grow (w.drewN k) os:=Any.strconv_FormatInt_10 Tryz.laysM173 n h0 h1 w htab
open Go.RowKit in
def Tryz.strconv_ParseInt_10_at64_ok(s:ByteArray)(f:s.size<=9223372036854775806)(v:Int)(h:Lib.parseIntB 64 s.data.toList=.ok v)(w:World): Calls Tryz.prog 409 #[.string s,.int .i64 10,.int .i64 64] w λe w'=>e=.returned (.tuple #[.int .i64 v,.nilIface])/\(w'=w∨∃t,w'=Lib.bytesWorld w 5 t):=Any.strconv_ParseInt_10_at64_ok Tryz.laysC174 s f v h w
open Go.RowKit in
def Tryz.strconv_ParseInt_10_at64_syntax(s:ByteArray)(g:s.size<=281474976710656)(h:Lib.parseIntB 64 s.data.toList=Lib.NumEnd.syntax)(ev:Value)(w:World)(j:w.cell? ⟨3,0,none⟩=some ev)(f:ev=.nilIface∨∃v p,ev=.iface v p): Calls Tryz.prog 409 #[.string s,.int .i64 10,.int .i64 64] w λe w'=>∃N,e=.returned (.tuple #[.int .i64 (0),.iface 342 (.pointer (some ⟨N,0,none⟩))])/\w.heap.size<=N/\w'.heap[N]?=some (.cells #[.string ⟨#[80,97,114,115,101,73,110,116]⟩,.string s,ev] 349 (0,0))/\Below w.heap.size w w':=Any.strconv_ParseInt_10_at64_syntax Tryz.laysC174 s g h ev w j f
open Go.RowKit in
def Tryz.strconv_ParseInt_10_at64_range(s:ByteArray)(g:s.size<=281474976710656)(h:Lib.parseIntB 64 s.data.toList=.range)(ev:Value)(w:World)(j:w.cell? ⟨4,0,none⟩=some ev)(f:ev=.nilIface∨∃v p,ev=.iface v p): Calls Tryz.prog 409 #[.string s,.int .i64 10,.int .i64 64] w λe w'=>∃N,e=.returned (.tuple #[.int .i64 (Lib.intSat 64 s.data.toList),.iface 342 (.pointer (some ⟨N,0,none⟩))])/\w.heap.size<=N/\w'.heap[N]?=some (.cells #[.string ⟨#[80,97,114,115,101,73,110,116]⟩,.string s,ev] 349 (0,0))/\Below w.heap.size w w':=Any.strconv_ParseInt_10_at64_range Tryz.laysC174 s g h ev w j f
open Go.RowKit Go.Lib in
def Tryz.strings_HasPrefix(s p:ByteArray)(w:World): Calls Tryz.prog 307 #[.string s,.string p] w λe w'=>e=.returned (.bool (Lib.hasPrefix s.data.toList p.data.toList))/\w'=w:=Any.strings_HasPrefix Tryz.lays99 s p w
def Tryz.lays196_ren:Go.Shelf.Ren:=⟨λ|196=>376|259=>391|n=>n,λ|9=>9|4=>4|3=>3|5=>5|12=>12|119=>305|0=>0|46=>143|139=>308|138=>307|53=>317|n=>n,λ|3=>0|4=>1|n=>n⟩
def Tryz.lays196:Go.Proofs.Lays.n196 Tryz.prog Tryz.lays196_ren:={
 mixed:=by kernel_rfl
 f196:=Tryz.func376.trans (congrArg some yw)
 f259:=Tryz.func391.trans (congrArg some yw)
 t0:=Tryz.underlying0
 a0:=Tryz.isAgg0
 z0:=Tryz.sizeOf0
 v0:=Tryz.zeroValue0
 t3:=Tryz.underlying3
 a3:=Tryz.isAgg3
 z3:=Tryz.sizeOf3
 v3:=Tryz.zeroValue3
 t4:=Tryz.underlying4
 a4:=Tryz.isAgg4
 z4:=Tryz.sizeOf4
 v4:=Tryz.zeroValue4
 t5:=Tryz.underlying5
 a5:=Tryz.isAgg5
 z5:=Tryz.sizeOf5
 v5:=Tryz.zeroValue5
 t9:=Tryz.underlying9
 a9:=Tryz.isAgg9
 z9:=Tryz.sizeOf9
 v9:=Tryz.zeroValue9
 t12:=Tryz.underlying12
 a12:=Tryz.isAgg12
 z12:=Tryz.sizeOf12
 v12:=Tryz.zeroValue12
 t46:=Tryz.underlying143
 a46:=Tryz.isAgg143
 z46:=Tryz.sizeOf143
 v46:=Tryz.zeroValue143
 t53:=Tryz.underlying317
 a53:=Tryz.isAgg317
 z53:=Tryz.sizeOf317
 v53:=Tryz.zeroValue317
 t119:=Tryz.underlying305
 a119:=Tryz.isAgg305
 z119:=Tryz.sizeOf305
 t138:=Tryz.underlying307
 a138:=Tryz.isAgg307
 z138:=Tryz.sizeOf307
 v138:=Tryz.zeroValue307
 t139:=Tryz.underlying308
 a139:=Tryz.isAgg308
 z139:=Tryz.sizeOf308
 v139:=Tryz.zeroValue308
 g3:=by kernel_rfl
 g4:=by kernel_rfl }
end Go.Proofs
namespace Go.Proofs.YtcbfcliickppiaaGreatDoor
open Go.Ab Go.RowKit Go.Sort Go.Lib
def zgE{γ:Gh}{w w':World}(h:Below w.heap.size w w'):U9 (λ_=>False) γ w γ w':=by
 refine⟨⟨h.size,λb o y g v=>⟨v,?_⟩,λb arr E fr f=>⟨arr,?_,rfl⟩⟩,h.os,h.output,λa p=>?_,λb f _=>⟨rfl,h.block b f⟩⟩
 ·have j:=World.block_lt_of_cell? w _ g;unfold World.cell? at g ⊢;rw[h.block _ j];exact g
 ·have j:=(TQ.1 f).1;rw[h.block b j];exact f
 ·exact World.frozen?_of_block (h.block _ p)
def Zk.of_below{P:Program}{f:FuncId}{args:List AV}{r:AV}(h:∀(γ:Gh) (w:World) (vs:List Value),UO γ w->Ze γ w args vs->Calls P f vs.toArray w λe w'=>Below w.heap.size w w'/\∃j,e=.returned j/\Rep γ w' r j):Zk P f args r:=by intro γ w vs y _ z;refine(h γ w vs y z).mono λe w' ⟨A,j,p,v⟩=>?_;subst p;exact⟨γ,zd.emp,.ret r,(zgE A).weaken λ_ f=>f.elim,λb o g=>by simp[zd.emp]at g,λb g=>by simp[zd.emp]at g,v,rfl,rfl⟩
def below_grow(w:World)(k:Nat)(os:Array Obj):Below w.heap.size w (grow (w.drewN k) os):=by
 refine⟨rfl,rfl,rfl,?_,λi hi=>?_⟩
 ·show w.heap.size<=(w.heap++os).size;simp
 ·show (w.heap++os)[i]?=w.heap[i]?;rw[Array.getElem?_append_left hi]
def zcl(w:World)(e:TypeId)(t:ByteArray):Below w.heap.size w (Lib.bytesWorld w e t):=by
 have f:Below w.heap.size w (w.drew.alloc (.cells (bytesCells w e t) e)):=(Below.refl _ w).drew.alloc (ZG _) _;unfold Lib.bytesWorld World.freeze;simp only[Nat.one_ne_zero,if_false];refine⟨f.os,f.tape,f.output,?_,λi hi=>?_⟩
 ·rw[Array.size_modify];exact f.size
 ·rw[Array.getElem?_modify];have:¬ (w.heap.size=i):=by omega
  simp only[this,if_false];exact f.block i hi
def M9{γ:Gh}{w:World}(h:UO γ w){i b:Nat}{g:List (Value->Prop)}(hi:ziu[i]?=some (b,g)){j:Nat}{p:Value->Prop}(z:g[j]?=some p):∃f,w.cell? ⟨b,j,none⟩=some f/\p f:=by obtain⟨f,v,y⟩:=(h _ (List.mem_of_getElem? hi)).2 j p z;exact⟨f,v.1,y⟩
def zkc:∀c:Fin 256,Go.Pinned.utf8FirstZ[c.val]?=some (Lib.firstT c.val):=by decide +kernel
def zev:List Nat:=[128,191,160,191,128,159,144,191,128,143,0,0,0,0,0,0,0,0,0,0,0,0,0,0,0,0,0,0,0,0,0,0]
def zpT:∀c:Fin 16,zev[2*c.val]?=some (Lib.accLo c.val)/\zev[2*c.val+1]?=some (Lib.accHi c.val):=by decide +kernel
def zjE{γ:Gh}{w:World}(h:UO γ w):Lib.Utf8Tabs 0 1 w:=by
 refine⟨λc y=>?_,λc y=>?_⟩
 ·have hf:=zkc ⟨c,y⟩;obtain⟨f,g,v⟩:=M9 h (i:=0) rfl (j:=c) (p:=λf=>f=.int .u8 (Lib.firstT c)) (by rw[W5,hf];rfl);rw[g,v]
 ·obtain⟨z,A⟩:=zpT ⟨c,y⟩;have hi:ziu[1]?=some (1,zev.map λ(n:Nat) (f:Value)=>f=.int .u8 n):=rfl;obtain⟨f,g,v⟩:=M9 h hi (j:=2*c) (p:=λf=>f=.int .u8 (Lib.accLo c)) (by rw[W5,z];rfl);obtain⟨u,C,G⟩:=M9 h hi (j:=2*c+1) (p:=λf=>f=.int .u8 (Lib.accHi c)) (by rw[W5,A];rfl);exact⟨by rw[g,v],by rw[C,G]⟩
def zlk{γ:Gh}{w:World}{s:List UInt8}{vs:List Value}(h:Ze γ w [.str s] vs):vs=[.string ⟨s.toArray⟩]:=by
 obtain⟨f,g⟩:=h
 match vs,f with
 | [v],_=>cases g 0 _ _ rfl rfl;rfl
def zou(s:List UInt8)(j:s.length<=9223372036854775807):Zk Tryz.prog 376 [.str s] (.bool (Lib.validD s)):=by refine Zk.of_below λγ w y p v=>?_;rw[zlk v];have f:=Any.utf8_ValidString Tryz.lays196 ⟨s.toArray⟩ w (by simpa[ByteArray.size]using j) (zjE p);refine Calls.mono f λe w' ⟨h,g⟩=>⟨g,_,h,.bool _⟩
def zaf(s p:List UInt8):Zk Tryz.prog 307 [.str s,.str p] (.bool (p.isPrefixOf s)):=by
 refine Zk.of_below λγ w z A j=>?_;obtain⟨h,f⟩:=j
 match z,h with
 | [v,u],_ =>cases f 0 _ _ rfl rfl;cases f 1 _ _ rfl rfl;exact(Tryz.strings_HasPrefix ⟨s.toArray⟩ ⟨p.toArray⟩ w).mono λe w' ⟨g,y⟩=>⟨by rw[y];exact Below.refl _ _,_,g,.bool _⟩
def ziR:List Nat:=[1,10,100,1000,10000,100000,1000000,10000000,100000000,1000000000,10000000000,100000000000,1000000000000,10000000000000,100000000000000,1000000000000000,10000000000000000,100000000000000000,1000000000000000000,10000000000000000000]
def zcd:ziR.length=20:=rfl
def zc6:Lib.pow10Tab=ziR.map λ(n:Nat)=>(n:Int):=by decide +kernel
theorem zoZ {γ : Gh} {w : World} (ht : UO γ w) : Lib.TabIs Tryz.prog w "internal/strconv.uint64pow10" .u64 Lib.pow10Tab := by
 have hmem:ziu[2]?=some (2,ziR.map λ(n:Nat) (v:Value)=>v=.int .u64 n):=rfl
 obtain⟨⟨arr,E,fr,g1,g2⟩,g3⟩:=ht _ (List.mem_of_getElem? hmem)
 have hg : Tryz.prog.globalNamed "internal/strconv.uint64pow10" = some 2 := by kernel_rfl
 unfold Lib.TabIs World.var?
 rw[hg]
 simp only[Option.bind_some]
 rw[show w.heap[2]?=_ from g1]
 simp only[Y1]
 refine Array.ext_getElem? λj=>?_
 simp only[List.length_map]at g2
 by_cases hj:j<20
 ·have hj':j<ziR.length:=hj
  obtain⟨v,h1,h2⟩:=g3 j (λv=>v=.int .u64 ((ziR[j]:Nat):Int)) (by rw[W5,Qh hj'];rfl)
  have h3:=h1.1
  simp only[World.cell?]at h3
  rw[show w.heap[2]?=_ from g1]at h3
  have h4:arr[j]?=some v:=by simpa using h3
  rw[h4,h2,zc6]
  simp only[List.map_map,List.getElem?_toArray,W5,Qh hj',VF,Function.comp]
 ·rw[Array.getElem?_eq_none (by rw[g2,zcd];omega),Array.getElem?_eq_none (by simp[zc6,zcd];omega)]
def zd7(n:Int)(g:-9223372036854775808<=n)(h:n<=9223372036854775807):Zk Tryz.prog 398 [.int .i64 n,.int .i64 10] (.str (Lib.itoa n)):=by
 refine Zk.of_below λγ w C y z=>?_;obtain⟨p,f⟩:=z
 match C,p with
 | [v,u],_ =>cases f 0 _ _ rfl rfl;cases f 1 _ _ rfl rfl;exact(Tryz.strconv_FormatInt_10 n g h w (zoZ y)).mono λe w' ⟨j,k,os,A⟩=>⟨by rw[A];exact below_grow _ _ _,_,j,.str _⟩
def zcB{γ:Gh}{w:World}(h:UO γ w):∃f,w.cell? ⟨4,0,none⟩=some f/\∃p g,f=.iface p g:=M9 h (i:=4) rfl (j:=0) rfl
def zat{γ:Gh}{w:World}(h:UO γ w):∃f,w.cell? ⟨3,0,none⟩=some f/\∃p g,f=.iface p g:=M9 h (i:=3) rfl (j:=0) rfl
def Mx(s:List UInt8):AV :=
 match Lib.parseIntB 64 s with
 | .ok v=>.tup [.int .i64 v,.oth .nilIface]
 | Lib.NumEnd.syntax=>.tup [.int .i64 0,.ifc 342 .any]
 | .range=>.tup [.int .i64 (Lib.intSat 64 s),.ifc 342 .any]
def KQ{γ:Gh}{w:World}{a b:AV}{v u:Value}(f:Rep γ w a v)(g:Rep γ w b u):Rep γ w (.tup [a,b]) (.tuple #[v,u]):=.tup _ [v,u] rfl (Ze.cons f (Ze.cons g Ze.nil)).2
def zhj(s:List UInt8)(I:s.length<=281474976710656):Zk Tryz.prog 409 [.str s,.int .i64 10,.int .i64 64] (Mx s):=by
 refine Zk.of_below λγ w G v A=>?_;obtain⟨z,p⟩:=A
 match G,z with
 | [y,u,x],_ =>
  cases p 0 _ _ rfl rfl;cases p 1 _ _ rfl rfl;cases p 2 _ _ rfl rfl;have hsz:(⟨s.toArray⟩:ByteArray).size=s.length:=rfl;unfold Mx;rcases hp:Lib.parseIntB 64 s with y|_|_
  ·refine(Tryz.strconv_ParseInt_10_at64_ok ⟨s.toArray⟩ (by rw[hsz];omega) y hp w).mono λe w' ⟨f,C⟩=>⟨?_,_,f,KQ (.int _ _) (.oth _)⟩;rcases C with rfl|⟨t,rfl⟩
   ·exact Below.refl _ _
   ·exact zcl _ _ _
  ·obtain⟨ev,g,h⟩:=zat v;exact(Tryz.strconv_ParseInt_10_at64_syntax ⟨s.toArray⟩ (by rw[hsz];omega) hp ev w g (.inr h)).mono λe w' ⟨N,f,_,_,j⟩=>⟨j,_,f,KQ (.int _ _) (.ifc _ _ _ (.any _))⟩
  ·obtain⟨ev,g,h⟩:=zcB v;exact(Tryz.strconv_ParseInt_10_at64_range ⟨s.toArray⟩ (by rw[hsz];omega) hp ev w g (.inr h)).mono λe w' ⟨N,f,_,_,j⟩=>⟨j,_,f,KQ (.int _ _) (.ifc _ _ _ (.any _))⟩
end Go.Proofs.YtcbfcliickppiaaGreatDoor
namespace Go.Proofs.YtcbfcliickppiaaGreatDoor
open Go.Ab Go.Lib
open Go.ChangeShapes Go.WideShapes Go.ChangeAt Go.RowKit Go.WideElems
mutual
def Tn{H:Type}:∀d:DataW H,Rows.uptoBulk d=blk d
 | .lit (.string _)=>rfl
 | .lit (.bool _)=>rfl
 | .lit (.int _ _)=>rfl
 | .lit (.float _ _)=>rfl
 | .lit .nil=>rfl
 | .nil=>rfl
 | .ptr d=>by simp only[Rows.uptoBulk,blk,Tn d]
 | .slice e s=>by simp only[Rows.uptoBulk,blk,UW e,UW s]
 | .agg e=>by simp only[Rows.uptoBulk,blk,UW e]
 | .iface _ d=>by simp only[Rows.uptoBulk,blk,Tn d]
 | .map e=>by simp only[Rows.uptoBulk,blk,L2 e]
 | .held _=>rfl
def UW{H:Type}:∀d:List (DataW H),Rows.uptoBulkAll d=Wz d
 | []=>rfl
 | d::r=>by simp only[Rows.uptoBulkAll,Wz,Tn d,UW r]
def L2{H:Type}:∀d:List (Lit×DataW H),Rows.uptoBulkEntries d=zfg d
 | []=>rfl
 | x::r=>by simp only[Rows.uptoBulkEntries,zfg,ziV x,L2 r]
def ziV{H:Type}:∀d:Lit×DataW H,Rows.uptoBulkEntry d=zdP d
 | (.string _,d)=>by simp only[Rows.uptoBulkEntry,zdP,Tn d]
 | (.bool _,d)=>by simp only[Rows.uptoBulkEntry,zdP,Tn d]
 | (.int _ _,d)=>by simp only[Rows.uptoBulkEntry,zdP,Tn d]
 | (.float _ _,d)=>by simp only[Rows.uptoBulkEntry,zdP,Tn d]
 | (.nil,d)=>by simp only[Rows.uptoBulkEntry,zdP,Tn d]
end
def Vf(f:World)(g:Nat)(p:List (Value->Prop)):Prop :=(∃(arr:Array Value) (E:TypeId) (fr:Nat×Nat),f.heap[g]?=some (.cells arr E fr)/\arr.size=p.length)/\∀(h:Nat) (j:Value->Prop),p[h]?=some j->∃v,CellIs NT f g h v/\j v
def Se{A:World}{n:String}{g:Nat}{y:Array Value}{z:List (Value->Prop)}(C:Tryz.prog.globalNamed n=some g)(J:A.var? Tryz.prog n=some y)(L:y.size=z.length)(h:∀(j:Nat) (p:Value->Prop) v,z[j]?=some p->y[j]?=some v->v.oneCell'=true/\p v):Vf A g z:=by
 refine⟨?_,λj p I=>?_⟩
 ·have f:=J;simp only[World.var?,C,Option.bind_some]at f;split at f
  ·rename_i c t fr K;cases f;exact⟨_,_,_,K,L⟩
  ·cases f
 ·have G:j<y.size:=by
   have:=(Vj.1 I).1;omega
  have f:=h j p y[j] I (Array.getElem?_eq_getElem G);refine⟨y[j],⟨?_,trivial,f.1⟩,f.2⟩;rw[World.var?_cell C J j,Array.getElem?_eq_getElem G]
def Sk{p:World}{n:String}{g cnt:Nat}{t e:TypeId}{k:IntKind}{G:List Nat}(z:Tryz.prog.globalNamed n=some g)(hty:(Tryz.prog.globals[g]?).map (·.type)=some t)(O:Tryz.prog.underlying t=some (.array cnt e))(L:Tryz.prog.underlying e=some (.int k))(I:Tryz.prog.cellsOf e=1)(J:Tryz.prog.cellsOf t=cnt)(h:VarReads Tryz.prog p n (tabData k (G.map λ(f:Nat)=>(f:Int)))):Vf p g (G.map λ(f:Nat) (v:Value)=>v=.int k f):=by
 obtain⟨aa,ac,Z,fuel,Y,M,U,W,K⟩:=h;obtain rfl:=Option.some.inj (z.symm.trans M);obtain rfl:=Option.some.inj (hty.symm.trans U);have y:=cells_of_tab O L I J K;refine Se z W (by rw[<-Array.length_toList,y];simp) λab Y v A j=>?_;rw[<-Array.getElem?_toList,y]at j;simp only[W5,SV]at A j;obtain⟨f,X,rfl⟩:=A;obtain⟨ad,⟨ae,C,rfl⟩,rfl⟩:=j;rw[X]at C;cases C;exact⟨rfl,rfl⟩
def u8x:U8Extra Tryz.prog Tryz.lays196_ren:=⟨by kernel_rfl,by kernel_rfl,by kernel_rfl,by kernel_rfl,by kernel_rfl,by kernel_rfl,by kernel_rfl⟩
def zna:∀c:Fin 32,zev[c.val]?=some (if c.val % 2=0 then Lib.accLo (c.val / 2)else Lib.accHi (c.val / 2)):=by decide +kernel
theorem KY {W : World} (h1 : VarReads Tryz.prog W "unicode/utf8.first" firstData) (h2 : VarReads Tryz.prog W "unicode/utf8.acceptRanges" acceptData) : Vf W 1 (zev.map fun (n : Nat) (v : Value) => v = .int .u8 n) := by
 have ht:=utf8Tabs_of_readsT (U8Types.of196 Tryz.lays196) u8x h1 h2
 obtain⟨g',t',cs,fuel,p,hg',ht',hvar,hd⟩:=h2
 obtain rfl := Option.some.inj ((show Tryz.prog.globalNamed "unicode/utf8.acceptRanges" = some 1 by kernel_rfl).symm.trans hg')
 obtain rfl:=Option.some.inj (u8x.y4.symm.trans ht')
 have hcs:cs.size=32:=by
  have h3:fuel≠0:=λe=>by subst e;simp[DataW.trod]at hd
  obtain⟨fuel,rfl⟩:=Nat.exists_eq_succ_of_ne_zero h3
  have h4:cs.toList.length=Tryz.prog.cellsOf (Tryz.lays196_ren.t 139):=by
   have hu:=(U8Types.of196 Tryz.lays196).t139
   simp only[DataW.trod,hu,u8x.c138]at hd
   split at hd
   ·rename_i hl;simpa using hl
   ·cases hd
  rw[<-Array.length_toList,h4];exact(show Tryz.prog.cellsOf (Tryz.lays196_ren.t 139)=32 by kernel_rfl)
 refine Se hg' hvar (by rw[hcs];rfl) λj p v hp hj=>?_
 have hj32:j<32:=by rw[<-hcs];exact(TQ.1 hj).1
 simp only[W5,SV]at hp
 obtain⟨z,hz,rfl⟩:=hp
 rw[zna ⟨j,hj32⟩]at hz
 cases hz
 have ⟨a1,a2⟩:=ht.2 (j / 2) (by omega)
 rcases Nat.mod_two_eq_zero_or_one j with e|e
 ·have e2:2*(j / 2)=j:=by omega
  rw[e2]at a1
  have h5:=(World.var?_cell hg' hvar j).symm.trans a1
  rw[hj]at h5
  cases h5
  simp[e,Value.oneCell']
 ·have e2:2*(j / 2)+1=j:=by omega
  rw[e2]at a2
  have h5:=(World.var?_cell hg' hvar j).symm.trans a2
  rw[hj]at h5
  cases h5
  simp[e,Value.oneCell']
def KK{z:World}{n:String}{g:Nat}{t:TypeId}{s:String}{d:DataW Unit}(C:Tryz.prog.globalNamed n=some g)(hty:(Tryz.prog.globals[g]?).map (·.type)=some t){ms:Array (String×TypeId)}(O:Tryz.prog.underlying t=some (.interface ms))(h:VarReads Tryz.prog z n (.iface s d)):Vf z g [λI=>∃y v,I=.iface y v]:=by
 obtain⟨X,Y,J,fuel,W,L,M,U,p⟩:=h;obtain rfl:=Option.some.inj (C.symm.trans L);obtain rfl:=Option.some.inj (hty.symm.trans M);have K:∃y v,J.toList=[.iface y v]:=by
  cases fuel with
  | zero=>simp[DataW.trod]at p
  | succ fuel =>
   simp only[DataW.trod,O]at p;split at p
   all_goals first
    | (cases p;done)
    | skip
   all_goals simp_all
   done
 obtain⟨y,v,A⟩:=K;refine Se C U (by rw[<-Array.length_toList,A];rfl) λG W I j f=>?_;rw[<-Array.getElem?_toList,A]at f
 match G,j,f with
 | 0,j,f=>cases j;cases f;exact⟨rfl,_,_,rfl⟩
 | G+1,j,f=>simp at j
abbrev T64:List Nat:=[1,10,100,1000,10000,100000,1000000,10000000,100000000,1000000000,10000000000,100000000000,1000000000000,10000000000000,100000000000000,1000000000000000,10000000000000000,100000000000000000,1000000000000000000,10000000000000000000]
abbrev B32:List Nat:=[0,1,28,2,29,14,24,3,30,22,20,15,25,17,4,8,31,27,13,23,21,19,16,7,26,12,18,6,11,5,10,9]
abbrev B64:List Nat:=[0,1,56,2,57,49,28,3,61,58,42,50,38,29,17,4,62,47,59,36,45,43,51,22,53,39,33,30,24,18,12,5,63,55,48,27,60,41,37,16,46,35,44,21,52,32,23,11,54,26,40,15,34,20,31,10,25,14,19,9,13,8,7,6]
abbrev zcT : List (String × DataW Unit) := [("math/bits.deBruijn32tab", Rows.laid_math_bits_deBruijn32tab), ("math/bits.deBruijn64tab", Rows.laid_math_bits_deBruijn64tab), ("internal/strconv.uint64pow10", Rows.laid_internal_strconv_uint64pow10), ("unicode/utf8.acceptRanges", Rows.laid_unicode_utf8_acceptRanges), ("strconv.ErrRange", Rows.laid_strconv_ErrRange), ("strconv.ErrSyntax", Rows.laid_strconv_ErrSyntax), ("unicode/utf8.first", Rows.laid_unicode_utf8_first)]
theorem zmi {W:World} (hL:laidMetH Tryz.prog zcT W) (hS:W.ShapedOpen Tryz.prog):UO NT W:=by
 have hL':laidMet Tryz.prog zcT W:=hL
 have m1 : VarReads Tryz.prog W "unicode/utf8.first" (tabData .u8 (Go.Pinned.utf8FirstZ.map fun (z : Nat) => (z : Int))) := laidMet.reads hL' (d := Rows.laid_unicode_utf8_first) (.tail _ (.tail _ (.tail _ (.tail _ (.tail _ (.tail _ (.head _)))))))
 have m2 : VarReads Tryz.prog W "unicode/utf8.acceptRanges" acceptData := laidMet.reads hL' (d := Rows.laid_unicode_utf8_acceptRanges) (.tail _ (.tail _ (.tail _ (.head _))))
 have m3 : VarReads Tryz.prog W "internal/strconv.uint64pow10" (tabData .u64 (T64.map fun (z : Nat) => (z : Int))) := laidMet.reads hL' (d := Rows.laid_internal_strconv_uint64pow10) (.tail _ (.tail _ (.head _)))
 have m4 : VarReads Tryz.prog W "math/bits.deBruijn32tab" (tabData .u8 (B32.map fun (z : Nat) => (z : Int))) := laidMet.reads hL' (d := Rows.laid_math_bits_deBruijn32tab) (.head _)
 have m5 : VarReads Tryz.prog W "math/bits.deBruijn64tab" (tabData .u8 (B64.map fun (z : Nat) => (z : Int))) := laidMet.reads hL' (d := Rows.laid_math_bits_deBruijn64tab) (.tail _ (.head _))
 have m6 : VarReads Tryz.prog W "strconv.ErrSyntax" Rows.laid_strconv_ErrSyntax := laidMet.reads hL' (.tail _ (.tail _ (.tail _ (.tail _ (.tail _ (.head _))))))
 have m7 : VarReads Tryz.prog W "strconv.ErrRange" Rows.laid_strconv_ErrRange := laidMet.reads hL' (.tail _ (.tail _ (.tail _ (.tail _ (.head _)))))
 have m8:firstData=tabData .u8 (Go.Pinned.utf8FirstZ.map λ(z:Nat)=>(z:Int)):=by kernel_rfl
 have e1:Vf W 0 (Go.Pinned.utf8FirstZ.map λ(n:Nat) (v:Value)=>v=.int .u8 n) :=
  Sk (t:=Tryz.lays196_ren.t 119) u8x.n3 u8x.y3 (U8Types.of196 Tryz.lays196).t119 (U8Types.of196 Tryz.lays196).t5 u8x.c5 u8x.c119 m1
 have e2:Vf W 1 (zev.map λ(n:Nat) (v:Value)=>v=.int .u8 n):=KY (m8▸m1) m2
 have e3:Vf W 2 (T64.map λ(n:Nat) (v:Value)=>v=.int .u64 n) :=
  Sk (t:=334) (e:=317) (cnt:=20) yw yw yw yw yw yw m3
 have e4:Vf W 5 (B32.map λ(n:Nat) (v:Value)=>v=.int .u8 n) :=
  Sk (t:=351) (e:=5) (cnt:=32) yw yw yw yw yw yw m4
 have e5:Vf W 6 (B64.map λ(n:Nat) (v:Value)=>v=.int .u8 n) :=
  Sk (t:=352) (e:=5) (cnt:=64) yw yw yw yw yw yw m5
 have e6:Vf W 3 [λv=>∃te pe,v=.iface te pe]:=KK (t:=320) yw yw Tryz.underlying320 m6
 have e7:Vf W 4 [λv=>∃te pe,v=.iface te pe]:=KK (t:=320) yw yw Tryz.underlying320 m7
 intro x hx
 unfold ziu at hx
 simp only[List.mem_cons,List.not_mem_nil,or_false]at hx
 rcases hx with rfl|rfl|rfl|rfl|rfl|rfl|rfl<;>first|exact e1|exact e2|exact e3|exact e4|exact e5|exact e6|exact e7
noncomputable abbrev N0:Nat:=(World.settled Tryz.prog default).heap.size
noncomputable def laidWorld(os:Os):World :=
 let w0:=World.holding Tryz.prog os ⟨#[.cells #[.string ⟨#[105,110,118,97,108,105,100,32,115,121,110,116,97,120]⟩] 356,.cells #[.string ⟨#[118,97,108,117,101,32,111,117,116,32,111,102,32,114,97,110,103,101]⟩] 356],#[],[]⟩;let put (h:Array Obj) (g:Nat) (cs:Array Value):Array Obj:=h.modify g fun
  | .cells _ t frozen=>.cells cs t frozen
  | o=>o
 let h1:=put w0.heap 0 (Go.Pinned.utf8FirstZ.map λ(f:Nat)=>Value.int .u8 f).toArray;let h2:=put h1 1 (zev.map λ(f:Nat)=>Value.int .u8 f).toArray;let h3:=put h2 2 (T64.map λ(f:Nat)=>Value.int .u64 f).toArray;let h4:=put h3 5 (B32.map λ(f:Nat)=>Value.int .u8 f).toArray;let h5:=put h4 6 (B64.map λ(f:Nat)=>Value.int .u8 f).toArray;let h6:=put h5 3 #[.iface 354 (.pointer (some ⟨(World.settled Tryz.prog os).heap.size,0,none⟩))];let h7:=put h6 4 #[.iface 354 (.pointer (some ⟨(World.settled Tryz.prog os).heap.size+1,0,none⟩))]
 { w0 with heap:=h7 }
def laid_met(os:Os)(args:Array Value):laidMet Tryz.prog zcT ((laidWorld os).forCall (λ_ _=>0) ⟨#[],args,[]⟩).memory :=(LaidIn.of_run (l:=zcT) [0,1,2,3,4,5,6,7,N0,N0+1] 8 yw yw yw yw).met
end Go.Proofs.YtcbfcliickppiaaGreatDoor
