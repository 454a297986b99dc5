/- XShelf, XLexC, XLexD, XLexE, XLexF, XLexG, XLexH -/
import Derived.Shelf.Strings.Builder1
import Derived.Shelf.Strings.Builder2
import Derived.Shelf.Strings.OnBuilder
import Derived.Shelf.Small.Strs
import Derived.Shelf.Strings.BuilderF
import Derived.Shelf.Strings.BuilderK
import Derived.Shelf.Strings.Builder2Cap
import Derived.Shelf.Strconv.Atoi
import Derived.Shelf.Strconv.Itoa0
import Derived.Shelf.Strconv.Itoa1
import Derived.Shelf.LaysM
import Derived.Shelf.Strconv.Itoa2
import Derived.Shelf.Strconv.Itoa3
import Derived.Shelf.Strconv.AtoiErrFast
import Derived.Shelf.Strconv.ParseIntEmpty
import Derived.Shelf.Strconv.AtoiFail
import Derived.Shelf.Strconv.Clone
import Derived.Shelf.Strconv.SyntaxError
import Derived.Shelf.LaysC
import Derived.Shelf.Strconv.ToError
import Derived.Shelf.Strconv.Lower
import Derived.Shelf.Strconv.ParseUint10
import Derived.Shelf.Strconv.ParseUint10Empty
import Derived.Shelf.Strconv.ParseUint10Any
import Derived.Shelf.Strconv.ParseInt10
import Derived.Shelf.Strconv.AtoiLong
import Derived.Shelf.Strconv.AtoiInnerAll
import Derived.Shelf.Strconv.RangeError
import Derived.Shelf.Strconv.ToErrorRange
import Derived.Shelf.Strconv.AtoiAll
import Derived.Shelf.Strconv.ErrVarAll
import Derived.Shelf.Strings.Search1
import Derived.Shelf.Strings.Search2
import Derived.Shelf.Strings.Search3
import Derived.Shelf.Strings.Cut
import Derived.Shelf.Strings.Shaped
import Derived.Shelf.Strings.Prefix
import Derived.Shelf.Strings.Fields
import Derived.Shelf.Unicode.Latin
import Derived.Shelf.Unicode.Is16White
import Derived.Shelf.Unicode.IsSpaceAny
import Derived.Shelf.Unicode.Is16WhiteD
import Derived.Shelf.Unicode.IsSpaceAnyD
import Derived.Shelf.Strings.FieldsAny
import Derived.Shelf.Strings.FieldsFuncAny
import Derived.Shelf.Unicode.Is16Any
import Derived.Shelf.Unicode.Is32Any
import Derived.Shelf.Unicode.ExclAny
import Derived.Shelf.Strings.BuilderCap
import Derived.Shelf.Slices.Turned
import Derived.Test.YtjnclkakbopnjaaGreatDoorLot02
import Derived.Lib.IndexBytes
set_option linter.unusedSimpArgs false
set_option linter.unusedVariables false
set_option maxHeartbeats 4000000
namespace Go.Proofs
open Go.Shelf
def Tryz.lays156_ren:Go.Shelf.Ren:=⟨fun|156=>156|165=>211|166=>212|169=>213|240=>255|241=>256|276=>296|277=>297|n=>n,fun|31=>26|9=>9|3=>3|4=>4|0=>0|20=>20|72=>254|76=>248|70=>251|37=>252|75=>247|127=>301|164=>334|5=>5|80=>255|n=>n,fun|n=>n⟩
theorem Tryz.lays156:Go.Proofs.Lays.n156 prog Tryz.lays156_ren:={
 mixed:=by kernel_rfl
 f156:=func156.trans (congrArg some (by kernel_rfl))
 f165:=func211.trans (congrArg some (by kernel_rfl))
 f166:=func212.trans (congrArg some (by kernel_rfl))
 f169:=func213.trans (congrArg some (by kernel_rfl))
 f240:=func255.trans (congrArg some (by kernel_rfl))
 f241:=func256.trans (congrArg some (by kernel_rfl))
 f276:=func296.trans (congrArg some (by kernel_rfl))
 f277:=func297.trans (congrArg some (by kernel_rfl))
 t0:=underlying0
 a0:=isAgg0
 z0:=sizeOf0
 v0:=zeroValue0
 t3:=underlying3
 a3:=isAgg3
 z3:=sizeOf3
 v3:=zeroValue3
 t4:=underlying4
 a4:=isAgg4
 z4:=sizeOf4
 v4:=zeroValue4
 t9:=underlying9
 a9:=isAgg9
 z9:=sizeOf9
 v9:=zeroValue9
 t20:=underlying20
 a20:=isAgg20
 z20:=sizeOf20
 v20:=zeroValue20
 t31:=underlying26
 a31:=isAgg26
 z31:=sizeOf26
 v31:=zeroValue26
 t37:=underlying252
 a37:=isAgg252
 z37:=sizeOf252
 v37:=zeroValue252
 t70:=underlying251
 a70:=isAgg251
 z70:=sizeOf251
 v70:=zeroValue251
 t72:=underlying254
 a72:=isAgg254
 z72:=sizeOf254
 v72:=zeroValue254
 t75:=underlying247
 a75:=isAgg247
 z75:=sizeOf247
 v75:=zeroValue247
 t76:=underlying248
 a76:=isAgg248
 z76:=sizeOf248
 v76:=zeroValue248
 t127:=underlying301
 a127:=isAgg301
 z127:=sizeOf301
 v127:=zeroValue301
 t164:=underlying334
 a164:=isAgg334
 z164:=sizeOf334
 v164:=zeroValue334}
theorem Tryz.Builder_Extra_156:Builder.Extra prog Tryz.lays156_ren:={
 sizeBuilder:=by kernel_rfl
 liesBuilder:=by kernel_rfl
 t5:=underlying5
 a5:=isAgg5
 z5:=sizeOf5
 v5:=zeroValue5
 infoByte:=by kernel_rfl
 cellsByte:=by kernel_rfl
 sizeByte:=by kernel_rfl
 neB5:=by decide}
open Go.RowKit in
theorem Tryz.strings_Join(bk o c:Nat)(xs:List ByteArray)(sep:ByteArray)(w:World)(hcells:∀(j:Nat) x,xs[j]?=some x→w.cell? ⟨bk,o+j,none⟩=some (.string x))(hbk:bk<w.heap.size)(hN:xs.length≤140737488355328)(hcap:xs.length≤c)(hlen:(Lib.join (xs.map (·.data.toList)) sep.data.toList).length≤140737488355328):
  Calls prog 156 #[.slice (some ⟨bk,o,none⟩) xs.length c,.string sep] w fun e w'=>e= .returned (.string ⟨(Lib.join (xs.map (·.data.toList)) sep.data.toList).toArray⟩)∧Below w.heap.size w w':=Any.strings_Join Tryz.lays156 Tryz.Builder_Extra_156 bk o c xs sep w hcells hbk hN hcap hlen
def Tryz.lays137_ren:Go.Shelf.Ren:=⟨fun|137=>246|217=>219|266=>259|n=>n,fun|9=>9|5=>5|3=>3|n=>n,fun|n=>n⟩
theorem Tryz.lays137:Go.Proofs.Lays.n137 prog Tryz.lays137_ren:={
 mixed:=by kernel_rfl
 f137:=func246.trans (congrArg some (by kernel_rfl))
 f217:=func219.trans (congrArg some (by kernel_rfl))
 f266:=func259.trans (congrArg some (by kernel_rfl))
 t3:=underlying3
 a3:=isAgg3
 z3:=sizeOf3
 v3:=zeroValue3
 t5:=underlying5
 a5:=isAgg5
 z5:=sizeOf5
 v5:=zeroValue5
 t9:=underlying9
 a9:=isAgg9
 z9:=sizeOf9
 v9:=zeroValue9}
open Go.RowKit in
theorem Tryz.strings_IndexByte(s:ByteArray)(c:Int)(w:World):
  Calls prog 246 #[.string s,.int .u8 c] w fun e w'=>e= .returned (.int .i64 (Lib.indexByte s.data.toList c.toNat.toUInt8))∧w'=w:=Any.strings_IndexByte Tryz.lays137 s c w
def Tryz.laysM171_ren:Go.Shelf.Ren:=⟨fun|171=>148|243=>206|246=>253|283=>291|284=>292|285=>293|286=>294|129=>319|317=>318|318=>320|319=>321|320=>322|337=>329|338=>330|n=>n,fun|3=>3|9=>9|2=>2|4=>4|171=>328|0=>0|53=>329|37=>252|5=>5|173=>332|212=>353|51=>212|20=>20|213=>354|46=>271|232=>362|233=>363|n=>n,fun|17=>5|18=>6|19=>7|n=>n⟩
theorem Tryz.laysM171:Go.Proofs.LaysM.n171 prog Tryz.laysM171_ren:={
 mixed:=by kernel_rfl
 f129:=func319.trans (congrArg some (by kernel_rfl))
 f171:=func148.trans (congrArg some (by kernel_rfl))
 f243:=func206.trans (congrArg some (by kernel_rfl))
 f246:=func253.trans (congrArg some (by kernel_rfl))
 f283:=func291.trans (congrArg some (by kernel_rfl))
 f284:=func292.trans (congrArg some (by kernel_rfl))
 f285:=func293.trans (congrArg some (by kernel_rfl))
 f286:=func294.trans (congrArg some (by kernel_rfl))
 f317:=func318.trans (congrArg some (by kernel_rfl))
 f318:=func320.trans (congrArg some (by kernel_rfl))
 f319:=func321.trans (congrArg some (by kernel_rfl))
 f320:=func322.trans (congrArg some (by kernel_rfl))
 f337:=func329.trans (congrArg some (by kernel_rfl))
 f338:=func330.trans (congrArg some (by kernel_rfl))
 t0:=underlying0
 a0:=isAgg0
 z0:=sizeOf0
 v0:=zeroValue0
 t2:=underlying2
 a2:=isAgg2
 z2:=sizeOf2
 v2:=zeroValue2
 t3:=underlying3
 a3:=isAgg3
 z3:=sizeOf3
 v3:=zeroValue3
 t4:=underlying4
 a4:=isAgg4
 z4:=sizeOf4
 v4:=zeroValue4
 t5:=underlying5
 a5:=isAgg5
 z5:=sizeOf5
 v5:=zeroValue5
 t9:=underlying9
 a9:=isAgg9
 z9:=sizeOf9
 v9:=zeroValue9
 t20:=underlying20
 a20:=isAgg20
 z20:=sizeOf20
 v20:=zeroValue20
 t37:=underlying252
 a37:=isAgg252
 z37:=sizeOf252
 v37:=zeroValue252
 t46:=underlying271
 a46:=isAgg271
 z46:=sizeOf271
 v46:=zeroValue271
 t51:=underlying212
 a51:=isAgg212
 z51:=sizeOf212
 v51:=zeroValue212
 t53:=underlying329
 a53:=isAgg329
 z53:=sizeOf329
 v53:=zeroValue329
 t171:=underlying328
 a171:=isAgg328
 z171:=sizeOf328
 v171:=zeroValue328
 t173:=underlying332
 a173:=isAgg332
 z173:=sizeOf332
 v173:=zeroValue332
 t212:=underlying353
 a212:=isAgg353
 z212:=sizeOf353
 v212:=zeroValue353
 t213:=underlying354
 a213:=isAgg354
 z213:=sizeOf354
 t232:=underlying362
 a232:=isAgg362
 z232:=sizeOf362
 v232:=zeroValue362
 t233:=underlying363
 a233:=isAgg363
 z233:=sizeOf363
 v233:=zeroValue363
 g17:=by kernel_rfl
 g18:=by kernel_rfl
 g19:=by kernel_rfl
 i0:=by kernel_rfl
 i2:=by kernel_rfl
 i3:=by kernel_rfl
 i4:=by kernel_rfl
 i5:=by kernel_rfl
 i9:=by kernel_rfl
 i20:=by kernel_rfl
 i37:=by kernel_rfl
 i46:=by kernel_rfl
 i51:=by kernel_rfl
 i53:=by kernel_rfl
 i171:=by kernel_rfl
 i173:=by kernel_rfl
 i212:=by kernel_rfl
 i232:=by kernel_rfl
 i233:=by kernel_rfl
 m17:=by kernel_rfl
 m18:=by kernel_rfl
 m19:=by kernel_rfl}
open Go.RowKit Go.Sort Go.Lib in
theorem Tryz.strconv_Itoa(n:Int)(h0: -9223372036854775808≤n)(h1:n≤9223372036854775807)(w:World)(htab:Lib.TabIs prog w "internal/strconv.uint64pow10" .u64 Lib.pow10Tab):
  Calls prog 148 #[.int .i64 n] w fun e w'=>e= .returned (.string ⟨(Lib.itoa n).toArray⟩)∧∃k os,w'=grow (w.drewN k) os:=Any.strconv_Itoa Tryz.laysM171 n h0 h1 w htab
def Tryz.laysC172_ren:Go.Shelf.Ren:=⟨fun|172=>201|244=>251|245=>252|247=>286|279=>287|280=>288|281=>289|282=>290|287=>315|316=>316|171=>148|205=>317|321=>327|322=>328|243=>206|246=>253|283=>291|284=>292|285=>293|286=>294|129=>319|317=>318|318=>320|319=>321|320=>322|337=>329|338=>330|n=>n,fun|9=>9|3=>3|75=>247|76=>248|4=>4|5=>5|167=>322|37=>252|0=>0|85=>323|2=>2|168=>325|53=>329|175=>347|46=>271|210=>350|127=>301|145=>360|143=>358|21=>21|171=>328|173=>332|212=>353|51=>212|20=>20|213=>354|232=>362|233=>363|80=>255|n=>n,fun|15=>3|16=>4|17=>5|18=>6|19=>7|n=>n⟩
theorem Tryz.laysC172:Go.Proofs.LaysC.n172 prog Tryz.laysC172_ren:={
 mixed:=by kernel_rfl
 f129:=func319.trans (congrArg some (by kernel_rfl))
 f171:=func148.trans (congrArg some (by kernel_rfl))
 f172:=func201.trans (congrArg some (by kernel_rfl))
 f205:=func317.trans (congrArg some (by kernel_rfl))
 f243:=func206.trans (congrArg some (by kernel_rfl))
 f244:=func251.trans (congrArg some (by kernel_rfl))
 f245:=func252.trans (congrArg some (by kernel_rfl))
 f246:=func253.trans (congrArg some (by kernel_rfl))
 f247:=func286.trans (congrArg some (by kernel_rfl))
 f279:=func287.trans (congrArg some (by kernel_rfl))
 f280:=func288.trans (congrArg some (by kernel_rfl))
 f281:=func289.trans (congrArg some (by kernel_rfl))
 f282:=func290.trans (congrArg some (by kernel_rfl))
 f283:=func291.trans (congrArg some (by kernel_rfl))
 f284:=func292.trans (congrArg some (by kernel_rfl))
 f285:=func293.trans (congrArg some (by kernel_rfl))
 f286:=func294.trans (congrArg some (by kernel_rfl))
 f287:=func315.trans (congrArg some (by kernel_rfl))
 f316:=func316.trans (congrArg some (by kernel_rfl))
 f317:=func318.trans (congrArg some (by kernel_rfl))
 f318:=func320.trans (congrArg some (by kernel_rfl))
 f319:=func321.trans (congrArg some (by kernel_rfl))
 f320:=func322.trans (congrArg some (by kernel_rfl))
 f321:=func327.trans (congrArg some (by kernel_rfl))
 f322:=func328.trans (congrArg some (by kernel_rfl))
 f337:=func329.trans (congrArg some (by kernel_rfl))
 f338:=func330.trans (congrArg some (by kernel_rfl))
 t0:=underlying0
 a0:=isAgg0
 z0:=sizeOf0
 v0:=zeroValue0
 t2:=underlying2
 a2:=isAgg2
 z2:=sizeOf2
 v2:=zeroValue2
 t3:=underlying3
 a3:=isAgg3
 z3:=sizeOf3
 v3:=zeroValue3
 t4:=underlying4
 a4:=isAgg4
 z4:=sizeOf4
 v4:=zeroValue4
 t5:=underlying5
 a5:=isAgg5
 z5:=sizeOf5
 v5:=zeroValue5
 t9:=underlying9
 a9:=isAgg9
 z9:=sizeOf9
 v9:=zeroValue9
 t20:=underlying20
 a20:=isAgg20
 z20:=sizeOf20
 v20:=zeroValue20
 t21:=underlying21
 a21:=isAgg21
 z21:=sizeOf21
 v21:=zeroValue21
 t37:=underlying252
 a37:=isAgg252
 z37:=sizeOf252
 v37:=zeroValue252
 t46:=underlying271
 a46:=isAgg271
 z46:=sizeOf271
 v46:=zeroValue271
 t51:=underlying212
 a51:=isAgg212
 z51:=sizeOf212
 v51:=zeroValue212
 t53:=underlying329
 a53:=isAgg329
 z53:=sizeOf329
 v53:=zeroValue329
 t75:=underlying247
 a75:=isAgg247
 z75:=sizeOf247
 v75:=zeroValue247
 t76:=underlying248
 a76:=isAgg248
 z76:=sizeOf248
 v76:=zeroValue248
 t85:=underlying323
 a85:=isAgg323
 z85:=sizeOf323
 v85:=zeroValue323
 t127:=underlying301
 a127:=isAgg301
 z127:=sizeOf301
 v127:=zeroValue301
 t143:=underlying358
 a143:=isAgg358
 z143:=sizeOf358
 v143:=zeroValue358
 t145:=underlying360
 a145:=isAgg360
 z145:=sizeOf360
 v145:=zeroValue360
 t167:=underlying322
 a167:=isAgg322
 z167:=sizeOf322
 v167:=zeroValue322
 t168:=underlying325
 a168:=isAgg325
 z168:=sizeOf325
 v168:=zeroValue325
 t171:=underlying328
 a171:=isAgg328
 z171:=sizeOf328
 v171:=zeroValue328
 t173:=underlying332
 a173:=isAgg332
 z173:=sizeOf332
 v173:=zeroValue332
 t175:=underlying347
 a175:=isAgg347
 z175:=sizeOf347
 v175:=zeroValue347
 t210:=underlying350
 a210:=isAgg350
 z210:=sizeOf350
 v210:=zeroValue350
 t212:=underlying353
 a212:=isAgg353
 z212:=sizeOf353
 v212:=zeroValue353
 t213:=underlying354
 a213:=isAgg354
 z213:=sizeOf354
 t232:=underlying362
 a232:=isAgg362
 z232:=sizeOf362
 v232:=zeroValue362
 t233:=underlying363
 a233:=isAgg363
 z233:=sizeOf363
 v233:=zeroValue363
 g15:=by kernel_rfl
 g16:=by kernel_rfl
 g17:=by kernel_rfl
 g18:=by kernel_rfl
 g19:=by kernel_rfl
 t80:=underlying255
 a80:=isAgg255
 z80:=sizeOf255
 v80:=zeroValue255
 i0:=by kernel_rfl
 i2:=by kernel_rfl
 i3:=by kernel_rfl
 i4:=by kernel_rfl
 i5:=by kernel_rfl
 i9:=by kernel_rfl
 i20:=by kernel_rfl
 i21:=by kernel_rfl
 i37:=by kernel_rfl
 i46:=by kernel_rfl
 i51:=by kernel_rfl
 i53:=by kernel_rfl
 i75:=by kernel_rfl
 i76:=by kernel_rfl
 i80:=by kernel_rfl
 i85:=by kernel_rfl
 i127:=by kernel_rfl
 i143:=by kernel_rfl
 i145:=by kernel_rfl
 i167:=by kernel_rfl
 i168:=by kernel_rfl
 i171:=by kernel_rfl
 i173:=by kernel_rfl
 i175:=by kernel_rfl
 i210:=by kernel_rfl
 i212:=by kernel_rfl
 i232:=by kernel_rfl
 i233:=by kernel_rfl
 m15:=by kernel_rfl
 m16:=by kernel_rfl
 m17:=by kernel_rfl
 m18:=by kernel_rfl
 m19:=by kernel_rfl
 c0:=by kernel_rfl
 c2:=by kernel_rfl
 c3:=by kernel_rfl
 c4:=by kernel_rfl
 c5:=by kernel_rfl
 c9:=by kernel_rfl
 c20:=by kernel_rfl
 c21:=by kernel_rfl
 c37:=by kernel_rfl
 c46:=by kernel_rfl
 c51:=by kernel_rfl
 c53:=by kernel_rfl
 c75:=by kernel_rfl
 c76:=by kernel_rfl
 c80:=by kernel_rfl
 c85:=by kernel_rfl
 c127:=by kernel_rfl
 c143:=by kernel_rfl
 c145:=by kernel_rfl
 c167:=by kernel_rfl
 c168:=by kernel_rfl
 c171:=by kernel_rfl
 c173:=by kernel_rfl
 c175:=by kernel_rfl
 c210:=by kernel_rfl
 c212:=by kernel_rfl
 c213:=by kernel_rfl
 c232:=by kernel_rfl
 c233:=by kernel_rfl}
open Go.RowKit in
theorem Tryz.strconv_Atoi_ok(s:ByteArray)(hmax:s.size≤9223372036854775806)(v:Int)(h:Lib.atoiAll s.data.toList= .ok v)(w:World):
  Calls prog 201 #[.string s] w fun e w'=>e= .returned (.tuple #[.int .i64 v,.nilIface])∧(w'=w∨∃t,w'=Lib.bytesWorld w 5 t):=Any.strconv_Atoi_ok Tryz.laysC172 s hmax v h w
open Go.RowKit in
theorem Tryz.strconv_Atoi_syntax(s:ByteArray)(hlim:s.size≤281474976710656)(h:Lib.atoiAll s.data.toList=Lib.atoiAll [])(ev:Value)(w:World)(hv:w.cell? ⟨3,0,none⟩=some ev)(hev:ev= .nilIface∨∃te pe,ev= .iface te pe):
  Calls prog 201 #[.string s] w fun e w'=>∃N,e= .returned (.tuple #[.int .i64 (0),.iface 325 (.pointer (some ⟨N,0,none⟩))])∧w.heap.size≤N∧w'.heap[N]?=some (.cells #[.string ⟨#[65,116,111,105]⟩,.string s,ev] 350 (0,0))∧Below w.heap.size w w':=Any.strconv_Atoi_syntax Tryz.laysC172 s hlim h ev w hv hev
open Go.RowKit in
theorem Tryz.strconv_Atoi_range(s:ByteArray)(hlim:s.size≤281474976710656)(h:Lib.atoiAll s.data.toList= .range)(ev:Value)(w:World)(hv:w.cell? ⟨4,0,none⟩=some ev)(hev:ev= .nilIface∨∃te pe,ev= .iface te pe):
  Calls prog 201 #[.string s] w fun e w'=>∃N,e= .returned (.tuple #[.int .i64 (Lib.atoiSat s.data.toList),.iface 325 (.pointer (some ⟨N,0,none⟩))])∧w.heap.size≤N∧w'.heap[N]?=some (.cells #[.string ⟨#[65,116,111,105]⟩,.string s,ev] 350 (0,0))∧Below w.heap.size w w':=Any.strconv_Atoi_range Tryz.laysC172 s hlim h ev w hv hev
def Tryz.lays145_ren:Go.Shelf.Ren:=⟨fun|145=>52|220=>97|219=>171|217=>219|225=>220|224=>221|267=>222|266=>259|314=>260|n=>n,fun|9=>9|4=>4|59=>83|3=>3|5=>5|46=>271|146=>304|51=>212|n=>n,fun|1=>2|n=>n⟩
theorem Tryz.lays145:Go.Proofs.Lays.n145 prog Tryz.lays145_ren:={
 mixed:=by kernel_rfl
 f145:=func52.trans (congrArg some (by kernel_rfl))
 f217:=func219.trans (congrArg some (by kernel_rfl))
 f219:=func171.trans (congrArg some (by kernel_rfl))
 f220:=func97.trans (congrArg some (by kernel_rfl))
 f224:=func221.trans (congrArg some (by kernel_rfl))
 f225:=func220.trans (congrArg some (by kernel_rfl))
 f266:=func259.trans (congrArg some (by kernel_rfl))
 f267:=func222.trans (congrArg some (by kernel_rfl))
 f314:=func260.trans (congrArg some (by kernel_rfl))
 t3:=underlying3
 a3:=isAgg3
 z3:=sizeOf3
 v3:=zeroValue3
 t4:=underlying4
 a4:=isAgg4
 z4:=sizeOf4
 v4:=zeroValue4
 t5:=underlying5
 a5:=isAgg5
 z5:=sizeOf5
 v5:=zeroValue5
 t9:=underlying9
 a9:=isAgg9
 z9:=sizeOf9
 v9:=zeroValue9
 t46:=underlying271
 a46:=isAgg271
 z46:=sizeOf271
 v46:=zeroValue271
 t51:=underlying212
 a51:=isAgg212
 z51:=sizeOf212
 v51:=zeroValue212
 t59:=underlying83
 a59:=isAgg83
 z59:=sizeOf83
 v59:=zeroValue83
 t146:=underlying304
 a146:=isAgg304
 z146:=sizeOf304
 v146:=zeroValue304
 g1:=by kernel_rfl}
open Go.RowKit Go.Lib in
theorem Tryz.strings_Cut(s sep:ByteArray)(m:Int)(w:World)(hs:s.size<4294967281)(hm:w.cell? ⟨2,0,none⟩=some (.int .i64 m)):
  Calls prog 52 #[.string s,.string sep] w fun e w'=>e= .returned (.tuple #[.string ⟨(Lib.cut s.data.toList sep.data.toList).1.toArray⟩,.string ⟨(Lib.cut s.data.toList sep.data.toList).2.1.toArray⟩,.bool (Lib.cut s.data.toList sep.data.toList).2.2])∧∃n,w'=w.drewN n:=Any.strings_Cut Tryz.lays145 s sep m w hs hm
def Tryz.lays99_ren:Go.Shelf.Ren:=⟨fun|99=>311|206=>326|n=>n,fun|9=>9|4=>4|3=>3|n=>n,fun|n=>n⟩
theorem Tryz.lays99:Go.Proofs.Lays.n99 prog Tryz.lays99_ren:={
 mixed:=by kernel_rfl
 f99:=func311.trans (congrArg some (by kernel_rfl))
 f206:=func326.trans (congrArg some (by kernel_rfl))
 t3:=underlying3
 a3:=isAgg3
 z3:=sizeOf3
 v3:=zeroValue3
 t4:=underlying4
 a4:=isAgg4
 z4:=sizeOf4
 v4:=zeroValue4
 t9:=underlying9
 a9:=isAgg9
 z9:=sizeOf9
 v9:=zeroValue9}
open Go.RowKit Go.Lib in
theorem Tryz.strings_HasPrefix(s p:ByteArray)(w:World):
  Calls prog 311 #[.string s,.string p] w fun e w'=>e= .returned (.bool (Lib.hasPrefix s.data.toList p.data.toList))∧w'=w:=Any.strings_HasPrefix Tryz.lays99 s p w
def Tryz.lays157_ren:Go.Shelf.Ren:=⟨fun|157=>48|229=>94|199=>95|261=>169|311=>217|312=>218|n=>n,fun|9=>9|31=>26|3=>3|5=>5|4=>4|119=>141|0=>0|40=>143|152=>209|21=>21|154=>211|51=>212|141=>214|196=>262|193=>259|198=>265|49=>263|194=>260|201=>268|226=>302|46=>271|227=>303|n=>n,fun|0=>0|6=>1|n=>n⟩
theorem Tryz.lays157:Go.Proofs.Lays.n157 prog Tryz.lays157_ren:={
 mixed:=by kernel_rfl
 f157:=func48.trans (congrArg some (by kernel_rfl))
 f199:=func95.trans (congrArg some (by kernel_rfl))
 f229:=func94.trans (congrArg some (by kernel_rfl))
 f261:=func169.trans (congrArg some (by kernel_rfl))
 f311:=func217.trans (congrArg some (by kernel_rfl))
 f312:=func218.trans (congrArg some (by kernel_rfl))
 t0:=underlying0
 a0:=isAgg0
 z0:=sizeOf0
 v0:=zeroValue0
 t3:=underlying3
 a3:=isAgg3
 z3:=sizeOf3
 v3:=zeroValue3
 t4:=underlying4
 a4:=isAgg4
 z4:=sizeOf4
 v4:=zeroValue4
 t5:=underlying5
 a5:=isAgg5
 z5:=sizeOf5
 v5:=zeroValue5
 t9:=underlying9
 a9:=isAgg9
 z9:=sizeOf9
 v9:=zeroValue9
 t21:=underlying21
 a21:=isAgg21
 z21:=sizeOf21
 v21:=zeroValue21
 t31:=underlying26
 a31:=isAgg26
 z31:=sizeOf26
 v31:=zeroValue26
 t40:=underlying143
 a40:=isAgg143
 z40:=sizeOf143
 v40:=zeroValue143
 t46:=underlying271
 a46:=isAgg271
 z46:=sizeOf271
 v46:=zeroValue271
 t49:=underlying263
 a49:=isAgg263
 z49:=sizeOf263
 v49:=zeroValue263
 t51:=underlying212
 a51:=isAgg212
 z51:=sizeOf212
 v51:=zeroValue212
 t119:=underlying141
 a119:=isAgg141
 z119:=sizeOf141
 t141:=underlying214
 a141:=isAgg214
 z141:=sizeOf214
 v141:=zeroValue214
 t152:=underlying209
 a152:=isAgg209
 z152:=sizeOf209
 v152:=zeroValue209
 t154:=underlying211
 a154:=isAgg211
 z154:=sizeOf211
 v154:=zeroValue211
 t193:=underlying259
 a193:=isAgg259
 z193:=sizeOf259
 v193:=zeroValue259
 t194:=underlying260
 a194:=isAgg260
 z194:=sizeOf260
 v194:=zeroValue260
 t196:=underlying262
 a196:=isAgg262
 z196:=sizeOf262
 v196:=zeroValue262
 t198:=underlying265
 a198:=isAgg265
 z198:=sizeOf265
 v198:=zeroValue265
 t201:=underlying268
 a201:=isAgg268
 z201:=sizeOf268
 v201:=zeroValue268
 t226:=underlying302
 a226:=isAgg302
 z226:=sizeOf302
 v226:=zeroValue302
 t227:=underlying303
 a227:=isAgg303
 z227:=sizeOf303
 v227:=zeroValue303
 g0:=by kernel_rfl
 g6:=by kernel_rfl}
open Go.RowKit Go.Lib in
theorem Tryz.strings_Fields(s:ByteArray)(w:World)(hs:s.size<4294967281)(hascii:∀(j:Nat) b,s.data.toList[j]?=some b→b.toNat<128)(htab:Lib.TabIs prog w "strings.asciiSpace" .u8 Lib.asciiSpaceTab):
  Calls prog 48 #[.string s] w fun e w'=>
   e= .returned (.slice (some ⟨w.heap.size,0,none⟩) (Lib.fields s.data.toList).length (Lib.fields s.data.toList).length)∧w'=w.alloc (.cells ((Lib.fields s.data.toList).map fun l=>Value.string ⟨l.toArray⟩).toArray 9):=Any.strings_Fields Tryz.lays157 (by kernel_rfl) (by kernel_rfl) s w hs hascii htab
def Tryz.lays110_ren:Go.Shelf.Ren:=⟨fun|110=>46|109=>92|n=>n,fun|31=>26|9=>9|4=>4|3=>3|0=>0|n=>n,fun|n=>n⟩
theorem Tryz.lays110:Go.Proofs.Lays.n110 prog Tryz.lays110_ren:={
 mixed:=by kernel_rfl
 f109:=func92.trans (congrArg some (by kernel_rfl))
 f110:=func46.trans (congrArg some (by kernel_rfl))
 t0:=underlying0
 a0:=isAgg0
 z0:=sizeOf0
 v0:=zeroValue0
 t3:=underlying3
 a3:=isAgg3
 z3:=sizeOf3
 v3:=zeroValue3
 t4:=underlying4
 a4:=isAgg4
 z4:=sizeOf4
 v4:=zeroValue4
 t9:=underlying9
 a9:=isAgg9
 z9:=sizeOf9
 v9:=zeroValue9
 t31:=underlying26
 a31:=isAgg26
 z31:=sizeOf26
 v31:=zeroValue26}
open Go.Lib in
theorem Tryz.slices_Contains_string(b off n c:Nat)(zs:List ByteArray)(x:ByteArray)(w:World)(hz:n≤zs.length)(hbig:n≤9223372036854775807)(hc:∀j,j<zs.length→w.cell? ⟨b,off+j,none⟩=some (.string (zs.getD j ByteArray.empty))):
  Calls prog 46 #[.slice (some ⟨b,off,none⟩) n c,.string x] w fun e w'=>e= .returned (.bool (Lib.containsS (zs.take n) x))∧w'=w:=Any.slices_Contains_string Tryz.lays110 b off n c zs x w hz hbig hc
end Go.Proofs
namespace Go.Proofs.YtjnclkakbopnjaaGreatDoor
open Go.Proofs.Tryz
open Go.RowKit
def QBf(l:List UInt8)(n:Nat):Bool:=
 match l.drop n with
 |c::r=>c==58&&(match r with| []=>true|d::_=>d !=58&&d !=61)
 | []=>false
theorem QAE(s:ByteArray):s.data.toList.length=s.size:=by show s.data.toList.length=s.data.size;simp
theorem QBC(s:ByteArray)(k:Nat)(h:k<s.size):s.data.toList.drop k=s[k]::s.data.toList.drop (k+1):=by
 rw[List.drop_eq_getElem_cons (by rw[QAE];exact h)];rfl
theorem QKP(b:UInt8)(c:Nat)(hc:c<256):((b.toNat:Int)==(c:Int))=(b==UInt8.ofNat c):=by
 rw[Bool.eq_iff_iff,beq_iff_eq,beq_iff_eq,←UInt8.toNat_inj,UInt8.toNat_ofNat'];constructor <;> intro h <;> omega
theorem QKR(b:UInt8)(c:Nat)(hc:c<256):((b.toNat:Int) !=(c:Int))=(b !=UInt8.ofNat c):=by
 simp only[bne,QKP b c hc]
theorem QJH(s:ByteArray)(n:Nat)(w:World)(hs:s.size≤9223372036854775807)(hn:n≤9223372036854775806):
  Calls prog 313 #[.string s,.int .i64 n] w fun e w'=>e= .returned (.bool (QBf s.data.toList n))∧w'=w:=by
 by_cases h:n<s.size
 ·
  have hd:decide ((n:Int)<s.size)=true:=by simpa using h
  have e58:((s[n].toNat:Int)==58)=(s[n]==58):=QKP s[n] 58 (by omega)
  by_cases hl:n+1<s.size
  ·
   have e1:((n:Int)+1==s.size)=false:=by rw[beq_eq_false_iff_ne];omega
   have f58:((s[n+1].toNat:Int) !=58)=(s[n+1] !=58):=QKR _ 58 (by omega);have f61:((s[n+1].toNat:Int) !=61)=(s[n+1] !=61):=QKR _ 61 (by omega)
   have hv:QBf s.data.toList n=(s[n]==58&&(s[n+1] !=58&&s[n+1] !=61)):=by
    unfold QBf;rw[QBC s n h,QBC s (n+1) hl]
   generalize (s[n]==58)=x at*;generalize (s[n+1] !=58)=y at*;generalize (s[n+1] !=61)=z at*;have HV:=hd0 hv;clear hv
   cases x <;> cases y <;> cases z
   all_goals
    go_enter func313,ntmps313;go_wp2;go_ret;exact⟨by rw[HV.out];rfl,rfl⟩
  ·
   have e1:((n:Int)+1==s.size)=true:=by rw[beq_iff_eq];omega
   have hv:QBf s.data.toList n=(s[n]==58):=by
    unfold QBf;rw[QBC s n h,List.drop_of_length_le (by rw[QAE];omega)];simp
   generalize (s[n]==58)=x at*;have HV:=hd0 hv;clear hv
   cases x
   all_goals
    go_enter func313,ntmps313;go_wp2;go_ret;exact⟨by rw[HV.out];rfl,rfl⟩
 ·
  have hd:decide ((n:Int)<s.size)=false:=by simpa using h
  have hv:QBf s.data.toList n=false:=by unfold QBf;rw[List.drop_of_length_le (by rw[QAE];omega)]
  have HV:=hd0 hv;clear hv;go_enter func313,ntmps313;go_wp2;go_ret;exact⟨by rw[HV.out];rfl,rfl⟩
def QAH(l:List UInt8):Nat:=
 match l with
 | []=>0
 |b::_=>if QBN b.toNat||QGs b.toNat then QAm (l.takeWhile fun b=>QDz b.toNat) 0 false 0 else 0
def QDv(f:Nat→Bool)(l:List UInt8):Nat:=(l.takeWhile fun b=>f b.toNat).length
theorem QJ5(f:Nat→Bool)(s:ByteArray):QCf f s=QDv f s.data.toList:=rfl
theorem QLM(f:Nat→Bool)(s:ByteArray):s.data.toList.take (QCf f s)=s.data.toList.takeWhile fun b=>f b.toNat:=by
 unfold QCf;generalize s.data.toList=l
 induction l with
 |nil=>rfl
 |cons b r ih=>cases h:f b.toNat <;> simp[List.takeWhile_cons,h,ih]
theorem QEn(cb tb:Nat)(s:ByteArray)(w:World)(hs:s.size≤9223372036854775807)
  (h2:w.cell? ⟨cb,2,none⟩=some (.pointer (some ⟨tb,0,none⟩))) (ht:IsTab w tb):
  Calls prog 309 #[.pointer (some ⟨cb,0,none⟩),.string s] w fun e w'=>e= .returned (.int .i64 (QAH s.data.toList))∧∃n,w'=w.drewN n:=by
 by_cases h0:0<s.size
 ·
  have hl:=QBC s 0 h0;rw[List.drop_zero]at hl
  by_cases hLB:(QBN s[0].toNat||QGs s[0].toNat)=true
  ·
   have:=QMU cb tb s w hs h0 hLB h2 ht;rw[QLM]at this;rw[show QAH s.data.toList=QAm (s.data.toList.takeWhile fun b=>QDz b.toNat) 0 false 0 from by unfold QAH;rw[hl];simp only[];rw[if_pos hLB]];exact this
  ·
   rw[Bool.not_eq_true,Bool.or_eq_false_iff]at hLB;rw[show QAH s.data.toList=0 from by unfold QAH;rw[hl];simp only[];rw[if_neg (by simp[hLB])]];exact QOW cb tb s w hs h0 hLB.1 hLB.2 h2 ht
 ·
  have he:s=⟨#[]⟩:=by
   have:s.data.toList= []:=List.eq_nil_of_length_eq_zero (by rw[QAE];omega)
   cases s with|mk d=>cases d;simp_all
  subst he;exact QMT cb tb w h2
theorem QGY:∀(l:List UInt8) (i:Nat) (b:Bool) (n:Nat),n≤i→QAm l i b n≤i+l.length
 | [],_,_,_,h=>by simpa[QAm]using h
 |c::r,i,b,n,h=>by
  rw[QAm];have:=QGY r (i+1) (b||QBN c.toNat) (if b||QBN c.toNat then(if QG0 c.toNat then i+1 else n) else n) (by split <;> (try split) <;> omega);simp only[List.length_cons];omega
theorem QB9(l:List UInt8):QAH l≤l.length:=by
 unfold QAH
 cases l with
 |nil=>exact Nat.le_refl _
 |cons b r=>
  simp only[]
  split
  ·
   have:=QGY ((b::r).takeWhile fun b=>QDz b.toNat) 0 false 0 (Nat.le_refl _);have:=(List.takeWhile_sublist (fun b:UInt8=>QDz b.toNat) (l:=b::r)).length_le;omega
  ·
   omega
theorem QEO(f:Nat→Bool)(l:List UInt8):QDv f l≤l.length:=(List.takeWhile_sublist _).length_le
def QBl(l:List UInt8):Nat:=
 match (if QAH l=0 then [] else l.drop (QAH l))with
 |c::r=>if c==64 then(if decide (0<QDv QFU r)&&(match r with|d::_=>d !=45| []=>false) then QAH l+1+QDv QFU r else QAH l) else QAH l
 | []=>QAH l
def QAw(l:List UInt8):Nat:=if decide (0<QAH l)&&QBf l (QAH l) then QAH l+1 else 0
def QG5(l:List UInt8):Nat:=if Lib.hasPrefix l [35,116]||Lib.hasPrefix l [35,102] then 2 else 0
theorem QPx(cb tb:Nat)(s:ByteArray)(w:World)(hs:s.size≤1000000)
  (h2:w.cell? ⟨cb,2,none⟩=some (.pointer (some ⟨tb,0,none⟩))) (ht:IsTab w tb):
  Calls prog 276 #[.pointer (some ⟨cb,0,none⟩),.string s] w fun e w'=>e= .returned (.int .i64 (QBl s.data.toList))∧∃n,w'=w.drewN n:=by
 have hp:=QEn cb tb s w (by omega) h2 ht;have hb:=QB9 s.data.toList;rw[QAE]at hb;generalize hn:QAH s.data.toList=n at*;have HN:=hd0 hn;have HP:=hd0 hp;have HT:=hd0 ht;clear hn hp ht
 by_cases h0:n=0
 ·
  subst h0;have hv:QBl s.data.toList=0:=by unfold QBl;rw[HN.out];rfl
  have HV:=hd0 hv;clear hv;go_enter func276,ntmps276
  go_wp2_with fail
  refine HP.out.mono ?_;rintro e w' ⟨rfl,m0,rfl⟩;go_wp2;go_ret;exact⟨by rw[HV.out];rfl,_,rfl⟩
 ·
  have p0:(0:Int)<n:=by omega
  by_cases h1:n<s.size
  ·
   have d1:decide ((n:Int)<s.size)=true:=by simpa using h1
   have e64:((s[n].toNat:Int)==64)=(s[n]==64):=QKP s[n] 64 (by omega)
   have hv:QBl s.data.toList=if s[n]==64 then(if decide (0<QDv QFU (s.data.toList.drop (n+1)))&&(match s.data.toList.drop (n+1)with|d::_=>d !=45| []=>false) then n+1+QDv QFU (s.data.toList.drop (n+1)) else n) else n:=by
    unfold QBl;rw[HN.out,if_neg h0,QBC s n h1]
   generalize (s[n]==64)=x at*
   cases x
   ·
    simp only[Bool.false_eq_true,if_false]at hv;have HV:=hd0 hv;clear hv;go_enter func276,ntmps276
    go_wp2_with fail
    refine HP.out.mono ?_;rintro e w' ⟨rfl,m0,rfl⟩;go_wp2;go_ret;exact⟨QAO (by rw[HV.out]),_,rfl⟩
   ·
    simp only[if_true]at hv;have HV:=hd0 hv;clear hv;go_enter func276,ntmps276
    go_wp2_with fail
    refine HP.out.mono ?_;rintro e w' ⟨rfl,m0,rfl⟩
    go_wp2_with fail
    refine(QHu cb tb (s.extract (n+1) s.size) QFU 5 _ (by rw[ByteArray.size_extract];omega) (by omega) (by rw[World.cell?_drewN];exact h2) (fun x hx=>by rw[World.cell?_drewN];exact HT.out.at_ 5 x (by omega) hx)).mono ?_;rintro e w' ⟨rfl,m1,rfl⟩;rw[QJ5,Lib.extract_to_end];have hq:=QEO QFU (s.data.toList.drop (n+1));rw[List.length_drop,QAE]at hq;have hv:=HV.out;clear HV;generalize hrq:QDv QFU (s.data.toList.drop (n+1))=q at*;clear hrq
    by_cases q0:q=0
    ·
     subst q0;have HV:=hd0 hv;clear hv;go_wp2;go_ret;exact⟨QAO (by rw[HV.out];simp),_,rfl⟩
    ·
     have q1:(0:Int)<q:=by omega
     have q2:0<q:=by omega
     have l1:n+1<s.size:=by omega
     have l2:(n:Int)+1<s.size:=by omega
     have f45:((s[n+1].toNat:Int) !=45)=(s[n+1] !=45):=QKR s[n+1] 45 (by omega);have hv3:QBl s.data.toList=if(s[n+1] !=45)=true then n+1+q else n:=by rw[hv,QBC s (n+1) l1];simp[q2]
     clear hv
     cases hx:(s[n+1] !=45) <;> rw[hx]at f45 <;> rw[hx]at hv3
     all_goals
      have HV:=hd0 hv3;clear hv3 hx;go_wp2;go_ret;exact⟨QAO (by rw[HV.out];simp),_,rfl⟩
  ·
   have d1:decide ((n:Int)<s.size)=false:=by simpa using h1
   have hv:QBl s.data.toList=n:=by unfold QBl;rw[HN.out,if_neg h0,List.drop_of_length_le (by rw[QAE];omega)]
   have HV:=hd0 hv;clear hv;go_enter func276,ntmps276
   go_wp2_with fail
   refine HP.out.mono ?_;rintro e w' ⟨rfl,m0,rfl⟩;go_wp2;go_ret;exact⟨QAO (by rw[HV.out]),_,rfl⟩
theorem QKt(cb tb:Nat)(s:ByteArray)(w:World)(hs:s.size≤1000000)
  (h2:w.cell? ⟨cb,2,none⟩=some (.pointer (some ⟨tb,0,none⟩))) (ht:IsTab w tb):
  Calls prog 278 #[.pointer (some ⟨cb,0,none⟩),.string s] w fun e w'=>e= .returned (.int .i64 (QAw s.data.toList))∧∃n,w'=w.drewN n:=by
 have hp:=QEn cb tb s w (by omega) h2 ht;have hb:=QB9 s.data.toList;rw[QAE]at hb;have hv:QAw s.data.toList=if decide (0<QAH s.data.toList)&&QBf s.data.toList (QAH s.data.toList) then QAH s.data.toList+1 else 0:=rfl;generalize hn:QAH s.data.toList=n at*;have hc:=fun w=>QJH s n w (by omega) (by omega)
 generalize QBf s.data.toList n=x at*;have HP:=hd0 hp;have HC:=hd0 hc;clear hn hp hc
 by_cases h0:n=0
 ·
  subst h0;have HV:=hd0 hv;clear hv;go_enter func278,ntmps278
  go_wp2_with fail
  refine HP.out.mono ?_;rintro e w' ⟨rfl,m0,rfl⟩;go_wp2;go_ret;exact⟨QAO (by rw[HV.out];rfl),_,rfl⟩
 ·
  have p0:(0:Int)<n:=by omega
  have p1:(0<n):=by omega
  have HV:=hd0 hv;clear hv
  cases x
  all_goals
   go_enter func278,ntmps278
   go_wp2_with fail
   refine HP.out.mono ?_;rintro e w' ⟨rfl,m0,rfl⟩
   go_wp2_with fail
   refine(HC.out _).mono ?_;rintro e w' ⟨rfl,rfl⟩;go_wp2;go_ret;exact⟨QAO (by rw[HV.out];simp[p1]),_,rfl⟩
theorem QPl(cb:Nat)(s:ByteArray)(w:World):
  Calls prog 279 #[.pointer (some ⟨cb,0,none⟩),.string s] w fun e w'=>e= .returned (.int .i64 (QG5 s.data.toList))∧w'=w:=by
 have h1:=fun w=>Tryz.strings_HasPrefix s ⟨#[35,116]⟩ w
 have h2:=fun w=>Tryz.strings_HasPrefix s ⟨#[35,102]⟩ w
 have hv:QG5 s.data.toList=if Lib.hasPrefix s.data.toList [35,116]||Lib.hasPrefix s.data.toList [35,102] then 2 else 0:=rfl;simp only at h1 h2;generalize Lib.hasPrefix s.data.toList [35,116]=x at*;generalize Lib.hasPrefix s.data.toList [35,102]=y at*;have H1:=hd0 h1;have H2:=hd0 h2;have HV:=hd0 hv;clear h1 h2 hv
 cases x <;> cases y
 all_goals
  go_enter func279,ntmps279
  go_wp2_with fail
  refine(H1.out _).mono ?_;rintro e w' ⟨rfl,rfl⟩
  go_wp2_with (refine(H2.out _).mono ?_;rintro e w' ⟨rfl,rfl⟩)
  go_ret;exact⟨QAO (by rw[HV.out];rfl),rfl⟩
structure CutAt(w:World)(cb tb:Nat)(s:ByteArray)(at_:Nat)(lk la ll:Nat):Prop where
 text:w.cell? ⟨cb,0,none⟩=some (.string s)
 pos:w.cell? ⟨cb,1,none⟩=some (.int .i64 at_)
 tab:w.cell? ⟨cb,2,none⟩=some (.pointer (some ⟨tb,0,none⟩))
 kind:w.cell? ⟨cb,3,none⟩=some (.int .i64 lk)
 lat:w.cell? ⟨cb,4,none⟩=some (.int .i64 la)
 llen:w.cell? ⟨cb,5,none⟩=some (.int .i64 ll)
 free:∀o,w.frozen? ⟨cb,o,none⟩=false
 isTab:IsTab w tb
 size:s.size≤20000
 le:at_≤s.size
 last:la+ll≤s.size
def QDM(lk:Nat)(t:List UInt8):Bool:=lk==1||lk==2||lk==4||(lk==5&&(t== [41]||t== [93]))
theorem QDV(a b:Nat):((a:Int)==(b:Int))=(a==b):=by rw[Bool.eq_iff_iff,beq_iff_eq,beq_iff_eq];omega
theorem QFt(s:ByteArray)(a n:Nat):(s.extract a (a+n)).toList=(s.data.toList.drop a).take n:=by
 rw[Lib.toList_data,Lib.extract_data,Nat.add_sub_cancel_left]
theorem QJk(cb tb:Nat)(s:ByteArray)(p lk la ll:Nat)(w:World)(h:CutAt w cb tb s p lk la ll):
  Calls prog 312 #[.pointer (some ⟨cb,0,none⟩)] w fun e w'=>e= .returned (.bool (QDM lk ((s.data.toList.drop la).take ll)))∧∃n,w'=w.drewN n:=by
 obtain⟨h0,h1,h2,h3,h4,h5,hf,ht,hs,hle,hl⟩:=h;have i0:(0:Int)≤la:=by omega
 have i1:(la:Int)≤la+ll:=by omega
 have i2:(la:Int)+ll≤s.size:=by omega
 have e1:=QDV lk 1;have e2:=QDV lk 2;have e4:=QDV lk 4;have e5:=QDV lk 5;have hv:QDM lk ((s.data.toList.drop la).take ll)=(lk==1||lk==2||lk==4||(lk==5&&((s.data.toList.drop la).take ll== [41]||(s.data.toList.drop la).take ll== [93]))):=rfl;clear ht h1 h2;generalize (lk==1)=x1 at*;generalize (lk==2)=x2 at*;generalize (lk==4)=x4 at*;generalize (lk==5)=x5 at*;have HV:=hd0 hv;clear hv
 cases x1
 ·
  cases x2
  ·
   cases x4
   ·
    cases x5
    ·
     go_enter func312,ntmps312;go_wp2;go_ret;exact⟨by rw[HV.out];rfl,0,rfl⟩
    ·
     have hv:=HV.out;rw[←QFt]at hv;clear HV
     by_cases hA:(s.extract la (la+ll)).toList= [41]
     ·
      have HV:=hd0 hv;clear hv;go_enter func312,ntmps312;go_wp2
      go_quiet (fail)
      go_wp2;go_ret;exact⟨by rw[←QFt,HV.out,hA];rfl,_,rfl⟩
     ·
      by_cases hB:(s.extract la (la+ll)).toList= [93]
      all_goals
       have HV:=hd0 hv;clear hv;go_enter func312,ntmps312;go_wp2
       go_quiet (fail)
       go_wp2;go_ret;exact⟨by rw[←QFt,HV.out];simp[hA,hB],_,rfl⟩
   all_goals
    go_enter func312,ntmps312;go_wp2;go_ret;exact⟨by rw[HV.out];rfl,0,rfl⟩
  all_goals
   go_enter func312,ntmps312;go_wp2;go_ret;exact⟨by rw[HV.out];rfl,0,rfl⟩
 all_goals
  go_enter func312,ntmps312;go_wp2;go_ret;exact⟨by rw[HV.out];rfl,0,rfl⟩
theorem QR4 {a b:ByteArray}(h:a=b):Ending.returned (.string a)= .returned (.string b):=by rw[h]
theorem CutAt.drewN {w:World}{cb tb:Nat}{s:ByteArray}{p lk la ll:Nat}(h:CutAt w cb tb s p lk la ll)(n:Nat):CutAt (w.drewN n) cb tb s p lk la ll:=
 ⟨h.text,h.pos,h.tab,h.kind,h.lat,h.llen,h.free,h.isTab.drewN n,h.size,h.le,h.last⟩
def QB2(l:List UInt8)(op:Bool):Nat:=
 if Lib.hasPrefix l [45]&&!op then(if 0<QDv QCp (l.drop 1) then 1+QDv QCp (l.drop 1) else 0) else QDv QCp l
theorem QKj(cb tb:Nat)(s t:ByteArray)(p lk la ll:Nat)(w:World)(h:CutAt w cb tb s p lk la ll)(hs:t.size≤1000000):
  Calls prog 277 #[.pointer (some ⟨cb,0,none⟩),.string t] w fun e w'=>
   e= .returned (.int .i64 (QB2 t.data.toList (QDM lk ((s.data.toList.drop la).take ll))))∧∃n,w'=w.drewN n:=by
 have h1:=fun w=>Tryz.strings_HasPrefix t ⟨#[45]⟩ w
 have ho:=fun w h=>QJk cb tb s p lk la ll w h
 have hv:∀op,QB2 t.data.toList op=if Lib.hasPrefix t.data.toList [45]&&!op then(if 0<QDv QCp (t.data.toList.drop 1) then 1+QDv QCp (t.data.toList.drop 1) else 0) else QDv QCp t.data.toList:=fun _=>rfl
 have hx1:Lib.hasPrefix t.data.toList [45]=true→1≤t.size:=by
  intro hh;rw[←QAE]
  cases hl:t.data.toList with
  |nil=>rw[hl]at hh;simp[Lib.hasPrefix]at hh
  |cons=>simp
 simp only at h1;generalize Lib.hasPrefix t.data.toList [45]=x at*;generalize QDM lk ((s.data.toList.drop la).take ll)=y at*;have hv:=hv y;have H1:=hd0 h1;have HO:=hd0 ho;have HX:=hd0 hx1;have HC:=hd0 h;clear h1 ho hx1 h
 have k0:∀(w':World),CutAt w' cb tb s p lk la ll→Calls prog 310 #[.pointer (some ⟨cb,0,none⟩),.string t,.int .i64 1] w' fun e w''=>e= .returned (.int .i64 (QDv QCp t.data.toList))∧∃n,w''=w'.drewN n:=by
  intro w' hw;refine(QHu cb tb t QCp 1 w' (by omega) (by omega) hw.tab (fun x hx=>hw.isTab.at_ 1 x (by omega) hx)).mono ?_;rintro e w'' ⟨rfl,hn⟩;exact⟨rfl,hn⟩
 have k1:∀(w':World),1≤t.size→CutAt w' cb tb s p lk la ll→Calls prog 310 #[.pointer (some ⟨cb,0,none⟩),.string (t.extract 1 t.size),.int .i64 1] w' fun e w''=>e= .returned (.int .i64 (QDv QCp (t.data.toList.drop 1)))∧∃n,w''=w'.drewN n:=by
  intro w' hm hw;refine(QHu cb tb (t.extract 1 t.size) QCp 1 w' (by rw[ByteArray.size_extract];omega) (by omega) hw.tab (fun x hx=>hw.isTab.at_ 1 x (by omega) hx)).mono ?_;rintro e w'' ⟨rfl,hn⟩;rw[QJ5,Lib.extract_to_end];exact⟨rfl,hn⟩
 have b0:=QEO QCp t.data.toList;have b1:=QEO QCp (t.data.toList.drop 1);rw[List.length_drop]at b1;rw[QAE]at b0 b1;generalize QDv QCp t.data.toList=q at*;generalize QDv QCp (t.data.toList.drop 1)=r at*;have K0:=hd0 k0;have K1:=hd0 k1;clear k0 k1
 cases x
 ·
  simp only[Bool.false_and,Bool.false_eq_true,if_false]at hv;have HV:=hd0 hv;clear hv
  by_cases q0:q=0
  ·
   subst q0;go_enter func277,ntmps277
   go_wp2_with fail
   refine(H1.out _).mono ?_;rintro e w' ⟨rfl,rfl⟩
   go_wp2_with fail
   refine(K0.out _ HC.out).mono ?_;rintro e w'' ⟨rfl,m1,rfl⟩;go_wp2;go_ret;exact⟨QAO (by rw[HV.out];rfl),_,rfl⟩
  ·
   have q1:(0:Int)<q:=by omega
   go_enter func277,ntmps277
   go_wp2_with fail
   refine(H1.out _).mono ?_;rintro e w' ⟨rfl,rfl⟩
   go_wp2_with fail
   refine(K0.out _ HC.out).mono ?_;rintro e w'' ⟨rfl,m1,rfl⟩;go_wp2;go_ret;exact⟨QAO (by rw[HV.out]),_,rfl⟩
 ·
  have hsz:=HX.out rfl;have hsz':(1:Int)≤t.size:=by omega
  cases y
  ·
   simp only[Bool.not_false,Bool.and_self,if_true]at hv;have HV:=hd0 hv;clear hv
   by_cases r0:r=0
   ·
    subst r0;go_enter func277,ntmps277
    go_wp2_with fail
    refine(H1.out _).mono ?_;rintro e w' ⟨rfl,rfl⟩
    go_wp2_with fail
    refine(HO.out _ HC.out).mono ?_;rintro e w'' ⟨rfl,m1,rfl⟩
    go_wp2_with fail
    refine(K1.out _ hsz (HC.out.drewN _)).mono ?_;rintro e w'' ⟨rfl,m2,rfl⟩;go_wp2;go_ret;exact⟨QAO (by rw[HV.out];rfl),_,rfl⟩
   ·
    have r1:(0:Int)<r:=by omega
    have r2:0<r:=by omega
    go_enter func277,ntmps277
    go_wp2_with fail
    refine(H1.out _).mono ?_;rintro e w' ⟨rfl,rfl⟩
    go_wp2_with fail
    refine(HO.out _ HC.out).mono ?_;rintro e w'' ⟨rfl,m1,rfl⟩
    go_wp2_with fail
    refine(K1.out _ hsz (HC.out.drewN _)).mono ?_;rintro e w'' ⟨rfl,m2,rfl⟩;go_wp2;go_ret;exact⟨QAO (by rw[HV.out,if_pos r2];rfl),_,rfl⟩
  ·
   simp only[Bool.not_true,Bool.and_false,Bool.false_eq_true,if_false]at hv;have HV:=hd0 hv;clear hv
   by_cases q0:q=0
   ·
    subst q0;go_enter func277,ntmps277
    go_wp2_with fail
    refine(H1.out _).mono ?_;rintro e w' ⟨rfl,rfl⟩
    go_wp2_with fail
    refine(HO.out _ HC.out).mono ?_;rintro e w'' ⟨rfl,m1,rfl⟩
    go_wp2_with fail
    refine(K0.out _ (HC.out.drewN _)).mono ?_;rintro e w'' ⟨rfl,m2,rfl⟩;go_wp2;go_ret;exact⟨QAO (by rw[HV.out];rfl),_,rfl⟩
   ·
    have q1:(0:Int)<q:=by omega
    go_enter func277,ntmps277
    go_wp2_with fail
    refine(H1.out _).mono ?_;rintro e w' ⟨rfl,rfl⟩
    go_wp2_with fail
    refine(HO.out _ HC.out).mono ?_;rintro e w'' ⟨rfl,m1,rfl⟩
    go_wp2_with fail
    refine(K0.out _ (HC.out.drewN _)).mono ?_;rintro e w'' ⟨rfl,m2,rfl⟩;go_wp2;go_ret;exact⟨QAO (by rw[HV.out]),_,rfl⟩
theorem QHk(cb:Nat)(s p:ByteArray)(k:Nat)(w:World)(h0:w.cell? ⟨cb,0,none⟩=some (.string s))(h1:w.cell? ⟨cb,1,none⟩=some (.int .i64 k))(hk:k≤s.size)(hs:s.size≤1000000):
  Calls prog 282 #[.pointer (some ⟨cb,0,none⟩),.string p] w fun e w'=>e= .returned (.bool (Lib.hasPrefix (s.data.toList.drop k) p.data.toList))∧∃n,w'=w.drewN n:=by
 have hp:=fun w=>Tryz.strings_HasPrefix (s.extract k s.size) p w
 rw[Lib.extract_to_end]at hp;have HP:=hd0 hp;clear hp;have i0:(0:Int)≤k:=by omega
 have i1:(k:Int)≤s.size:=by omega
 go_enter func282,ntmps282;go_wp2
 go_quiet ((exact Calls.quiet_of_same (HP.out _)))
 go_wp2;go_ret;exact⟨rfl,_,rfl⟩
theorem QNA(cb:Nat)(s:ByteArray)(k:Nat)(w:World)(h0:w.cell? ⟨cb,0,none⟩=some (.string s))(h1:w.cell? ⟨cb,1,none⟩=some (.int .i64 k))(hk:k≤s.size)(hs:s.size≤1000000):
  Calls prog 314 #[.pointer (some ⟨cb,0,none⟩)] w fun e w'=>e= .returned (.string (s.extract k (min s.size (k+100))))∧∃n,w'=w.drewN n:=by
 have i0:(0:Int)≤k:=by omega
 have i1:(k:Int)≤s.size:=by omega
 go_enter func314,ntmps314;go_wp2
 go_quiet (fail)
 go_wp2;go_ret;exact⟨QR4 (by rw[show(min (s.size:Int) ((k:Int)+100)).toNat=min s.size (k+100)from by omega]),_,rfl⟩
def QB3(l:List UInt8):Nat:=
 if Lib.hasPrefix l [63] then
  (if QAH (l.drop 1)=0 then 0 else
   if QBf l (QAH (l.drop 1)+1) then
    (if 0<QAH (l.drop (QAH (l.drop 1)+1+1)) then QAH (l.drop 1)+1+1+QAH (l.drop (QAH (l.drop 1)+1+1)) else QAH (l.drop 1)+1)
   else QAH (l.drop 1)+1)
 else 0
theorem QGA {l:List UInt8}{n:Nat}(h:QBf l n=true):n<l.length:=by
 unfold QBf at h
 cases hd:l.drop n with
 |nil=>rw[hd]at h;simp at h
 |cons c r=>
  have:=congrArg List.length hd;simp only[List.length_drop,List.length_cons]at this;omega
theorem QK0(cb tb:Nat)(t:ByteArray)(w:World)(hs:t.size≤1000000)
  (h2:w.cell? ⟨cb,2,none⟩=some (.pointer (some ⟨tb,0,none⟩))) (ht:IsTab w tb):
  Calls prog 281 #[.pointer (some ⟨cb,0,none⟩),.string t] w fun e w'=>e= .returned (.int .i64 (QB3 t.data.toList))∧∃n,w'=w.drewN n:=by
 have h1:=fun w=>Tryz.strings_HasPrefix t ⟨#[63]⟩ w
 have hx1:Lib.hasPrefix t.data.toList [63]=true→1≤t.size:=by
  intro hh;rw[←QAE]
  cases hl:t.data.toList with
  |nil=>rw[hl]at hh;simp[Lib.hasPrefix]at hh
  |cons=>simp
 have kp:∀(m k:Nat),m≤t.size→Calls prog 309 #[.pointer (some ⟨cb,0,none⟩),.string (t.extract m t.size)] (w.drewN k) fun e w''=>e= .returned (.int .i64 (QAH (t.data.toList.drop m)))∧∃n,w''=w.drewN n:=by
  intro m k hm;refine(QEn cb tb (t.extract m t.size) (w.drewN k) (by rw[ByteArray.size_extract];omega) (by rw[World.cell?_drewN];exact h2) (ht.drewN k)).mono ?_;rintro e w'' ⟨rfl,n,rfl⟩;rw[Lib.extract_to_end];exact⟨rfl,_,World.drewN_drewN ..⟩
 have hv:QB3 t.data.toList=if Lib.hasPrefix t.data.toList [63] then
  (if QAH (t.data.toList.drop 1)=0 then 0 else
   if QBf t.data.toList (QAH (t.data.toList.drop 1)+1) then
    (if 0<QAH (t.data.toList.drop (QAH (t.data.toList.drop 1)+1+1)) then QAH (t.data.toList.drop 1)+1+1+QAH (t.data.toList.drop (QAH (t.data.toList.drop 1)+1+1)) else QAH (t.data.toList.drop 1)+1)
   else QAH (t.data.toList.drop 1)+1)
  else 0:=rfl
 simp only at h1;generalize Lib.hasPrefix t.data.toList [63]=x at*;have H1:=hd0 h1;clear h1 h2 ht
 cases x
 ·
  clear kp;simp only[Bool.false_eq_true,if_false]at hv;have HV:=hd0 hv;clear hv;go_enter func281,ntmps281
  go_wp2_with fail
  refine(H1.out _).mono ?_;rintro e w' ⟨rfl,rfl⟩;go_wp2;go_ret;exact⟨QAO (by rw[HV.out];rfl),0,rfl⟩
 ·
  have hsz:=hx1 rfl;have hsz':(1:Int)≤t.size:=by omega
  simp only[if_true]at hv;have b1:=QB9 (t.data.toList.drop 1);rw[List.length_drop,QAE]at b1;have k1:=kp 1 0 (by omega);generalize QAH (t.data.toList.drop 1)=n at*;have K1:=hd0 k1;have KP:=hd0 kp;clear k1 kp
  by_cases n0:n=0
  ·
   subst n0;simp only[if_true]at hv;have HV:=hd0 hv;clear hv;go_enter func281,ntmps281
   go_wp2_with fail
   refine(H1.out _).mono ?_;rintro e w' ⟨rfl,rfl⟩
   go_wp2_with fail
   refine K1.out.mono ?_;rintro e w' ⟨rfl,m1,rfl⟩;go_wp2;go_ret;exact⟨QAO (by rw[HV.out];rfl),_,rfl⟩
  ·
   rw[if_neg n0]at hv;have n1:((n:Int)==0)=false:=by rw[beq_eq_false_iff_ne];omega
   have hc:=fun w=>QJH t (n+1) w (by omega) (by omega)
   have hcl:QBf t.data.toList (n+1)=true→n+1+1≤t.size:=fun h=>by have:=QGA h;rw[QAE]at this;omega
   generalize QBf t.data.toList (n+1)=y at*;have HC:=hd0 hc;clear hc
   cases y
   ·
    simp only[Bool.false_eq_true,if_false]at hv;have HV:=hd0 hv;clear hv;go_enter func281,ntmps281
    go_wp2_with fail
    refine(H1.out _).mono ?_;rintro e w' ⟨rfl,rfl⟩
    go_wp2_with fail
    refine K1.out.mono ?_;rintro e w' ⟨rfl,m1,rfl⟩
    go_wp2_with fail
    refine(HC.out _).mono ?_;rintro e w' ⟨rfl,rfl⟩;go_wp2;go_ret;exact⟨QAO (by rw[HV.out];omega),_,rfl⟩
   ·
    have hcl:=hcl rfl;have hcl':(n:Int)+1+1≤t.size:=by omega
    simp only[if_true]at hv;have b2:=QB9 (t.data.toList.drop (n+1+1));rw[List.length_drop,QAE]at b2;have k2:=fun k=>KP.out (n+1+1) k hcl
    generalize QAH (t.data.toList.drop (n+1+1))=r at*;have K2:=hd0 k2;clear k2
    by_cases r0:r=0
    ·
     subst r0;have HV:=hd0 hv;clear hv;go_enter func281,ntmps281
     go_wp2_with fail
     refine(H1.out _).mono ?_;rintro e w' ⟨rfl,rfl⟩
     go_wp2_with fail
     refine K1.out.mono ?_;rintro e w' ⟨rfl,m1,rfl⟩
     go_wp2_with fail
     refine(HC.out _).mono ?_;rintro e w' ⟨rfl,rfl⟩
     go_wp2_with fail
     refine(K2.out _).mono ?_;rintro e w' ⟨rfl,m2,rfl⟩;go_wp2;go_ret;exact⟨QAO (by rw[HV.out];simp),_,rfl⟩
    ·
     have r1:(0:Int)<r:=by omega
     have r2:0<r:=by omega
     have HV:=hd0 hv;clear hv;go_enter func281,ntmps281
     go_wp2_with fail
     refine(H1.out _).mono ?_;rintro e w' ⟨rfl,rfl⟩
     go_wp2_with fail
     refine K1.out.mono ?_;rintro e w' ⟨rfl,m1,rfl⟩
     go_wp2_with fail
     refine(HC.out _).mono ?_;rintro e w' ⟨rfl,rfl⟩
     go_wp2_with fail
     refine(K2.out _).mono ?_;rintro e w' ⟨rfl,m2,rfl⟩;go_wp2;go_ret;exact⟨QAO (by rw[HV.out,if_pos r2];omega),_,rfl⟩
def QCk(at_ e:Nat):Value:= .iface 235 (.agg #[.int .i64 at_,.int .i64 e])
theorem QIG(cb k:Nat)(er:Nat)(w:World)(h1:w.cell? ⟨cb,1,none⟩=some (.int .i64 k)):
  Calls prog 250 #[.pointer (some ⟨cb,0,none⟩),.int .i64 er] w fun e w'=>e= .panicked [{v:=QCk k er,recovered:=false}]∧w'=w:=by
 go_enter func250,ntmps250;go_wp2;exact⟨rfl,rfl,rfl⟩
def twos:List (List UInt8):= [[58,61], [58,58], [61,62], [61,61], [60,61], [62,61]]
def QTj:List UInt8:= [40,41,91,93,123,125,44,59,46,61,60,62,43,45,42,47,38,124,126,63]
def QEP(l:List UInt8):Nat:=
 if twos.any (Lib.hasPrefix l) then 2 else match l with| []=>0|b::_=>if decide ((0:Int)≤Lib.indexByte QTj b) then 1 else 0
theorem QBO(t p:ByteArray)(b:Bool)(h:Lib.hasPrefix t.data.toList p.data.toList=b)(w:World):
  Calls prog 311 #[.string t,.string p] w fun e w'=>e= .returned (.bool b)∧w'=w:=by rw[←h];exact Tryz.strings_HasPrefix t p w
theorem QQt(b:UInt8)(r:Int)(h:Lib.indexByte QTj b=r)(w:World):
  Calls prog 246 #[.string ⟨#[40,41,91,93,123,125,44,59,46,61,60,62,43,45,42,47,38,124,126,63]⟩,.int .u8 (b.toNat:Int)] w fun e w'=>e= .returned (.int .i64 r)∧w'=w:=by
 have:=Tryz.strings_IndexByte ⟨#[40,41,91,93,123,125,44,59,46,61,60,62,43,45,42,47,38,124,126,63]⟩ (b.toNat:Int) w;rw[Int.toNat_natCast,show b.toNat.toUInt8=b from by simp]at this;rw[←h];exact this
theorem QC4(l p:List UInt8)(k:Nat)(hk:twos[k]?=some p)(h:(twos.take k).any (Lib.hasPrefix l)=false)(hp:Lib.hasPrefix l p=false):(twos.take (k+1)).any (Lib.hasPrefix l)=false:=by
 rw[List.take_add_one,hk,List.any_append,h,Bool.false_or];simp[hp]
theorem QDx(l p:List UInt8)(k:Nat)(hk:twos[k]?=some p)(hp:Lib.hasPrefix l p=true):QEP l=2:=by
 unfold QEP;rw[if_pos];rw[List.any_eq_true];exact⟨p,List.mem_of_getElem? hk,hp⟩
theorem QQC(cb:Nat)(t:ByteArray)(w:World)(hs:t.size≤1000000):
  Calls prog 280 #[.pointer (some ⟨cb,0,none⟩),.string t] w fun e w'=>e= .returned (.int .i64 (QEP t.data.toList))∧Below w.heap.size w w':=by
 go_enter func280,ntmps280;go_wp2
 go_loop [6,9] (fun _ i=>∃k:Nat,k≤6∧i= .int .i64 k∧(twos.take k).any (Lib.hasPrefix t.data.toList)=false) (fun _ i=>6 - (intOf i).toNat)
 case atStart=>exact⟨0,by omega,rfl,rfl⟩
 case round=>
  obtain⟨k,hk,rfl,hr⟩:=hrel;have HR:=hd0 hr;clear hr;rcases (by omega:k=0∨k=1∨k=2∨k=3∨k=4∨k=5∨k=6)with rfl|rfl|rfl|rfl|rfl|rfl|rfl
  ·
   cases hx:Lib.hasPrefix t.data.toList [58,61]
   ·
    have HX:=hd0 (QC4 _ _ 0 rfl HR.out hx);have HP:=hd0 hx;clear hx
    go_wp2_with fail
    refine(QBO t _ false (by exact HP.out) _).mono ?_;rintro e w' ⟨rfl,rfl⟩;go_wp2
    go_round
    case rel=>exact⟨1,by omega,by go_num,HX.out⟩
    case measure=>simp[intOf]
   ·
    have HX:=hd0 (QDx _ _ 0 rfl hx);have HP:=hd0 hx;clear hx
    go_wp2_with fail
    refine(QBO t _ true (by exact HP.out) _).mono ?_;rintro e w' ⟨rfl,rfl⟩;go_wp2;go_ret;exact⟨QAO (by rw[HX.out];rfl),(Below.refl _ _).alloc (Nat.le_refl _) _⟩
  ·
   cases hx:Lib.hasPrefix t.data.toList [58,58]
   ·
    have HX:=hd0 (QC4 _ _ 1 rfl HR.out hx);have HP:=hd0 hx;clear hx
    go_wp2_with fail
    refine(QBO t _ false (by exact HP.out) _).mono ?_;rintro e w' ⟨rfl,rfl⟩;go_wp2
    go_round
    case rel=>exact⟨2,by omega,by go_num,HX.out⟩
    case measure=>simp[intOf]
   ·
    have HX:=hd0 (QDx _ _ 1 rfl hx);have HP:=hd0 hx;clear hx
    go_wp2_with fail
    refine(QBO t _ true (by exact HP.out) _).mono ?_;rintro e w' ⟨rfl,rfl⟩;go_wp2;go_ret;exact⟨QAO (by rw[HX.out];rfl),(Below.refl _ _).alloc (Nat.le_refl _) _⟩
  ·
   cases hx:Lib.hasPrefix t.data.toList [61,62]
   ·
    have HX:=hd0 (QC4 _ _ 2 rfl HR.out hx);have HP:=hd0 hx;clear hx
    go_wp2_with fail
    refine(QBO t _ false (by exact HP.out) _).mono ?_;rintro e w' ⟨rfl,rfl⟩;go_wp2
    go_round
    case rel=>exact⟨3,by omega,by go_num,HX.out⟩
    case measure=>simp[intOf]
   ·
    have HX:=hd0 (QDx _ _ 2 rfl hx);have HP:=hd0 hx;clear hx
    go_wp2_with fail
    refine(QBO t _ true (by exact HP.out) _).mono ?_;rintro e w' ⟨rfl,rfl⟩;go_wp2;go_ret;exact⟨QAO (by rw[HX.out];rfl),(Below.refl _ _).alloc (Nat.le_refl _) _⟩
  ·
   cases hx:Lib.hasPrefix t.data.toList [61,61]
   ·
    have HX:=hd0 (QC4 _ _ 3 rfl HR.out hx);have HP:=hd0 hx;clear hx
    go_wp2_with fail
    refine(QBO t _ false (by exact HP.out) _).mono ?_;rintro e w' ⟨rfl,rfl⟩;go_wp2
    go_round
    case rel=>exact⟨4,by omega,by go_num,HX.out⟩
    case measure=>simp[intOf]
   ·
    have HX:=hd0 (QDx _ _ 3 rfl hx);have HP:=hd0 hx;clear hx
    go_wp2_with fail
    refine(QBO t _ true (by exact HP.out) _).mono ?_;rintro e w' ⟨rfl,rfl⟩;go_wp2;go_ret;exact⟨QAO (by rw[HX.out];rfl),(Below.refl _ _).alloc (Nat.le_refl _) _⟩
  ·
   cases hx:Lib.hasPrefix t.data.toList [60,61]
   ·
    have HX:=hd0 (QC4 _ _ 4 rfl HR.out hx);have HP:=hd0 hx;clear hx
    go_wp2_with fail
    refine(QBO t _ false (by exact HP.out) _).mono ?_;rintro e w' ⟨rfl,rfl⟩;go_wp2
    go_round
    case rel=>exact⟨5,by omega,by go_num,HX.out⟩
    case measure=>simp[intOf]
   ·
    have HX:=hd0 (QDx _ _ 4 rfl hx);have HP:=hd0 hx;clear hx
    go_wp2_with fail
    refine(QBO t _ true (by exact HP.out) _).mono ?_;rintro e w' ⟨rfl,rfl⟩;go_wp2;go_ret;exact⟨QAO (by rw[HX.out];rfl),(Below.refl _ _).alloc (Nat.le_refl _) _⟩
  ·
   cases hx:Lib.hasPrefix t.data.toList [62,61]
   ·
    have HX:=hd0 (QC4 _ _ 5 rfl HR.out hx);have HP:=hd0 hx;clear hx
    go_wp2_with fail
    refine(QBO t _ false (by exact HP.out) _).mono ?_;rintro e w' ⟨rfl,rfl⟩;go_wp2
    go_round
    case rel=>exact⟨6,by omega,by go_num,HX.out⟩
    case measure=>simp[intOf]
   ·
    have HX:=hd0 (QDx _ _ 5 rfl hx);have HP:=hd0 hx;clear hx
    go_wp2_with fail
    refine(QBO t _ true (by exact HP.out) _).mono ?_;rintro e w' ⟨rfl,rfl⟩;go_wp2;go_ret;exact⟨QAO (by rw[HX.out];rfl),(Below.refl _ _).alloc (Nat.le_refl _) _⟩
  ·
   by_cases h0:0<t.size
   ·
    have h1:t.toList.isEmpty=false:=QIp t h0
    have hv:QEP t.data.toList=if(0:Int)≤Lib.indexByte QTj t[0] then 1 else 0:=by
     have hl:=QBC t 0 h0;rw[List.drop_zero]at hl;unfold QEP;rw[if_neg (by rw[show twos.any (Lib.hasPrefix t.data.toList)=(twos.take 6).any (Lib.hasPrefix t.data.toList)from rfl,HR.out];decide),hl];simp
    generalize hr:Lib.indexByte QTj t[0]=r at hv;have HO:=hd0 hr;have HV:=hd0 hv;clear hr hv HR
    by_cases r0:(0:Int)≤r
    ·
     go_wp2_with fail
     refine(QQt _ r HO.out _).mono ?_;rintro e w' ⟨rfl,rfl⟩;go_wp2;go_ret;exact⟨QAO (by rw[HV.out,if_pos (by omega)];rfl),(Below.refl _ _).alloc (Nat.le_refl _) _⟩
    ·
     go_wp2_with fail
     refine(QQt _ r HO.out _).mono ?_;rintro e w' ⟨rfl,rfl⟩;go_wp2;go_ret;exact⟨QAO (by rw[HV.out,if_neg (by omega)];rfl),(Below.refl _ _).alloc (Nat.le_refl _) _⟩
   ·
    have h1:t.data.toList= []:=List.eq_nil_of_length_eq_zero (by rw[QAE];omega);have h2:t.toList= []:=by rw[Lib.toList_data,h1]
    have hv:QEP t.data.toList=0:=by
     unfold QEP;rw[if_neg (by rw[show twos.any (Lib.hasPrefix t.data.toList)=(twos.take 6).any (Lib.hasPrefix t.data.toList)from rfl,HR.out];decide),h1]
    have HV:=hd0 hv;clear hv h1 HR;go_wp2;go_ret;exact⟨QAO (by rw[HV.out];rfl),(Below.refl _ _).alloc (Nat.le_refl _) _⟩
end Go.Proofs.YtjnclkakbopnjaaGreatDoor
