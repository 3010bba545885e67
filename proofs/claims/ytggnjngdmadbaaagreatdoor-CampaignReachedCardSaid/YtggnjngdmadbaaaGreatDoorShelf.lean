/-
  The shelf's contracts at this program.
-/
import Derived.Shelf.Strings.Builder1
import Derived.Shelf.Strings.Builder2
import Derived.Shelf.Strings.OnBuilder
import Derived.Shelf.Small.Bits
import Derived.Shelf.Strings.BuilderF
import Derived.Shelf.Strings.BuilderK
import Derived.Shelf.Utf8.RuneCount
import Derived.Shelf.Strings.Builder2Cap
import Derived.Shelf.Strconv.Atoi
import Derived.Shelf.Strconv.Itoa0
import Derived.Shelf.Strconv.Itoa1
import Derived.Shelf.LaysM
import Derived.Shelf.Strconv.Itoa2
import Derived.Shelf.Strconv.Itoa3
import Derived.Shelf.Strconv.AtoiErrFast
import Derived.Shelf.Strconv.ParseIntEmpty
import Derived.Shelf.Strconv.AtoiFail
import Derived.Shelf.Strconv.Clone
import Derived.Shelf.Strconv.SyntaxError
import Derived.Shelf.LaysC
import Derived.Shelf.Strconv.ToError
import Derived.Shelf.Strconv.Lower
import Derived.Shelf.Strconv.ParseUint10
import Derived.Shelf.Strconv.ParseUint10Empty
import Derived.Shelf.Strconv.ParseUint10Any
import Derived.Shelf.Strconv.ParseInt10
import Derived.Shelf.Strconv.AtoiLong
import Derived.Shelf.Strconv.AtoiInnerAll
import Derived.Shelf.Strconv.RangeError
import Derived.Shelf.Strconv.ToErrorRange
import Derived.Shelf.Strconv.AtoiAll
import Derived.Shelf.Strconv.ErrVarAll
import Derived.Shelf.Strconv.ParseUintEmpty
import Derived.Shelf.Strconv.ParseUint10b16
import Derived.Shelf.Strings.Search1
import Derived.Shelf.Strings.Search2
import Derived.Shelf.Strings.Search3
import Derived.Shelf.Strings.Count
import Derived.Shelf.Strings.Shaped
import Derived.Shelf.Sort.Plain
import Derived.Shelf.Strings.Split
import Derived.Shelf.Strings.SplitShaped
import Derived.Shelf.Unicode.Decode
import Derived.Shelf.Strings.RuneCount
import Derived.Shelf.Strings.Explode
import Derived.Shelf.Unicode.DecodeSlow
import Derived.Shelf.Unicode.DecodeAny
import Derived.Shelf.Slices.Reverse
import Derived.Ground.Names2Prog
import Derived.Shelf.Slices.Clone
import Derived.Shelf.Slices.SearchI
import Derived.Shelf.Slices.Cells
import Derived.Shelf.Slices.In.SortNone
import Derived.Ground.SlgnProg
import Derived.Shelf.SlicesE.Clone
import Derived.Test.YtggnjngdmadbaaaGreatDoorProg
set_option linter.unusedSectionVars false
set_option linter.unusedVariables false
set_option linter.unusedSimpArgs false
namespace Go.Proofs
open Go.Shelf
def Tryz.lays156_ren:Go.Shelf.Ren:=⟨fun|156=>115|165=>160|166=>161|169=>162|240=>193|241=>194|276=>228|277=>229|n=>n,fun|31=>61|9=>9|3=>3|4=>4|0=>0|20=>20|72=>208|76=>212|70=>206|37=>197|75=>211|127=>248|164=>275|5=>5|80=>214|n=>n,fun|n=>n⟩
theorem Tryz.lays156:Go.Proofs.Lays.n156 Tryz.prog Tryz.lays156_ren:={
 mixed:=by kernel_rfl
 f156:=Tryz.func115.trans (congrArg some (by kernel_rfl))
 f165:=Tryz.func160.trans (congrArg some (by kernel_rfl))
 f166:=Tryz.func161.trans (congrArg some (by kernel_rfl))
 f169:=Tryz.func162.trans (congrArg some (by kernel_rfl))
 f240:=Tryz.func193.trans (congrArg some (by kernel_rfl))
 f241:=Tryz.func194.trans (congrArg some (by kernel_rfl))
 f276:=Tryz.func228.trans (congrArg some (by kernel_rfl))
 f277:=Tryz.func229.trans (congrArg some (by kernel_rfl))
 t0:=Tryz.underlying0
 a0:=Tryz.isAgg0
 z0:=Tryz.sizeOf0
 v0:=Tryz.zeroValue0
 t3:=Tryz.underlying3
 a3:=Tryz.isAgg3
 z3:=Tryz.sizeOf3
 v3:=Tryz.zeroValue3
 t4:=Tryz.underlying4
 a4:=Tryz.isAgg4
 z4:=Tryz.sizeOf4
 v4:=Tryz.zeroValue4
 t9:=Tryz.underlying9
 a9:=Tryz.isAgg9
 z9:=Tryz.sizeOf9
 v9:=Tryz.zeroValue9
 t20:=Tryz.underlying20
 a20:=Tryz.isAgg20
 z20:=Tryz.sizeOf20
 v20:=Tryz.zeroValue20
 t31:=Tryz.underlying61
 a31:=Tryz.isAgg61
 z31:=Tryz.sizeOf61
 v31:=Tryz.zeroValue61
 t37:=Tryz.underlying197
 a37:=Tryz.isAgg197
 z37:=Tryz.sizeOf197
 v37:=Tryz.zeroValue197
 t70:=Tryz.underlying206
 a70:=Tryz.isAgg206
 z70:=Tryz.sizeOf206
 v70:=Tryz.zeroValue206
 t72:=Tryz.underlying208
 a72:=Tryz.isAgg208
 z72:=Tryz.sizeOf208
 v72:=Tryz.zeroValue208
 t75:=Tryz.underlying211
 a75:=Tryz.isAgg211
 z75:=Tryz.sizeOf211
 v75:=Tryz.zeroValue211
 t76:=Tryz.underlying212
 a76:=Tryz.isAgg212
 z76:=Tryz.sizeOf212
 v76:=Tryz.zeroValue212
 t127:=Tryz.underlying248
 a127:=Tryz.isAgg248
 z127:=Tryz.sizeOf248
 v127:=Tryz.zeroValue248
 t164:=Tryz.underlying275
 a164:=Tryz.isAgg275
 z164:=Tryz.sizeOf275
 v164:=Tryz.zeroValue275}
theorem Tryz.Builder_Extra_156:Builder.Extra Tryz.prog Tryz.lays156_ren:={
 sizeBuilder:=by kernel_rfl
 liesBuilder:=by kernel_rfl
 t5:=Tryz.underlying5
 a5:=Tryz.isAgg5
 z5:=Tryz.sizeOf5
 v5:=Tryz.zeroValue5
 infoByte:=by kernel_rfl
 cellsByte:=by kernel_rfl
 sizeByte:=by kernel_rfl
 neB5:=by decide}
open Go.RowKit in
theorem Tryz.strings_Join(bk o c:Nat)(xs:List ByteArray)(sep:ByteArray)(w:World)(hcells:∀(j:Nat) x,xs[j]?=some x→w.cell? ⟨bk,o+j,none⟩=some (.string x))(hbk:bk < w.heap.size)(hN:xs.length≤140737488355328)(hcap:xs.length≤c)(hlen:(Lib.join (xs.map (·.data.toList)) sep.data.toList).length≤140737488355328) :
 Calls Tryz.prog 115 #[.slice (some ⟨bk,o,none⟩) xs.length c,.string sep] w fun e w'=>e = .returned (.string ⟨(Lib.join (xs.map (·.data.toList)) sep.data.toList).toArray⟩)∧Below w.heap.size w w':=Any.strings_Join Tryz.lays156 Tryz.Builder_Extra_156 bk o c xs sep w hcells hbk hN hcap hlen
def Tryz.laysM171_ren:Go.Shelf.Ren:=⟨fun|171=>114|243=>159|246=>192|283=>224|284=>225|285=>226|286=>227|129=>223|317=>249|318=>250|319=>251|320=>252|337=>262|338=>263|n=>n,fun|3=>3|9=>9|2=>2|4=>4|171=>271|0=>0|53=>270|37=>197|5=>5|173=>273|212=>296|51=>268|20=>20|213=>297|46=>243|232=>316|233=>317|n=>n,fun|17=>0|18=>6|19=>7|n=>n⟩
theorem Tryz.laysM171:Go.Proofs.LaysM.n171 Tryz.prog Tryz.laysM171_ren:={
 mixed:=by kernel_rfl
 f129:=Tryz.func223.trans (congrArg some (by kernel_rfl))
 f171:=Tryz.func114.trans (congrArg some (by kernel_rfl))
 f243:=Tryz.func159.trans (congrArg some (by kernel_rfl))
 f246:=Tryz.func192.trans (congrArg some (by kernel_rfl))
 f283:=Tryz.func224.trans (congrArg some (by kernel_rfl))
 f284:=Tryz.func225.trans (congrArg some (by kernel_rfl))
 f285:=Tryz.func226.trans (congrArg some (by kernel_rfl))
 f286:=Tryz.func227.trans (congrArg some (by kernel_rfl))
 f317:=Tryz.func249.trans (congrArg some (by kernel_rfl))
 f318:=Tryz.func250.trans (congrArg some (by kernel_rfl))
 f319:=Tryz.func251.trans (congrArg some (by kernel_rfl))
 f320:=Tryz.func252.trans (congrArg some (by kernel_rfl))
 f337:=Tryz.func262.trans (congrArg some (by kernel_rfl))
 f338:=Tryz.func263.trans (congrArg some (by kernel_rfl))
 t0:=Tryz.underlying0
 a0:=Tryz.isAgg0
 z0:=Tryz.sizeOf0
 v0:=Tryz.zeroValue0
 t2:=Tryz.underlying2
 a2:=Tryz.isAgg2
 z2:=Tryz.sizeOf2
 v2:=Tryz.zeroValue2
 t3:=Tryz.underlying3
 a3:=Tryz.isAgg3
 z3:=Tryz.sizeOf3
 v3:=Tryz.zeroValue3
 t4:=Tryz.underlying4
 a4:=Tryz.isAgg4
 z4:=Tryz.sizeOf4
 v4:=Tryz.zeroValue4
 t5:=Tryz.underlying5
 a5:=Tryz.isAgg5
 z5:=Tryz.sizeOf5
 v5:=Tryz.zeroValue5
 t9:=Tryz.underlying9
 a9:=Tryz.isAgg9
 z9:=Tryz.sizeOf9
 v9:=Tryz.zeroValue9
 t20:=Tryz.underlying20
 a20:=Tryz.isAgg20
 z20:=Tryz.sizeOf20
 v20:=Tryz.zeroValue20
 t37:=Tryz.underlying197
 a37:=Tryz.isAgg197
 z37:=Tryz.sizeOf197
 v37:=Tryz.zeroValue197
 t46:=Tryz.underlying243
 a46:=Tryz.isAgg243
 z46:=Tryz.sizeOf243
 v46:=Tryz.zeroValue243
 t51:=Tryz.underlying268
 a51:=Tryz.isAgg268
 z51:=Tryz.sizeOf268
 v51:=Tryz.zeroValue268
 t53:=Tryz.underlying270
 a53:=Tryz.isAgg270
 z53:=Tryz.sizeOf270
 v53:=Tryz.zeroValue270
 t171:=Tryz.underlying271
 a171:=Tryz.isAgg271
 z171:=Tryz.sizeOf271
 v171:=Tryz.zeroValue271
 t173:=Tryz.underlying273
 a173:=Tryz.isAgg273
 z173:=Tryz.sizeOf273
 v173:=Tryz.zeroValue273
 t212:=Tryz.underlying296
 a212:=Tryz.isAgg296
 z212:=Tryz.sizeOf296
 v212:=Tryz.zeroValue296
 t213:=Tryz.underlying297
 a213:=Tryz.isAgg297
 z213:=Tryz.sizeOf297
 t232:=Tryz.underlying316
 a232:=Tryz.isAgg316
 z232:=Tryz.sizeOf316
 v232:=Tryz.zeroValue316
 t233:=Tryz.underlying317
 a233:=Tryz.isAgg317
 z233:=Tryz.sizeOf317
 v233:=Tryz.zeroValue317
 g17:=by kernel_rfl
 g18:=by kernel_rfl
 g19:=by kernel_rfl
 i0:=by kernel_rfl
 i2:=by kernel_rfl
 i3:=by kernel_rfl
 i4:=by kernel_rfl
 i5:=by kernel_rfl
 i9:=by kernel_rfl
 i20:=by kernel_rfl
 i37:=by kernel_rfl
 i46:=by kernel_rfl
 i51:=by kernel_rfl
 i53:=by kernel_rfl
 i171:=by kernel_rfl
 i173:=by kernel_rfl
 i212:=by kernel_rfl
 i232:=by kernel_rfl
 i233:=by kernel_rfl
 m17:=by kernel_rfl
 m18:=by kernel_rfl
 m19:=by kernel_rfl}
open Go.RowKit Go.Sort Go.Lib in
theorem Tryz.strconv_Itoa(n : Int)(h0 : -9223372036854775808 ≤ n)(h1 : n ≤ 9223372036854775807)(w : World)(htab : Lib.TabIs Tryz.prog w "internal/strconv.uint64pow10" .u64 Lib.pow10Tab) :
 Calls Tryz.prog 114 #[.int .i64 n] w fun e w'=>e = .returned (.string ⟨(Lib.itoa n).toArray⟩)∧∃k os,w'=grow (w.drewN k) os:=Any.strconv_Itoa Tryz.laysM171 n h0 h1 w htab
def Tryz.laysC172_ren:Go.Shelf.Ren:=⟨fun|172=>170|244=>209|245=>210|247=>237|279=>238|280=>239|281=>240|282=>241|287=>258|316=>259|171=>114|205=>260|321=>266|322=>267|243=>159|246=>192|283=>224|284=>225|285=>226|286=>227|129=>223|317=>249|318=>250|319=>251|320=>252|337=>262|338=>263|n=>n,fun|9=>9|3=>3|75=>211|76=>212|4=>4|5=>5|167=>284|37=>197|0=>0|85=>285|2=>2|168=>287|53=>270|175=>298|46=>243|210=>302|127=>248|145=>315|143=>313|21=>21|171=>271|173=>273|212=>296|51=>268|20=>20|213=>297|232=>316|233=>317|80=>214|n=>n,fun|15=>2|16=>3|17=>0|18=>6|19=>7|n=>n⟩
theorem Tryz.laysC172:Go.Proofs.LaysC.n172 Tryz.prog Tryz.laysC172_ren:={
 mixed:=by kernel_rfl
 f129:=Tryz.func223.trans (congrArg some (by kernel_rfl))
 f171:=Tryz.func114.trans (congrArg some (by kernel_rfl))
 f172:=Tryz.func170.trans (congrArg some (by kernel_rfl))
 f205:=Tryz.func260.trans (congrArg some (by kernel_rfl))
 f243:=Tryz.func159.trans (congrArg some (by kernel_rfl))
 f244:=Tryz.func209.trans (congrArg some (by kernel_rfl))
 f245:=Tryz.func210.trans (congrArg some (by kernel_rfl))
 f246:=Tryz.func192.trans (congrArg some (by kernel_rfl))
 f247:=Tryz.func237.trans (congrArg some (by kernel_rfl))
 f279:=Tryz.func238.trans (congrArg some (by kernel_rfl))
 f280:=Tryz.func239.trans (congrArg some (by kernel_rfl))
 f281:=Tryz.func240.trans (congrArg some (by kernel_rfl))
 f282:=Tryz.func241.trans (congrArg some (by kernel_rfl))
 f283:=Tryz.func224.trans (congrArg some (by kernel_rfl))
 f284:=Tryz.func225.trans (congrArg some (by kernel_rfl))
 f285:=Tryz.func226.trans (congrArg some (by kernel_rfl))
 f286:=Tryz.func227.trans (congrArg some (by kernel_rfl))
 f287:=Tryz.func258.trans (congrArg some (by kernel_rfl))
 f316:=Tryz.func259.trans (congrArg some (by kernel_rfl))
 f317:=Tryz.func249.trans (congrArg some (by kernel_rfl))
 f318:=Tryz.func250.trans (congrArg some (by kernel_rfl))
 f319:=Tryz.func251.trans (congrArg some (by kernel_rfl))
 f320:=Tryz.func252.trans (congrArg some (by kernel_rfl))
 f321:=Tryz.func266.trans (congrArg some (by kernel_rfl))
 f322:=Tryz.func267.trans (congrArg some (by kernel_rfl))
 f337:=Tryz.func262.trans (congrArg some (by kernel_rfl))
 f338:=Tryz.func263.trans (congrArg some (by kernel_rfl))
 t0:=Tryz.underlying0
 a0:=Tryz.isAgg0
 z0:=Tryz.sizeOf0
 v0:=Tryz.zeroValue0
 t2:=Tryz.underlying2
 a2:=Tryz.isAgg2
 z2:=Tryz.sizeOf2
 v2:=Tryz.zeroValue2
 t3:=Tryz.underlying3
 a3:=Tryz.isAgg3
 z3:=Tryz.sizeOf3
 v3:=Tryz.zeroValue3
 t4:=Tryz.underlying4
 a4:=Tryz.isAgg4
 z4:=Tryz.sizeOf4
 v4:=Tryz.zeroValue4
 t5:=Tryz.underlying5
 a5:=Tryz.isAgg5
 z5:=Tryz.sizeOf5
 v5:=Tryz.zeroValue5
 t9:=Tryz.underlying9
 a9:=Tryz.isAgg9
 z9:=Tryz.sizeOf9
 v9:=Tryz.zeroValue9
 t20:=Tryz.underlying20
 a20:=Tryz.isAgg20
 z20:=Tryz.sizeOf20
 v20:=Tryz.zeroValue20
 t21:=Tryz.underlying21
 a21:=Tryz.isAgg21
 z21:=Tryz.sizeOf21
 v21:=Tryz.zeroValue21
 t37:=Tryz.underlying197
 a37:=Tryz.isAgg197
 z37:=Tryz.sizeOf197
 v37:=Tryz.zeroValue197
 t46:=Tryz.underlying243
 a46:=Tryz.isAgg243
 z46:=Tryz.sizeOf243
 v46:=Tryz.zeroValue243
 t51:=Tryz.underlying268
 a51:=Tryz.isAgg268
 z51:=Tryz.sizeOf268
 v51:=Tryz.zeroValue268
 t53:=Tryz.underlying270
 a53:=Tryz.isAgg270
 z53:=Tryz.sizeOf270
 v53:=Tryz.zeroValue270
 t75:=Tryz.underlying211
 a75:=Tryz.isAgg211
 z75:=Tryz.sizeOf211
 v75:=Tryz.zeroValue211
 t76:=Tryz.underlying212
 a76:=Tryz.isAgg212
 z76:=Tryz.sizeOf212
 v76:=Tryz.zeroValue212
 t85:=Tryz.underlying285
 a85:=Tryz.isAgg285
 z85:=Tryz.sizeOf285
 v85:=Tryz.zeroValue285
 t127:=Tryz.underlying248
 a127:=Tryz.isAgg248
 z127:=Tryz.sizeOf248
 v127:=Tryz.zeroValue248
 t143:=Tryz.underlying313
 a143:=Tryz.isAgg313
 z143:=Tryz.sizeOf313
 v143:=Tryz.zeroValue313
 t145:=Tryz.underlying315
 a145:=Tryz.isAgg315
 z145:=Tryz.sizeOf315
 v145:=Tryz.zeroValue315
 t167:=Tryz.underlying284
 a167:=Tryz.isAgg284
 z167:=Tryz.sizeOf284
 v167:=Tryz.zeroValue284
 t168:=Tryz.underlying287
 a168:=Tryz.isAgg287
 z168:=Tryz.sizeOf287
 v168:=Tryz.zeroValue287
 t171:=Tryz.underlying271
 a171:=Tryz.isAgg271
 z171:=Tryz.sizeOf271
 v171:=Tryz.zeroValue271
 t173:=Tryz.underlying273
 a173:=Tryz.isAgg273
 z173:=Tryz.sizeOf273
 v173:=Tryz.zeroValue273
 t175:=Tryz.underlying298
 a175:=Tryz.isAgg298
 z175:=Tryz.sizeOf298
 v175:=Tryz.zeroValue298
 t210:=Tryz.underlying302
 a210:=Tryz.isAgg302
 z210:=Tryz.sizeOf302
 v210:=Tryz.zeroValue302
 t212:=Tryz.underlying296
 a212:=Tryz.isAgg296
 z212:=Tryz.sizeOf296
 v212:=Tryz.zeroValue296
 t213:=Tryz.underlying297
 a213:=Tryz.isAgg297
 z213:=Tryz.sizeOf297
 t232:=Tryz.underlying316
 a232:=Tryz.isAgg316
 z232:=Tryz.sizeOf316
 v232:=Tryz.zeroValue316
 t233:=Tryz.underlying317
 a233:=Tryz.isAgg317
 z233:=Tryz.sizeOf317
 v233:=Tryz.zeroValue317
 g15:=by kernel_rfl
 g16:=by kernel_rfl
 g17:=by kernel_rfl
 g18:=by kernel_rfl
 g19:=by kernel_rfl
 t80:=Tryz.underlying214
 a80:=Tryz.isAgg214
 z80:=Tryz.sizeOf214
 v80:=Tryz.zeroValue214
 i0:=by kernel_rfl
 i2:=by kernel_rfl
 i3:=by kernel_rfl
 i4:=by kernel_rfl
 i5:=by kernel_rfl
 i9:=by kernel_rfl
 i20:=by kernel_rfl
 i21:=by kernel_rfl
 i37:=by kernel_rfl
 i46:=by kernel_rfl
 i51:=by kernel_rfl
 i53:=by kernel_rfl
 i75:=by kernel_rfl
 i76:=by kernel_rfl
 i80:=by kernel_rfl
 i85:=by kernel_rfl
 i127:=by kernel_rfl
 i143:=by kernel_rfl
 i145:=by kernel_rfl
 i167:=by kernel_rfl
 i168:=by kernel_rfl
 i171:=by kernel_rfl
 i173:=by kernel_rfl
 i175:=by kernel_rfl
 i210:=by kernel_rfl
 i212:=by kernel_rfl
 i232:=by kernel_rfl
 i233:=by kernel_rfl
 m15:=by kernel_rfl
 m16:=by kernel_rfl
 m17:=by kernel_rfl
 m18:=by kernel_rfl
 m19:=by kernel_rfl
 c0:=by kernel_rfl
 c2:=by kernel_rfl
 c3:=by kernel_rfl
 c4:=by kernel_rfl
 c5:=by kernel_rfl
 c9:=by kernel_rfl
 c20:=by kernel_rfl
 c21:=by kernel_rfl
 c37:=by kernel_rfl
 c46:=by kernel_rfl
 c51:=by kernel_rfl
 c53:=by kernel_rfl
 c75:=by kernel_rfl
 c76:=by kernel_rfl
 c80:=by kernel_rfl
 c85:=by kernel_rfl
 c127:=by kernel_rfl
 c143:=by kernel_rfl
 c145:=by kernel_rfl
 c167:=by kernel_rfl
 c168:=by kernel_rfl
 c171:=by kernel_rfl
 c173:=by kernel_rfl
 c175:=by kernel_rfl
 c210:=by kernel_rfl
 c212:=by kernel_rfl
 c213:=by kernel_rfl
 c232:=by kernel_rfl
 c233:=by kernel_rfl}
open Go.RowKit in
theorem Tryz.strconv_Atoi_ok(s:ByteArray)(hmax:s.size≤9223372036854775806)(v:Int)(h:Lib.atoiAll s.data.toList = .ok v)(w:World) :
 Calls Tryz.prog 170 #[.string s] w fun e w'=>e = .returned (.tuple #[.int .i64 v,.nilIface])∧(w'=w∨∃t,w'=Lib.bytesWorld w 5 t):=Any.strconv_Atoi_ok Tryz.laysC172 s hmax v h w
open Go.RowKit in
theorem Tryz.strconv_Atoi_range(s:ByteArray)(hlim:s.size≤281474976710656)(h:Lib.atoiAll s.data.toList = .range)(ev:Value)(w:World)(hv:w.cell? ⟨3,0,none⟩=some ev)(hev:ev = .nilIface∨∃te pe,ev = .iface te pe) :
 Calls Tryz.prog 170 #[.string s] w fun e w'=>∃N,e = .returned (.tuple #[.int .i64 (Lib.atoiSat s.data.toList),.iface 287 (.pointer (some ⟨N,0,none⟩))])∧w.heap.size≤N∧w'.heap[N]?=some (.cells #[.string ⟨#[65,116,111,105]⟩,.string s,ev] 302 (0,0))∧Below w.heap.size w w':=Any.strconv_Atoi_range Tryz.laysC172 s hlim h ev w hv hev
def Tryz.lays189_ren:Go.Shelf.Ren:=⟨fun|189=>146|125=>186|257=>185|128=>222|129=>223|294=>213|295=>214|296=>215|297=>216|298=>217|299=>218|216=>219|300=>220|301=>221|328=>243|329=>244|330=>245|331=>246|332=>247|215=>248|343=>261|n=>n,fun|28=>41|3=>3|46=>243|0=>0|51=>268|53=>270|4=>4|183=>261|182=>260|131=>117|5=>5|9=>9|218=>290|222=>178|228=>304|229=>72|n=>n,fun|n=>n⟩
theorem Tryz.lays189:Go.Proofs.Lays.n189 Tryz.prog Tryz.lays189_ren:={
 mixed:=by kernel_rfl
 f125:=Tryz.func186.trans (congrArg some (by kernel_rfl))
 f128:=Tryz.func222.trans (congrArg some (by kernel_rfl))
 f129:=Tryz.func223.trans (congrArg some (by kernel_rfl))
 f189:=Tryz.func146.trans (congrArg some (by kernel_rfl))
 f215:=Tryz.func248.trans (congrArg some (by kernel_rfl))
 f216:=Tryz.func219.trans (congrArg some (by kernel_rfl))
 f257:=Tryz.func185.trans (congrArg some (by kernel_rfl))
 f294:=Tryz.func213.trans (congrArg some (by kernel_rfl))
 f295:=Tryz.func214.trans (congrArg some (by kernel_rfl))
 f296:=Tryz.func215.trans (congrArg some (by kernel_rfl))
 f297:=Tryz.func216.trans (congrArg some (by kernel_rfl))
 f298:=Tryz.func217.trans (congrArg some (by kernel_rfl))
 f299:=Tryz.func218.trans (congrArg some (by kernel_rfl))
 f300:=Tryz.func220.trans (congrArg some (by kernel_rfl))
 f301:=Tryz.func221.trans (congrArg some (by kernel_rfl))
 f328:=Tryz.func243.trans (congrArg some (by kernel_rfl))
 f329:=Tryz.func244.trans (congrArg some (by kernel_rfl))
 f330:=Tryz.func245.trans (congrArg some (by kernel_rfl))
 f331:=Tryz.func246.trans (congrArg some (by kernel_rfl))
 f332:=Tryz.func247.trans (congrArg some (by kernel_rfl))
 f343:=Tryz.func261.trans (congrArg some (by kernel_rfl))
 t0:=Tryz.underlying0
 a0:=Tryz.isAgg0
 z0:=Tryz.sizeOf0
 v0:=Tryz.zeroValue0
 t3:=Tryz.underlying3
 a3:=Tryz.isAgg3
 z3:=Tryz.sizeOf3
 v3:=Tryz.zeroValue3
 t4:=Tryz.underlying4
 a4:=Tryz.isAgg4
 z4:=Tryz.sizeOf4
 v4:=Tryz.zeroValue4
 t5:=Tryz.underlying5
 a5:=Tryz.isAgg5
 z5:=Tryz.sizeOf5
 v5:=Tryz.zeroValue5
 t9:=Tryz.underlying9
 a9:=Tryz.isAgg9
 z9:=Tryz.sizeOf9
 v9:=Tryz.zeroValue9
 t28:=Tryz.underlying41
 a28:=Tryz.isAgg41
 z28:=Tryz.sizeOf41
 v28:=Tryz.zeroValue41
 t46:=Tryz.underlying243
 a46:=Tryz.isAgg243
 z46:=Tryz.sizeOf243
 v46:=Tryz.zeroValue243
 t51:=Tryz.underlying268
 a51:=Tryz.isAgg268
 z51:=Tryz.sizeOf268
 v51:=Tryz.zeroValue268
 t53:=Tryz.underlying270
 a53:=Tryz.isAgg270
 z53:=Tryz.sizeOf270
 v53:=Tryz.zeroValue270
 t131:=Tryz.underlying117
 a131:=Tryz.isAgg117
 z131:=Tryz.sizeOf117
 v131:=Tryz.zeroValue117
 t182:=Tryz.underlying260
 a182:=Tryz.isAgg260
 z182:=Tryz.sizeOf260
 v182:=Tryz.zeroValue260
 t183:=Tryz.underlying261
 a183:=Tryz.isAgg261
 z183:=Tryz.sizeOf261
 v183:=Tryz.zeroValue261
 t218:=Tryz.underlying290
 a218:=Tryz.isAgg290
 z218:=Tryz.sizeOf290
 v218:=Tryz.zeroValue290
 t222:=Tryz.underlying178
 a222:=Tryz.isAgg178
 z222:=Tryz.sizeOf178
 v222:=Tryz.zeroValue178
 t228:=Tryz.underlying304
 a228:=Tryz.isAgg304
 z228:=Tryz.sizeOf304
 v228:=Tryz.zeroValue304
 t229:=Tryz.underlying72
 a229:=Tryz.isAgg72
 z229:=Tryz.sizeOf72
 v229:=Tryz.zeroValue72}
open Go.Sort Go.RowKit in
theorem Tryz.slices_Sort_int(blk off cap:Nat)(zs:List Int)(w:World)(hH:Holds (Value.int .i64) w blk off zs.toArray)(hblk:blk < w.heap.size)(hsz:zs.length < 4611686018427387904) :
 Calls Tryz.prog 146 #[.slice (some ⟨blk,off,none⟩) zs.length cap] w fun e w'=>
  e = .returned (.tuple #[])∧∃n os,w'=grow (putRow (Value.int .i64) (Sort.ahead w n) blk off (zs.mergeSort fun x y=>decide (x≤y)).toArray) os:=Any.slices_Sort_int Tryz.lays189 blk off cap zs w hH hblk hsz
def Tryz.lays146_ren:Go.Shelf.Ren:=⟨fun|146=>117|221=>163|268=>195|138=>196|143=>197|195=>230|197=>231|218=>232|219=>233|260=>253|217=>254|225=>255|224=>256|267=>257|266=>264|314=>265|n=>n,fun|9=>9|31=>61|3=>3|4=>4|0=>0|105=>279|21=>21|5=>5|46=>243|119=>306|139=>309|138=>308|146=>310|51=>268|n=>n,fun|1=>1|3=>4|4=>5|n=>n⟩
theorem Tryz.lays146:Go.Proofs.Lays.n146 Tryz.prog Tryz.lays146_ren:={
 mixed:=by kernel_rfl
 f138:=Tryz.func196.trans (congrArg some (by kernel_rfl))
 f143:=Tryz.func197.trans (congrArg some (by kernel_rfl))
 f146:=Tryz.func117.trans (congrArg some (by kernel_rfl))
 f195:=Tryz.func230.trans (congrArg some (by kernel_rfl))
 f197:=Tryz.func231.trans (congrArg some (by kernel_rfl))
 f217:=Tryz.func254.trans (congrArg some (by kernel_rfl))
 f218:=Tryz.func232.trans (congrArg some (by kernel_rfl))
 f219:=Tryz.func233.trans (congrArg some (by kernel_rfl))
 f221:=Tryz.func163.trans (congrArg some (by kernel_rfl))
 f224:=Tryz.func256.trans (congrArg some (by kernel_rfl))
 f225:=Tryz.func255.trans (congrArg some (by kernel_rfl))
 f260:=Tryz.func253.trans (congrArg some (by kernel_rfl))
 f266:=Tryz.func264.trans (congrArg some (by kernel_rfl))
 f267:=Tryz.func257.trans (congrArg some (by kernel_rfl))
 f268:=Tryz.func195.trans (congrArg some (by kernel_rfl))
 f314:=Tryz.func265.trans (congrArg some (by kernel_rfl))
 t0:=Tryz.underlying0
 a0:=Tryz.isAgg0
 z0:=Tryz.sizeOf0
 v0:=Tryz.zeroValue0
 t3:=Tryz.underlying3
 a3:=Tryz.isAgg3
 z3:=Tryz.sizeOf3
 v3:=Tryz.zeroValue3
 t4:=Tryz.underlying4
 a4:=Tryz.isAgg4
 z4:=Tryz.sizeOf4
 v4:=Tryz.zeroValue4
 t5:=Tryz.underlying5
 a5:=Tryz.isAgg5
 z5:=Tryz.sizeOf5
 v5:=Tryz.zeroValue5
 t9:=Tryz.underlying9
 a9:=Tryz.isAgg9
 z9:=Tryz.sizeOf9
 v9:=Tryz.zeroValue9
 t21:=Tryz.underlying21
 a21:=Tryz.isAgg21
 z21:=Tryz.sizeOf21
 v21:=Tryz.zeroValue21
 t31:=Tryz.underlying61
 a31:=Tryz.isAgg61
 z31:=Tryz.sizeOf61
 v31:=Tryz.zeroValue61
 t46:=Tryz.underlying243
 a46:=Tryz.isAgg243
 z46:=Tryz.sizeOf243
 v46:=Tryz.zeroValue243
 t51:=Tryz.underlying268
 a51:=Tryz.isAgg268
 z51:=Tryz.sizeOf268
 v51:=Tryz.zeroValue268
 t105:=Tryz.underlying279
 a105:=Tryz.isAgg279
 z105:=Tryz.sizeOf279
 v105:=Tryz.zeroValue279
 t119:=Tryz.underlying306
 a119:=Tryz.isAgg306
 z119:=Tryz.sizeOf306
 t138:=Tryz.underlying308
 a138:=Tryz.isAgg308
 z138:=Tryz.sizeOf308
 v138:=Tryz.zeroValue308
 t139:=Tryz.underlying309
 a139:=Tryz.isAgg309
 z139:=Tryz.sizeOf309
 v139:=Tryz.zeroValue309
 t146:=Tryz.underlying310
 a146:=Tryz.isAgg310
 z146:=Tryz.sizeOf310
 v146:=Tryz.zeroValue310
 g1:=by kernel_rfl
 g3:=by kernel_rfl
 g4:=by kernel_rfl}
open Go.RowKit Go.Lib in
theorem Tryz.strings_Split(s sep:ByteArray)(m:Int)(w:World)(hs:s.size < 4294967281)(hm:w.cell? ⟨1,0,none⟩=some (.int .i64 m))(h1:1≤sep.size) :
 Calls Tryz.prog 117 #[.string s,.string sep] w fun e w'=>
  e = .returned (.slice (some ⟨w.heap.size,0,none⟩) (Lib.countB s sep+1) (Lib.countB s sep+1))∧w'=w.alloc (.cells ((Lib.splitB sep 0 (Lib.countB s sep) s).map Value.string).toArray 9):=Any.strings_Split Tryz.lays146 (by kernel_rfl) s sep m w hs hm h1
open Go.RowKit Go.Sort in
theorem Tryz.slices_Sort_int_none(p:Option Addr)(cap:Nat)(w:World) :
 Calls Tryz.prog 146 #[.slice p 0 cap] w fun e w'=>e = .returned (.tuple #[])∧w'=w:=Any.slices_Sort_int_none Tryz.lays189 p cap w
def Tryz.laysSlE041_f135_ren:Go.Shelf.Ren:=⟨fun|41=>135|n=>n,fun|22=>41|23=>3|4=>4|n=>n,fun|n=>n⟩
theorem Tryz.laysSlE041_f135:Go.Proofs.SlLaysE0.n41 Tryz.prog Tryz.laysSlE041_f135_ren:={
 mixed:=by kernel_rfl
 f41:=⟨Tryz.f135.name,by decide,Tryz.func135.trans (congrArg some (by kernel_rfl))⟩
 t4:=Tryz.underlying4
 a4:=Tryz.isAgg4
 z4:=Tryz.sizeOf4
 v4:=Tryz.zeroValue4
 t22:=Tryz.underlying41
 a22:=Tryz.isAgg41
 z22:=Tryz.sizeOf41
 v22:=Tryz.zeroValue41}
def Tryz.laysSlE041_f187_ren:Go.Shelf.Ren:=⟨fun|41=>187|n=>n,fun|22=>61|23=>9|4=>4|n=>n,fun|n=>n⟩
theorem Tryz.laysSlE041_f187:Go.Proofs.SlLaysE0.n41 Tryz.prog Tryz.laysSlE041_f187_ren:={
 mixed:=by kernel_rfl
 f41:=⟨Tryz.f187.name,by decide,Tryz.func187.trans (congrArg some (by kernel_rfl))⟩
 t4:=Tryz.underlying4
 a4:=Tryz.isAgg4
 z4:=Tryz.sizeOf4
 v4:=Tryz.zeroValue4
 t22:=Tryz.underlying61
 a22:=Tryz.isAgg61
 z22:=Tryz.sizeOf61
 v22:=Tryz.zeroValue61}
open Go.RowKit Go.Lib in
theorem Tryz.slices_Clone_nil_f187(n c:Nat)(w:World) :
 Calls Tryz.prog 187 #[.slice none n c] w fun e w'=>e = .returned (.slice none 0 0)∧w'=w:=AnyE.slices_Clone_nil Tryz.laysSlE041_f187 n c w
end Go.Proofs
