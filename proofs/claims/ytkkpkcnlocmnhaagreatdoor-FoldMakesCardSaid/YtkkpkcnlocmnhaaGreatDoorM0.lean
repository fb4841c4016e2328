import Derived.Shelf.Strings.Trim
import Derived.Shelf.Small.Utf8
import Derived.Shelf.Small.Bits
import Derived.Shelf.Small.Strs
import Derived.Shelf.Small.Wraps
import Derived.Shelf.Strconv.Itoa0
import Derived.Shelf.Strings.Search1
import Derived.Shelf.Strings.Search2
import Derived.Shelf.Strings.Search3
import Derived.Shelf.Strings.Cut
import Derived.Shelf.Strings.Count
import Derived.Shelf.LaysM
import Derived.Shelf.Strings.Shaped
import Derived.Shelf.Sort.Plain
import Derived.Shelf.Strings.Prefix
import Derived.Shelf.Strings.Split
import Derived.Shelf.Strings.Runes
import Derived.Shelf.Strings.AsciiSet
import Derived.Shelf.Unicode.DecodeSlow
import Derived.Shelf.Unicode.DecodeAny
import Derived.Ground.Names2Prog
import Derived.Shelf.Slices.Clone
import Derived.Shelf.Slices.SearchI
import Derived.Shelf.Slices.In.SortNone
import Derived.Ground.SlgnProg
import Derived.Shelf.SlicesE.Clone
import Derived.Test.YtkkpkcnlocmnhaaGreatDoorProg
namespace Go.Proofs
open Go.Shelf
def Tryz.lays160_ren:Go.Shelf.Ren:=⟨fun|160=>163|232=>183|231=>182|227=>184|234=>186|233=>185|236=>188|235=>187|228=>208|271=>210|151=>209|197=>190|120=>223|152=>222|260=>211|137=>235|119=>236|224=>214|225=>213|217=>212|266=>224|n=>n,fun|9=>9|4=>4|3=>3|5=>5|117=>266|116=>265|0=>0|124=>269|21=>21|105=>271|46=>157|119=>309|139=>312|138=>311|n=>n,fun|3=>5|4=>6|n=>n⟩
theorem Tryz.lays160:Go.Proofs.Lays.n160 Tryz.prog Tryz.lays160_ren:={
 mixed:=by kernel_rfl
 f119:=Tryz.func236.trans (congrArg some (by kernel_rfl))
 f120:=Tryz.func223.trans (congrArg some (by kernel_rfl))
 f137:=Tryz.func235.trans (congrArg some (by kernel_rfl))
 f151:=Tryz.func209.trans (congrArg some (by kernel_rfl))
 f152:=Tryz.func222.trans (congrArg some (by kernel_rfl))
 f160:=Tryz.func163.trans (congrArg some (by kernel_rfl))
 f197:=Tryz.func190.trans (congrArg some (by kernel_rfl))
 f217:=Tryz.func212.trans (congrArg some (by kernel_rfl))
 f224:=Tryz.func214.trans (congrArg some (by kernel_rfl))
 f225:=Tryz.func213.trans (congrArg some (by kernel_rfl))
 f227:=Tryz.func184.trans (congrArg some (by kernel_rfl))
 f228:=Tryz.func208.trans (congrArg some (by kernel_rfl))
 f231:=Tryz.func182.trans (congrArg some (by kernel_rfl))
 f232:=Tryz.func183.trans (congrArg some (by kernel_rfl))
 f233:=Tryz.func185.trans (congrArg some (by kernel_rfl))
 f234:=Tryz.func186.trans (congrArg some (by kernel_rfl))
 f235:=Tryz.func187.trans (congrArg some (by kernel_rfl))
 f236:=Tryz.func188.trans (congrArg some (by kernel_rfl))
 f260:=Tryz.func211.trans (congrArg some (by kernel_rfl))
 f266:=Tryz.func224.trans (congrArg some (by kernel_rfl))
 f271:=Tryz.func210.trans (congrArg some (by kernel_rfl))
 t0:=Tryz.underlying0
 a0:=Tryz.isAgg0
 z0:=Tryz.sizeOf0
 v0:=Tryz.zeroValue0
 t3:=Tryz.underlying3
 a3:=Tryz.isAgg3
 z3:=Tryz.sizeOf3
 v3:=Tryz.zeroValue3
 t4:=Tryz.underlying4
 a4:=Tryz.isAgg4
 z4:=Tryz.sizeOf4
 v4:=Tryz.zeroValue4
 t5:=Tryz.underlying5
 a5:=Tryz.isAgg5
 z5:=Tryz.sizeOf5
 v5:=Tryz.zeroValue5
 t9:=Tryz.underlying9
 a9:=Tryz.isAgg9
 z9:=Tryz.sizeOf9
 v9:=Tryz.zeroValue9
 t21:=Tryz.underlying21
 a21:=Tryz.isAgg21
 z21:=Tryz.sizeOf21
 v21:=Tryz.zeroValue21
 t46:=Tryz.underlying157
 a46:=Tryz.isAgg157
 z46:=Tryz.sizeOf157
 v46:=Tryz.zeroValue157
 t105:=Tryz.underlying271
 a105:=Tryz.isAgg271
 z105:=Tryz.sizeOf271
 v105:=Tryz.zeroValue271
 t116:=Tryz.underlying265
 a116:=Tryz.isAgg265
 z116:=Tryz.sizeOf265
 t117:=Tryz.underlying266
 a117:=Tryz.isAgg266
 z117:=Tryz.sizeOf266
 v117:=Tryz.zeroValue266
 t119:=Tryz.underlying309
 a119:=Tryz.isAgg309
 z119:=Tryz.sizeOf309
 t124:=Tryz.underlying269
 a124:=Tryz.isAgg269
 z124:=Tryz.sizeOf269
 v124:=Tryz.zeroValue269
 t138:=Tryz.underlying311
 a138:=Tryz.isAgg311
 z138:=Tryz.sizeOf311
 v138:=Tryz.zeroValue311
 t139:=Tryz.underlying312
 a139:=Tryz.isAgg312
 z139:=Tryz.sizeOf312
 v139:=Tryz.zeroValue312
 g3:=by kernel_rfl
 g4:=by kernel_rfl}
def Tryz.lays125_ren:Go.Shelf.Ren:=⟨fun|125=>107|128=>133|129=>134|n=>n,fun|46=>157|3=>3|51=>197|53=>199|4=>4|5=>5|9=>9|n=>n,fun|n=>n⟩
theorem Tryz.lays125:Go.Proofs.Lays.n125 Tryz.prog Tryz.lays125_ren:={
 mixed:=by kernel_rfl
 f125:=Tryz.func107.trans (congrArg some (by kernel_rfl))
 f128:=Tryz.func133.trans (congrArg some (by kernel_rfl))
 f129:=Tryz.func134.trans (congrArg some (by kernel_rfl))
 t3:=Tryz.underlying3
 a3:=Tryz.isAgg3
 z3:=Tryz.sizeOf3
 v3:=Tryz.zeroValue3
 t4:=Tryz.underlying4
 a4:=Tryz.isAgg4
 z4:=Tryz.sizeOf4
 v4:=Tryz.zeroValue4
 t5:=Tryz.underlying5
 a5:=Tryz.isAgg5
 z5:=Tryz.sizeOf5
 v5:=Tryz.zeroValue5
 t9:=Tryz.underlying9
 a9:=Tryz.isAgg9
 z9:=Tryz.sizeOf9
 v9:=Tryz.zeroValue9
 t46:=Tryz.underlying157
 a46:=Tryz.isAgg157
 z46:=Tryz.sizeOf157
 v46:=Tryz.zeroValue157
 t51:=Tryz.underlying197
 a51:=Tryz.isAgg197
 z51:=Tryz.sizeOf197
 v51:=Tryz.zeroValue197
 t53:=Tryz.underlying199
 a53:=Tryz.isAgg199
 z53:=Tryz.sizeOf199
 v53:=Tryz.zeroValue199}
theorem Tryz.bits_Len (x:Int) (w:World) (h0:0≤x) (h1:x≤18446744073709551615):
  Calls Tryz.prog 107 #[.int .u64 x] w fun e w'=>e=.returned (.int .i64 (Lib.bitLen x.toNat))∧w'=w:=Any.bits_Len Tryz.lays125 x w h0 h1
def Tryz.lays145_ren:Go.Shelf.Ren:=⟨fun|145=>162|220=>181|219=>192|217=>212|225=>213|224=>214|267=>215|266=>224|314=>225|n=>n,fun|9=>9|4=>4|59=>244|3=>3|5=>5|46=>157|146=>313|51=>197|n=>n,fun|1=>4|n=>n⟩
theorem Tryz.lays145:Go.Proofs.Lays.n145 Tryz.prog Tryz.lays145_ren:={
 mixed:=by kernel_rfl
 f145:=Tryz.func162.trans (congrArg some (by kernel_rfl))
 f217:=Tryz.func212.trans (congrArg some (by kernel_rfl))
 f219:=Tryz.func192.trans (congrArg some (by kernel_rfl))
 f220:=Tryz.func181.trans (congrArg some (by kernel_rfl))
 f224:=Tryz.func214.trans (congrArg some (by kernel_rfl))
 f225:=Tryz.func213.trans (congrArg some (by kernel_rfl))
 f266:=Tryz.func224.trans (congrArg some (by kernel_rfl))
 f267:=Tryz.func215.trans (congrArg some (by kernel_rfl))
 f314:=Tryz.func225.trans (congrArg some (by kernel_rfl))
 t3:=Tryz.underlying3
 a3:=Tryz.isAgg3
 z3:=Tryz.sizeOf3
 v3:=Tryz.zeroValue3
 t4:=Tryz.underlying4
 a4:=Tryz.isAgg4
 z4:=Tryz.sizeOf4
 v4:=Tryz.zeroValue4
 t5:=Tryz.underlying5
 a5:=Tryz.isAgg5
 z5:=Tryz.sizeOf5
 v5:=Tryz.zeroValue5
 t9:=Tryz.underlying9
 a9:=Tryz.isAgg9
 z9:=Tryz.sizeOf9
 v9:=Tryz.zeroValue9
 t46:=Tryz.underlying157
 a46:=Tryz.isAgg157
 z46:=Tryz.sizeOf157
 v46:=Tryz.zeroValue157
 t51:=Tryz.underlying197
 a51:=Tryz.isAgg197
 z51:=Tryz.sizeOf197
 v51:=Tryz.zeroValue197
 t59:=Tryz.underlying244
 a59:=Tryz.isAgg244
 z59:=Tryz.sizeOf244
 v59:=Tryz.zeroValue244
 t146:=Tryz.underlying313
 a146:=Tryz.isAgg313
 z146:=Tryz.sizeOf313
 v146:=Tryz.zeroValue313
 g1:=by kernel_rfl}
open Go.RowKit Go.Lib in
theorem Tryz.strings_Cut (s sep:ByteArray) (m:Int) (w:World) (hs:s.size< 4294967281) (hm:w.cell? ⟨4,0,none⟩=some (.int .i64 m)):
  Calls Tryz.prog 162 #[.string s,.string sep] w fun e w'=>e=.returned (.tuple #[.string ⟨(Lib.cut s.data.toList sep.data.toList).1.toArray⟩,.string ⟨(Lib.cut s.data.toList sep.data.toList).2.1.toArray⟩,.bool (Lib.cut s.data.toList sep.data.toList).2.2])∧ ∃n,w'=w.drewN n:=Any.strings_Cut Tryz.lays145 s sep m w hs hm
def Tryz.lays189_ren:Go.Shelf.Ren:=⟨fun|189=>219|125=>107|257=>234|128=>133|129=>134|294=>240|295=>241|296=>242|297=>243|298=>244|299=>245|216=>246|300=>247|301=>248|328=>250|329=>150|330=>151|331=>251|332=>252|215=>253|343=>254|n=>n,fun|28=>24|3=>3|46=>157|0=>0|51=>197|53=>199|4=>4|183=>191|182=>190|131=>134|5=>5|9=>9|218=>226|222=>230|228=>253|229=>254|n=>n,fun|n=>n⟩
theorem Tryz.lays189:Go.Proofs.Lays.n189 Tryz.prog Tryz.lays189_ren:={
 mixed:=by kernel_rfl
 f125:=Tryz.func107.trans (congrArg some (by kernel_rfl))
 f128:=Tryz.func133.trans (congrArg some (by kernel_rfl))
 f129:=Tryz.func134.trans (congrArg some (by kernel_rfl))
 f189:=Tryz.func219.trans (congrArg some (by kernel_rfl))
 f215:=Tryz.func253.trans (congrArg some (by kernel_rfl))
 f216:=Tryz.func246.trans (congrArg some (by kernel_rfl))
 f257:=Tryz.func234.trans (congrArg some (by kernel_rfl))
 f294:=Tryz.func240.trans (congrArg some (by kernel_rfl))
 f295:=Tryz.func241.trans (congrArg some (by kernel_rfl))
 f296:=Tryz.func242.trans (congrArg some (by kernel_rfl))
 f297:=Tryz.func243.trans (congrArg some (by kernel_rfl))
 f298:=Tryz.func244.trans (congrArg some (by kernel_rfl))
 f299:=Tryz.func245.trans (congrArg some (by kernel_rfl))
 f300:=Tryz.func247.trans (congrArg some (by kernel_rfl))
 f301:=Tryz.func248.trans (congrArg some (by kernel_rfl))
 f328:=Tryz.func250.trans (congrArg some (by kernel_rfl))
 f329:=Tryz.func150.trans (congrArg some (by kernel_rfl))
 f330:=Tryz.func151.trans (congrArg some (by kernel_rfl))
 f331:=Tryz.func251.trans (congrArg some (by kernel_rfl))
 f332:=Tryz.func252.trans (congrArg some (by kernel_rfl))
 f343:=Tryz.func254.trans (congrArg some (by kernel_rfl))
 t0:=Tryz.underlying0
 a0:=Tryz.isAgg0
 z0:=Tryz.sizeOf0
 v0:=Tryz.zeroValue0
 t3:=Tryz.underlying3
 a3:=Tryz.isAgg3
 z3:=Tryz.sizeOf3
 v3:=Tryz.zeroValue3
 t4:=Tryz.underlying4
 a4:=Tryz.isAgg4
 z4:=Tryz.sizeOf4
 v4:=Tryz.zeroValue4
 t5:=Tryz.underlying5
 a5:=Tryz.isAgg5
 z5:=Tryz.sizeOf5
 v5:=Tryz.zeroValue5
 t9:=Tryz.underlying9
 a9:=Tryz.isAgg9
 z9:=Tryz.sizeOf9
 v9:=Tryz.zeroValue9
 t28:=Tryz.underlying24
 a28:=Tryz.isAgg24
 z28:=Tryz.sizeOf24
 v28:=Tryz.zeroValue24
 t46:=Tryz.underlying157
 a46:=Tryz.isAgg157
 z46:=Tryz.sizeOf157
 v46:=Tryz.zeroValue157
 t51:=Tryz.underlying197
 a51:=Tryz.isAgg197
 z51:=Tryz.sizeOf197
 v51:=Tryz.zeroValue197
 t53:=Tryz.underlying199
 a53:=Tryz.isAgg199
 z53:=Tryz.sizeOf199
 v53:=Tryz.zeroValue199
 t131:=Tryz.underlying134
 a131:=Tryz.isAgg134
 z131:=Tryz.sizeOf134
 v131:=Tryz.zeroValue134
 t182:=Tryz.underlying190
 a182:=Tryz.isAgg190
 z182:=Tryz.sizeOf190
 v182:=Tryz.zeroValue190
 t183:=Tryz.underlying191
 a183:=Tryz.isAgg191
 z183:=Tryz.sizeOf191
 v183:=Tryz.zeroValue191
 t218:=Tryz.underlying226
 a218:=Tryz.isAgg226
 z218:=Tryz.sizeOf226
 v218:=Tryz.zeroValue226
 t222:=Tryz.underlying230
 a222:=Tryz.isAgg230
 z222:=Tryz.sizeOf230
 v222:=Tryz.zeroValue230
 t228:=Tryz.underlying253
 a228:=Tryz.isAgg253
 z228:=Tryz.sizeOf253
 v228:=Tryz.zeroValue253
 t229:=Tryz.underlying254
 a229:=Tryz.isAgg254
 z229:=Tryz.sizeOf254
 v229:=Tryz.zeroValue254}
open Go.Sort Go.RowKit in
theorem Tryz.slices_Sort_int (blk off cap:Nat) (zs:List Int) (w:World) (hH:Holds (Value.int .i64) w blk off zs.toArray) (hblk:blk< w.heap.size) (hsz:zs.length< 4611686018427387904):
  Calls Tryz.prog 219 #[.slice (some ⟨blk,off,none⟩) zs.length cap] w fun e w'=>
   e=.returned (.tuple #[])∧ ∃n os,w'=grow (putRow (Value.int .i64) (Sort.ahead w n) blk off (zs.mergeSort fun x y=>decide (x≤y)).toArray) os:=Any.slices_Sort_int Tryz.lays189 blk off cap zs w hH hblk hsz
def Tryz.lays99_ren:Go.Shelf.Ren:=⟨fun|99=>122|206=>146|n=>n,fun|9=>9|4=>4|3=>3|n=>n,fun|n=>n⟩
theorem Tryz.lays99:Go.Proofs.Lays.n99 Tryz.prog Tryz.lays99_ren:={
 mixed:=by kernel_rfl
 f99:=Tryz.func122.trans (congrArg some (by kernel_rfl))
 f206:=Tryz.func146.trans (congrArg some (by kernel_rfl))
 t3:=Tryz.underlying3
 a3:=Tryz.isAgg3
 z3:=Tryz.sizeOf3
 v3:=Tryz.zeroValue3
 t4:=Tryz.underlying4
 a4:=Tryz.isAgg4
 z4:=Tryz.sizeOf4
 v4:=Tryz.zeroValue4
 t9:=Tryz.underlying9
 a9:=Tryz.isAgg9
 z9:=Tryz.sizeOf9
 v9:=Tryz.zeroValue9}
open Go.RowKit Go.Lib in
theorem Tryz.strings_HasPrefix (s p:ByteArray) (w:World):
  Calls Tryz.prog 122 #[.string s,.string p] w fun e w'=>e=.returned (.bool (Lib.hasPrefix s.data.toList p.data.toList))∧w'=w:=Any.strings_HasPrefix Tryz.lays99 s p w
def Tryz.lays100_ren:Go.Shelf.Ren:=⟨fun|100=>123|207=>147|n=>n,fun|9=>9|4=>4|3=>3|n=>n,fun|n=>n⟩
theorem Tryz.lays100:Go.Proofs.Lays.n100 Tryz.prog Tryz.lays100_ren:={
 mixed:=by kernel_rfl
 f100:=Tryz.func123.trans (congrArg some (by kernel_rfl))
 f207:=Tryz.func147.trans (congrArg some (by kernel_rfl))
 t3:=Tryz.underlying3
 a3:=Tryz.isAgg3
 z3:=Tryz.sizeOf3
 v3:=Tryz.zeroValue3
 t4:=Tryz.underlying4
 a4:=Tryz.isAgg4
 z4:=Tryz.sizeOf4
 v4:=Tryz.zeroValue4
 t9:=Tryz.underlying9
 a9:=Tryz.isAgg9
 z9:=Tryz.sizeOf9
 v9:=Tryz.zeroValue9}
open Go.RowKit Go.Lib in
theorem Tryz.strings_HasSuffix (s p:ByteArray) (w:World) (hs:s.size≤9223372036854775807):
  Calls Tryz.prog 123 #[.string s,.string p] w fun e w'=>e=.returned (.bool (Lib.hasSuffix s.data.toList p.data.toList))∧w'=w:=Any.strings_HasSuffix Tryz.lays100 s p w hs
def Tryz.lays146_ren:Go.Shelf.Ren:=⟨fun|146=>124|221=>148|268=>166|138=>167|143=>168|195=>189|197=>190|218=>191|219=>192|260=>211|217=>212|225=>213|224=>214|267=>215|266=>224|314=>225|n=>n,fun|9=>9|31=>86|3=>3|4=>4|0=>0|105=>271|21=>21|5=>5|46=>157|119=>309|139=>312|138=>311|146=>313|51=>197|n=>n,fun|1=>4|3=>5|4=>6|n=>n⟩
theorem Tryz.lays146:Go.Proofs.Lays.n146 Tryz.prog Tryz.lays146_ren:={
 mixed:=by kernel_rfl
 f138:=Tryz.func167.trans (congrArg some (by kernel_rfl))
 f143:=Tryz.func168.trans (congrArg some (by kernel_rfl))
 f146:=Tryz.func124.trans (congrArg some (by kernel_rfl))
 f195:=Tryz.func189.trans (congrArg some (by kernel_rfl))
 f197:=Tryz.func190.trans (congrArg some (by kernel_rfl))
 f217:=Tryz.func212.trans (congrArg some (by kernel_rfl))
 f218:=Tryz.func191.trans (congrArg some (by kernel_rfl))
 f219:=Tryz.func192.trans (congrArg some (by kernel_rfl))
 f221:=Tryz.func148.trans (congrArg some (by kernel_rfl))
 f224:=Tryz.func214.trans (congrArg some (by kernel_rfl))
 f225:=Tryz.func213.trans (congrArg some (by kernel_rfl))
 f260:=Tryz.func211.trans (congrArg some (by kernel_rfl))
 f266:=Tryz.func224.trans (congrArg some (by kernel_rfl))
 f267:=Tryz.func215.trans (congrArg some (by kernel_rfl))
 f268:=Tryz.func166.trans (congrArg some (by kernel_rfl))
 f314:=Tryz.func225.trans (congrArg some (by kernel_rfl))
 t0:=Tryz.underlying0
 a0:=Tryz.isAgg0
 z0:=Tryz.sizeOf0
 v0:=Tryz.zeroValue0
 t3:=Tryz.underlying3
 a3:=Tryz.isAgg3
 z3:=Tryz.sizeOf3
 v3:=Tryz.zeroValue3
 t4:=Tryz.underlying4
 a4:=Tryz.isAgg4
 z4:=Tryz.sizeOf4
 v4:=Tryz.zeroValue4
 t5:=Tryz.underlying5
 a5:=Tryz.isAgg5
 z5:=Tryz.sizeOf5
 v5:=Tryz.zeroValue5
 t9:=Tryz.underlying9
 a9:=Tryz.isAgg9
 z9:=Tryz.sizeOf9
 v9:=Tryz.zeroValue9
 t21:=Tryz.underlying21
 a21:=Tryz.isAgg21
 z21:=Tryz.sizeOf21
 v21:=Tryz.zeroValue21
 t31:=Tryz.underlying86
 a31:=Tryz.isAgg86
 z31:=Tryz.sizeOf86
 v31:=Tryz.zeroValue86
 t46:=Tryz.underlying157
 a46:=Tryz.isAgg157
 z46:=Tryz.sizeOf157
 v46:=Tryz.zeroValue157
 t51:=Tryz.underlying197
 a51:=Tryz.isAgg197
 z51:=Tryz.sizeOf197
 v51:=Tryz.zeroValue197
 t105:=Tryz.underlying271
 a105:=Tryz.isAgg271
 z105:=Tryz.sizeOf271
 v105:=Tryz.zeroValue271
 t119:=Tryz.underlying309
 a119:=Tryz.isAgg309
 z119:=Tryz.sizeOf309
 t138:=Tryz.underlying311
 a138:=Tryz.isAgg311
 z138:=Tryz.sizeOf311
 v138:=Tryz.zeroValue311
 t139:=Tryz.underlying312
 a139:=Tryz.isAgg312
 z139:=Tryz.sizeOf312
 v139:=Tryz.zeroValue312
 t146:=Tryz.underlying313
 a146:=Tryz.isAgg313
 z146:=Tryz.sizeOf313
 v146:=Tryz.zeroValue313
 g1:=by kernel_rfl
 g3:=by kernel_rfl
 g4:=by kernel_rfl}
open Go.RowKit Go.Lib in
theorem Tryz.strings_Split (s sep:ByteArray) (m:Int) (w:World) (hs:s.size< 4294967281) (hm:w.cell? ⟨4,0,none⟩=some (.int .i64 m)) (h1:1≤sep.size):
  Calls Tryz.prog 124 #[.string s,.string sep] w fun e w'=>
   e=.returned (.slice (some ⟨w.heap.size,0,none⟩) (Lib.countB s sep+1) (Lib.countB s sep+1))∧w'=w.alloc (.cells ((Lib.splitB sep 0 (Lib.countB s sep) s).map Value.string).toArray 9):=Any.strings_Split Tryz.lays146 (by kernel_rfl) s sep m w hs hm h1
end Go.Proofs
