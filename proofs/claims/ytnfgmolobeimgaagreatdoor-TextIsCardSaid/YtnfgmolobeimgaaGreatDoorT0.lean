import Derived.Shelf.Strings.Builder1
import Derived.Shelf.Strings.Trim
import Derived.Shelf.Small.Utf8
import Derived.Shelf.Small.Bits
import Derived.Shelf.Small.Strs
import Derived.Shelf.Small.Wraps
import Derived.Shelf.Strings.BuilderF
import Derived.Shelf.Strings.BuilderK
import Derived.Shelf.Strings.BuilderRune
import Derived.Shelf.Strconv.Itoa0
import Derived.Shelf.Strings.Search1
import Derived.Shelf.Strings.Search2
import Derived.Shelf.Strings.Search3
import Derived.Shelf.Strings.Cut
import Derived.Shelf.Strings.Count
import Derived.Shelf.LaysM
import Derived.Shelf.Strings.Shaped
import Derived.Shelf.Sort.Plain
import Derived.Shelf.Strings.Prefix
import Derived.Shelf.Strings.Split
import Derived.Shelf.Strings.Runes
import Derived.Shelf.Strings.AsciiSet
import Derived.Shelf.Unicode.DecodeSlow
import Derived.Shelf.Slices.Turned
import Derived.Ground.Names2Prog
import Derived.Shelf.Slices.CompactI
import Derived.Shelf.Slices.In.SortNone
import Derived.Test.YtnfgmolobeimgaaGreatDoorProg
open Go.Proofs.Tryz
open Go renaming World->kg,Calls->kG,Addr->kF
open Go.Lib renaming trimPrefix->gQ
open Go.Proofs.Tryz renaming prog->ke,underlying3->kQ,underlying9->gn,underlying22->gw
open Go.Value renaming int->gr
open Option renaming some->ka,none->kc
namespace Go.Proofs
open Go.Shelf
def Tryz.lays169_ren:Go.Shelf.Ren:=⟨fun|169=>39|n=>n,fun|70=>76|9=>9|0=>0|72=>79|37=>77|127=>157|3=>3|5=>5|n=>n,fun|n=>n⟩
theorem Tryz.lays169:Go.Proofs.Lays.n169 ke Tryz.lays169_ren:={
 mixed:=by kernel_rfl
 f169:=Tryz.func39.trans (congrArg ka (by kernel_rfl))
 t0:=underlying0
 a0:=Tryz.isAgg0
 z0:=sizeOf0
 v0:=zeroValue0
 t3:=kQ
 a3:=Tryz.isAgg3
 z3:=sizeOf3
 v3:=zeroValue3
 t9:=gn
 a9:=Tryz.isAgg9
 z9:=sizeOf9
 v9:=zeroValue9
 t37:=underlying77
 a37:=Tryz.isAgg77
 z37:=sizeOf77
 v37:=zeroValue77
 t70:=underlying76
 a70:=Tryz.isAgg76
 z70:=sizeOf76
 v70:=zeroValue76
 t72:=underlying79
 a72:=Tryz.isAgg79
 z72:=sizeOf79
 v72:=zeroValue79
 t127:=underlying157
 a127:=Tryz.isAgg157
 z127:=sizeOf157
 v127:=zeroValue157}
theorem Tryz.Builder_Extra_169:Builder.Extra ke Tryz.lays169_ren:={
 sizeBuilder:=by kernel_rfl
 liesBuilder:=by kernel_rfl
 t5:=underlying5
 a5:=Tryz.isAgg5
 z5:=sizeOf5
 v5:=zeroValue5
 infoByte:=by kernel_rfl
 cellsByte:=by kernel_rfl
 sizeByte:=by kernel_rfl
 neB5:=by decide}
def Tryz.lays162_ren:Go.Shelf.Ren:=⟨fun|162=>165|232=>172|227=>173|234=>175|236=>177|228=>222|271=>224|151=>223|120=>252|197=>219|152=>251|260=>246|137=>272|119=>273|224=>249|225=>248|217=>247|266=>270|n=>n,fun|9=>9|4=>4|3=>3|5=>5|117=>312|116=>311|0=>0|124=>315|21=>21|105=>386|46=>211|119=>437|139=>440|138=>439|n=>n,fun|3=>13|4=>14|n=>n⟩
theorem Tryz.lays162:Go.Proofs.Lays.n162 ke Tryz.lays162_ren:={
 mixed:=by kernel_rfl
 f119:=Tryz.func273.trans (congrArg ka (by kernel_rfl))
 f120:=Tryz.func252.trans (congrArg ka (by kernel_rfl))
 f137:=Tryz.func272.trans (congrArg ka (by kernel_rfl))
 f151:=Tryz.func223.trans (congrArg ka (by kernel_rfl))
 f152:=Tryz.func251.trans (congrArg ka (by kernel_rfl))
 f162:=Tryz.func165.trans (congrArg ka (by kernel_rfl))
 f197:=Tryz.func219.trans (congrArg ka (by kernel_rfl))
 f217:=Tryz.func247.trans (congrArg ka (by kernel_rfl))
 f224:=Tryz.func249.trans (congrArg ka (by kernel_rfl))
 f225:=Tryz.func248.trans (congrArg ka (by kernel_rfl))
 f227:=Tryz.func173.trans (congrArg ka (by kernel_rfl))
 f228:=Tryz.func222.trans (congrArg ka (by kernel_rfl))
 f232:=Tryz.func172.trans (congrArg ka (by kernel_rfl))
 f234:=Tryz.func175.trans (congrArg ka (by kernel_rfl))
 f236:=Tryz.func177.trans (congrArg ka (by kernel_rfl))
 f260:=Tryz.func246.trans (congrArg ka (by kernel_rfl))
 f266:=Tryz.func270.trans (congrArg ka (by kernel_rfl))
 f271:=Tryz.func224.trans (congrArg ka (by kernel_rfl))
 t0:=underlying0
 a0:=Tryz.isAgg0
 z0:=sizeOf0
 v0:=zeroValue0
 t3:=kQ
 a3:=Tryz.isAgg3
 z3:=sizeOf3
 v3:=zeroValue3
 t4:=underlying4
 a4:=Tryz.isAgg4
 z4:=sizeOf4
 v4:=zeroValue4
 t5:=underlying5
 a5:=Tryz.isAgg5
 z5:=sizeOf5
 v5:=zeroValue5
 t9:=gn
 a9:=Tryz.isAgg9
 z9:=sizeOf9
 v9:=zeroValue9
 t21:=underlying21
 a21:=Tryz.isAgg21
 z21:=sizeOf21
 v21:=zeroValue21
 t46:=underlying211
 a46:=Tryz.isAgg211
 z46:=sizeOf211
 v46:=zeroValue211
 t105:=underlying386
 a105:=Tryz.isAgg386
 z105:=sizeOf386
 v105:=zeroValue386
 t116:=underlying311
 a116:=Tryz.isAgg311
 z116:=sizeOf311
 t117:=underlying312
 a117:=Tryz.isAgg312
 z117:=sizeOf312
 v117:=zeroValue312
 t119:=underlying437
 a119:=Tryz.isAgg437
 z119:=sizeOf437
 t124:=underlying315
 a124:=Tryz.isAgg315
 z124:=sizeOf315
 v124:=zeroValue315
 t138:=underlying439
 a138:=Tryz.isAgg439
 z138:=sizeOf439
 v138:=zeroValue439
 t139:=underlying440
 a139:=Tryz.isAgg440
 z139:=sizeOf440
 v139:=zeroValue440
 g3:=by kernel_rfl
 g4:=by kernel_rfl}
open Go.RowKit in
theorem Tryz.strings_TrimRight_one (s:ByteArray) (c:UInt8) (a:c.toNat< 128) (w:kg) (hs:s.size<=9223372036854775807):
  kG ke 165 #[.string s,.string ⟨#[c]⟩] w fun e w'=>e=.returned (.string ⟨(Lib.trimRightB s.data.toList c).toArray⟩)/\w'=w:=Any.strings_TrimRight_one Tryz.lays162 s c a w hs
def Tryz.lays160_ren:Go.Shelf.Ren:=⟨fun|160=>124|232=>172|231=>171|227=>173|234=>175|233=>174|236=>177|235=>176|228=>222|271=>224|151=>223|197=>219|120=>252|152=>251|260=>246|137=>272|119=>273|224=>249|225=>248|217=>247|266=>270|n=>n,fun|9=>9|4=>4|3=>3|5=>5|117=>312|116=>311|0=>0|124=>315|21=>21|105=>386|46=>211|119=>437|139=>440|138=>439|n=>n,fun|3=>13|4=>14|n=>n⟩
theorem Tryz.lays160:Go.Proofs.Lays.n160 ke Tryz.lays160_ren:={
 mixed:=by kernel_rfl
 f119:=Tryz.func273.trans (congrArg ka (by kernel_rfl))
 f120:=Tryz.func252.trans (congrArg ka (by kernel_rfl))
 f137:=Tryz.func272.trans (congrArg ka (by kernel_rfl))
 f151:=Tryz.func223.trans (congrArg ka (by kernel_rfl))
 f152:=Tryz.func251.trans (congrArg ka (by kernel_rfl))
 f160:=Tryz.func124.trans (congrArg ka (by kernel_rfl))
 f197:=Tryz.func219.trans (congrArg ka (by kernel_rfl))
 f217:=Tryz.func247.trans (congrArg ka (by kernel_rfl))
 f224:=Tryz.func249.trans (congrArg ka (by kernel_rfl))
 f225:=Tryz.func248.trans (congrArg ka (by kernel_rfl))
 f227:=Tryz.func173.trans (congrArg ka (by kernel_rfl))
 f228:=Tryz.func222.trans (congrArg ka (by kernel_rfl))
 f231:=Tryz.func171.trans (congrArg ka (by kernel_rfl))
 f232:=Tryz.func172.trans (congrArg ka (by kernel_rfl))
 f233:=Tryz.func174.trans (congrArg ka (by kernel_rfl))
 f234:=Tryz.func175.trans (congrArg ka (by kernel_rfl))
 f235:=Tryz.func176.trans (congrArg ka (by kernel_rfl))
 f236:=Tryz.func177.trans (congrArg ka (by kernel_rfl))
 f260:=Tryz.func246.trans (congrArg ka (by kernel_rfl))
 f266:=Tryz.func270.trans (congrArg ka (by kernel_rfl))
 f271:=Tryz.func224.trans (congrArg ka (by kernel_rfl))
 t0:=underlying0
 a0:=Tryz.isAgg0
 z0:=sizeOf0
 v0:=zeroValue0
 t3:=kQ
 a3:=Tryz.isAgg3
 z3:=sizeOf3
 v3:=zeroValue3
 t4:=underlying4
 a4:=Tryz.isAgg4
 z4:=sizeOf4
 v4:=zeroValue4
 t5:=underlying5
 a5:=Tryz.isAgg5
 z5:=sizeOf5
 v5:=zeroValue5
 t9:=gn
 a9:=Tryz.isAgg9
 z9:=sizeOf9
 v9:=zeroValue9
 t21:=underlying21
 a21:=Tryz.isAgg21
 z21:=sizeOf21
 v21:=zeroValue21
 t46:=underlying211
 a46:=Tryz.isAgg211
 z46:=sizeOf211
 v46:=zeroValue211
 t105:=underlying386
 a105:=Tryz.isAgg386
 z105:=sizeOf386
 v105:=zeroValue386
 t116:=underlying311
 a116:=Tryz.isAgg311
 z116:=sizeOf311
 t117:=underlying312
 a117:=Tryz.isAgg312
 z117:=sizeOf312
 v117:=zeroValue312
 t119:=underlying437
 a119:=Tryz.isAgg437
 z119:=sizeOf437
 t124:=underlying315
 a124:=Tryz.isAgg315
 z124:=sizeOf315
 v124:=zeroValue315
 t138:=underlying439
 a138:=Tryz.isAgg439
 z138:=sizeOf439
 v138:=zeroValue439
 t139:=underlying440
 a139:=Tryz.isAgg440
 z139:=sizeOf440
 v139:=zeroValue440
 g3:=by kernel_rfl
 g4:=by kernel_rfl}
def Tryz.lays125_ren:Go.Shelf.Ren:=⟨fun|125=>239|128=>266|129=>267|n=>n,fun|46=>211|3=>3|51=>409|53=>436|4=>4|5=>5|9=>9|n=>n,fun|n=>n⟩
theorem Tryz.lays125:Go.Proofs.Lays.n125 ke Tryz.lays125_ren:={
 mixed:=by kernel_rfl
 f125:=Tryz.func239.trans (congrArg ka (by kernel_rfl))
 f128:=Tryz.func266.trans (congrArg ka (by kernel_rfl))
 f129:=Tryz.func267.trans (congrArg ka (by kernel_rfl))
 t3:=kQ
 a3:=Tryz.isAgg3
 z3:=sizeOf3
 v3:=zeroValue3
 t4:=underlying4
 a4:=Tryz.isAgg4
 z4:=sizeOf4
 v4:=zeroValue4
 t5:=underlying5
 a5:=Tryz.isAgg5
 z5:=sizeOf5
 v5:=zeroValue5
 t9:=gn
 a9:=Tryz.isAgg9
 z9:=sizeOf9
 v9:=zeroValue9
 t46:=underlying211
 a46:=Tryz.isAgg211
 z46:=sizeOf211
 v46:=zeroValue211
 t51:=underlying409
 a51:=Tryz.isAgg409
 z51:=sizeOf409
 v51:=zeroValue409
 t53:=underlying436
 a53:=Tryz.isAgg436
 z53:=sizeOf436
 v53:=zeroValue436}
theorem Tryz.bits_Len (x:Int) (w:kg) (h0:0<=x) (a:x<=18446744073709551615):
  kG ke 239 #[.int .u64 x] w fun e w'=>e=.returned (.int .i64 (Lib.bitLen x.toNat))/\w'=w:=Any.bits_Len Tryz.lays125 x w h0 a
def Tryz.lays103_ren:Go.Shelf.Ren:=⟨fun|103=>245|210=>269|206=>291|n=>n,fun|9=>9|4=>4|24=>417|3=>3|n=>n,fun|n=>n⟩
theorem Tryz.lays103:Go.Proofs.Lays.n103 ke Tryz.lays103_ren:={
 mixed:=by kernel_rfl
 f103:=Tryz.func245.trans (congrArg ka (by kernel_rfl))
 f206:=Tryz.func291.trans (congrArg ka (by kernel_rfl))
 f210:=Tryz.func269.trans (congrArg ka (by kernel_rfl))
 t3:=kQ
 a3:=Tryz.isAgg3
 z3:=sizeOf3
 v3:=zeroValue3
 t4:=underlying4
 a4:=Tryz.isAgg4
 z4:=sizeOf4
 v4:=zeroValue4
 t9:=gn
 a9:=Tryz.isAgg9
 z9:=sizeOf9
 v9:=zeroValue9
 t24:=underlying417
 a24:=Tryz.isAgg417
 z24:=sizeOf417
 v24:=zeroValue417}
open Go.RowKit in
theorem Tryz.strings_CutPrefix (s p:ByteArray) (w:kg):
  kG ke 245 #[.string s,.string p] w fun e w'=>e=.returned (.tuple #[.string ⟨(gQ s.data.toList p.data.toList).toArray⟩,.bool (Lib.hasPrefix s.data.toList p.data.toList)])/\w'=w:=Any.strings_CutPrefix Tryz.lays103 s p w
def Tryz.lays104_ren:Go.Shelf.Ren:=⟨fun|104=>268|211=>290|207=>298|n=>n,fun|9=>9|4=>4|24=>417|3=>3|n=>n,fun|n=>n⟩
theorem Tryz.lays104:Go.Proofs.Lays.n104 ke Tryz.lays104_ren:={
 mixed:=by kernel_rfl
 f104:=Tryz.func268.trans (congrArg ka (by kernel_rfl))
 f207:=Tryz.func298.trans (congrArg ka (by kernel_rfl))
 f211:=Tryz.func290.trans (congrArg ka (by kernel_rfl))
 t3:=kQ
 a3:=Tryz.isAgg3
 z3:=sizeOf3
 v3:=zeroValue3
 t4:=underlying4
 a4:=Tryz.isAgg4
 z4:=sizeOf4
 v4:=zeroValue4
 t9:=gn
 a9:=Tryz.isAgg9
 z9:=sizeOf9
 v9:=zeroValue9
 t24:=underlying417
 a24:=Tryz.isAgg417
 z24:=sizeOf417
 v24:=zeroValue417}
open Go.RowKit in
theorem Tryz.strings_CutSuffix (s p:ByteArray) (w:kg) (hs:s.size<=9223372036854775807):
  kG ke 268 #[.string s,.string p] w fun e w'=>e=.returned (.tuple #[.string ⟨(Lib.trimSuffix s.data.toList p.data.toList).toArray⟩,.bool (Lib.hasSuffix s.data.toList p.data.toList)])/\w'=w:=Any.strings_CutSuffix Tryz.lays104 s p w hs
open Go.RowKit in
theorem Tryz.Builder_String_any_k (B b:Nat) (l:List UInt8) (w:kg) (h:Lib.IsBuilderF 79 5 B b (Lib.byteCells l) w) (a:B<=w.heap.size):
  kG ke 39 #[.pointer (ka ⟨b,0,kc⟩)] w fun e w'=>e=.returned (.string ⟨l.toArray⟩)/\(Lib.IsBuilderF 79 5 B b (Lib.byteCells l) w'/\Below B w w'/\Lib.OthersKept 5 (ka b) w w'):=Any.Builder_String_any_k Tryz.lays169 Tryz.Builder_Extra_169 B b l w h a
def Tryz.lays145_ren:Go.Shelf.Ren:=⟨fun|145=>123|220=>170|219=>221|217=>247|225=>248|224=>249|267=>250|266=>270|314=>271|n=>n,fun|9=>9|4=>4|59=>241|3=>3|5=>5|46=>211|146=>441|51=>409|n=>n,fun|1=>12|n=>n⟩
theorem Tryz.lays145:Go.Proofs.Lays.n145 ke Tryz.lays145_ren:={
 mixed:=by kernel_rfl
 f145:=Tryz.func123.trans (congrArg ka (by kernel_rfl))
 f217:=Tryz.func247.trans (congrArg ka (by kernel_rfl))
 f219:=Tryz.func221.trans (congrArg ka (by kernel_rfl))
 f220:=Tryz.func170.trans (congrArg ka (by kernel_rfl))
 f224:=Tryz.func249.trans (congrArg ka (by kernel_rfl))
 f225:=Tryz.func248.trans (congrArg ka (by kernel_rfl))
 f266:=Tryz.func270.trans (congrArg ka (by kernel_rfl))
 f267:=Tryz.func250.trans (congrArg ka (by kernel_rfl))
 f314:=Tryz.func271.trans (congrArg ka (by kernel_rfl))
 t3:=kQ
 a3:=Tryz.isAgg3
 z3:=sizeOf3
 v3:=zeroValue3
 t4:=underlying4
 a4:=Tryz.isAgg4
 z4:=sizeOf4
 v4:=zeroValue4
 t5:=underlying5
 a5:=Tryz.isAgg5
 z5:=sizeOf5
 v5:=zeroValue5
 t9:=gn
 a9:=Tryz.isAgg9
 z9:=sizeOf9
 v9:=zeroValue9
 t46:=underlying211
 a46:=Tryz.isAgg211
 z46:=sizeOf211
 v46:=zeroValue211
 t51:=underlying409
 a51:=Tryz.isAgg409
 z51:=sizeOf409
 v51:=zeroValue409
 t59:=underlying241
 a59:=Tryz.isAgg241
 z59:=sizeOf241
 v59:=zeroValue241
 t146:=underlying441
 a146:=Tryz.isAgg441
 z146:=sizeOf441
 v146:=zeroValue441
 g1:=by kernel_rfl}
open Go.RowKit Go.Lib in
theorem Tryz.strings_Cut (s a:ByteArray) (m:Int) (w:kg) (hs:s.size< 4294967281) (b:w.cell? ⟨12,0,kc⟩=ka (.int .i64 m)):
  kG ke 123 #[.string s,.string a] w fun e w'=>e=.returned (.tuple #[.string ⟨(Lib.cut s.data.toList a.data.toList).1.toArray⟩,.string ⟨(Lib.cut s.data.toList a.data.toList).2.1.toArray⟩,.bool (Lib.cut s.data.toList a.data.toList).2.2])/\∃n,w'=w.drewN n:=Any.strings_Cut Tryz.lays145 s a m w hs b
def Tryz.lays189_ren:Go.Shelf.Ren:=⟨fun|189=>233|125=>239|257=>255|128=>266|129=>267|294=>275|295=>276|296=>277|297=>278|298=>279|299=>280|216=>281|300=>282|301=>283|328=>292|329=>286|330=>287|331=>293|332=>294|215=>295|343=>299|n=>n,fun|28=>22|3=>3|46=>211|0=>0|51=>409|53=>436|4=>4|183=>429|182=>428|131=>134|5=>5|9=>9|218=>449|222=>453|228=>458|229=>202|n=>n,fun|n=>n⟩
theorem Tryz.lays189:Go.Proofs.Lays.n189 ke Tryz.lays189_ren:={
 mixed:=by kernel_rfl
 f125:=Tryz.func239.trans (congrArg ka (by kernel_rfl))
 f128:=Tryz.func266.trans (congrArg ka (by kernel_rfl))
 f129:=Tryz.func267.trans (congrArg ka (by kernel_rfl))
 f189:=Tryz.func233.trans (congrArg ka (by kernel_rfl))
 f215:=Tryz.func295.trans (congrArg ka (by kernel_rfl))
 f216:=Tryz.func281.trans (congrArg ka (by kernel_rfl))
 f257:=Tryz.func255.trans (congrArg ka (by kernel_rfl))
 f294:=Tryz.func275.trans (congrArg ka (by kernel_rfl))
 f295:=Tryz.func276.trans (congrArg ka (by kernel_rfl))
 f296:=Tryz.func277.trans (congrArg ka (by kernel_rfl))
 f297:=Tryz.func278.trans (congrArg ka (by kernel_rfl))
 f298:=Tryz.func279.trans (congrArg ka (by kernel_rfl))
 f299:=Tryz.func280.trans (congrArg ka (by kernel_rfl))
 f300:=Tryz.func282.trans (congrArg ka (by kernel_rfl))
 f301:=Tryz.func283.trans (congrArg ka (by kernel_rfl))
 f328:=Tryz.func292.trans (congrArg ka (by kernel_rfl))
 f329:=Tryz.func286.trans (congrArg ka (by kernel_rfl))
 f330:=Tryz.func287.trans (congrArg ka (by kernel_rfl))
 f331:=Tryz.func293.trans (congrArg ka (by kernel_rfl))
 f332:=Tryz.func294.trans (congrArg ka (by kernel_rfl))
 f343:=Tryz.func299.trans (congrArg ka (by kernel_rfl))
 t0:=underlying0
 a0:=Tryz.isAgg0
 z0:=sizeOf0
 v0:=zeroValue0
 t3:=kQ
 a3:=Tryz.isAgg3
 z3:=sizeOf3
 v3:=zeroValue3
 t4:=underlying4
 a4:=Tryz.isAgg4
 z4:=sizeOf4
 v4:=zeroValue4
 t5:=underlying5
 a5:=Tryz.isAgg5
 z5:=sizeOf5
 v5:=zeroValue5
 t9:=gn
 a9:=Tryz.isAgg9
 z9:=sizeOf9
 v9:=zeroValue9
 t28:=gw
 a28:=Tryz.isAgg22
 z28:=sizeOf22
 v28:=zeroValue22
 t46:=underlying211
 a46:=Tryz.isAgg211
 z46:=sizeOf211
 v46:=zeroValue211
 t51:=underlying409
 a51:=Tryz.isAgg409
 z51:=sizeOf409
 v51:=zeroValue409
 t53:=underlying436
 a53:=Tryz.isAgg436
 z53:=sizeOf436
 v53:=zeroValue436
 t131:=underlying134
 a131:=Tryz.isAgg134
 z131:=sizeOf134
 v131:=zeroValue134
 t182:=underlying428
 a182:=Tryz.isAgg428
 z182:=sizeOf428
 v182:=zeroValue428
 t183:=underlying429
 a183:=Tryz.isAgg429
 z183:=sizeOf429
 v183:=zeroValue429
 t218:=underlying449
 a218:=Tryz.isAgg449
 z218:=sizeOf449
 v218:=zeroValue449
 t222:=underlying453
 a222:=Tryz.isAgg453
 z222:=sizeOf453
 v222:=zeroValue453
 t228:=underlying458
 a228:=Tryz.isAgg458
 z228:=sizeOf458
 v228:=zeroValue458
 t229:=underlying202
 a229:=Tryz.isAgg202
 z229:=sizeOf202
 v229:=zeroValue202}
open Go.Sort Go.RowKit in
theorem Tryz.slices_Sort_int (blk a b:Nat) (zs:List Int) (w:kg) (c:Holds (gr .i64) w blk a zs.toArray) (d:blk< w.heap.size) (f:zs.length< 4611686018427387904):
  kG ke 233 #[.slice (ka ⟨blk,a,kc⟩) zs.length b] w fun e w'=>
   e=.returned (.tuple #[])/\∃n os,w'=grow (putRow (gr .i64) (Sort.ahead w n) blk a (zs.mergeSort fun x y=>decide (x<=y)).toArray) os:=Any.slices_Sort_int Tryz.lays189 blk a b zs w c d f
def Tryz.lays146_ren:Go.Shelf.Ren:=⟨fun|146=>86|221=>122|268=>167|138=>168|143=>169|195=>218|197=>219|218=>220|219=>221|260=>246|217=>247|225=>248|224=>249|267=>250|266=>270|314=>271|n=>n,fun|9=>9|31=>38|3=>3|4=>4|0=>0|105=>386|21=>21|5=>5|46=>211|119=>437|139=>440|138=>439|146=>441|51=>409|n=>n,fun|1=>12|3=>13|4=>14|n=>n⟩
theorem Tryz.lays146:Go.Proofs.Lays.n146 ke Tryz.lays146_ren:={
 mixed:=by kernel_rfl
 f138:=Tryz.func168.trans (congrArg ka (by kernel_rfl))
 f143:=Tryz.func169.trans (congrArg ka (by kernel_rfl))
 f146:=Tryz.func86.trans (congrArg ka (by kernel_rfl))
 f195:=Tryz.func218.trans (congrArg ka (by kernel_rfl))
 f197:=Tryz.func219.trans (congrArg ka (by kernel_rfl))
 f217:=Tryz.func247.trans (congrArg ka (by kernel_rfl))
 f218:=Tryz.func220.trans (congrArg ka (by kernel_rfl))
 f219:=Tryz.func221.trans (congrArg ka (by kernel_rfl))
 f221:=Tryz.func122.trans (congrArg ka (by kernel_rfl))
 f224:=Tryz.func249.trans (congrArg ka (by kernel_rfl))
 f225:=Tryz.func248.trans (congrArg ka (by kernel_rfl))
 f260:=Tryz.func246.trans (congrArg ka (by kernel_rfl))
 f266:=Tryz.func270.trans (congrArg ka (by kernel_rfl))
 f267:=Tryz.func250.trans (congrArg ka (by kernel_rfl))
 f268:=Tryz.func167.trans (congrArg ka (by kernel_rfl))
 f314:=Tryz.func271.trans (congrArg ka (by kernel_rfl))
 t0:=underlying0
 a0:=Tryz.isAgg0
 z0:=sizeOf0
 v0:=zeroValue0
 t3:=kQ
 a3:=Tryz.isAgg3
 z3:=sizeOf3
 v3:=zeroValue3
 t4:=underlying4
 a4:=Tryz.isAgg4
 z4:=sizeOf4
 v4:=zeroValue4
 t5:=underlying5
 a5:=Tryz.isAgg5
 z5:=sizeOf5
 v5:=zeroValue5
 t9:=gn
 a9:=Tryz.isAgg9
 z9:=sizeOf9
 v9:=zeroValue9
 t21:=underlying21
 a21:=Tryz.isAgg21
 z21:=sizeOf21
 v21:=zeroValue21
 t31:=underlying38
 a31:=Tryz.isAgg38
 z31:=sizeOf38
 v31:=zeroValue38
 t46:=underlying211
 a46:=Tryz.isAgg211
 z46:=sizeOf211
 v46:=zeroValue211
 t51:=underlying409
 a51:=Tryz.isAgg409
 z51:=sizeOf409
 v51:=zeroValue409
 t105:=underlying386
 a105:=Tryz.isAgg386
 z105:=sizeOf386
 v105:=zeroValue386
 t119:=underlying437
 a119:=Tryz.isAgg437
 z119:=sizeOf437
 t138:=underlying439
 a138:=Tryz.isAgg439
 z138:=sizeOf439
 v138:=zeroValue439
 t139:=underlying440
 a139:=Tryz.isAgg440
 z139:=sizeOf440
 v139:=zeroValue440
 t146:=underlying441
 a146:=Tryz.isAgg441
 z146:=sizeOf441
 v146:=zeroValue441
 g1:=by kernel_rfl
 g3:=by kernel_rfl
 g4:=by kernel_rfl}
open Go.RowKit Go.Lib in
theorem Tryz.strings_Split (s a:ByteArray) (m:Int) (w:kg) (hs:s.size< 4294967281) (c:w.cell? ⟨12,0,kc⟩=ka (.int .i64 m)) (b:1<=a.size):
  kG ke 86 #[.string s,.string a] w fun e w'=>
   e=.returned (.slice (ka ⟨w.heap.size,0,kc⟩) (Lib.countB s a+1) (Lib.countB s a+1))/\w'=w.alloc (.cells ((Lib.splitB a 0 (Lib.countB s a) s).map Value.string).toArray 9):=Any.strings_Split Tryz.lays146 (by kernel_rfl) s a m w hs c b
def Tryz.lays107_ren:Go.Shelf.Ren:=⟨fun|107=>33|108=>57|n=>n,fun|28=>22|3=>3|4=>4|0=>0|n=>n,fun|n=>n⟩
theorem Tryz.lays107:Go.Proofs.Lays.n107 ke Tryz.lays107_ren:={
 mixed:=by kernel_rfl
 f107:=Tryz.func33.trans (congrArg ka (by kernel_rfl))
 f108:=Tryz.func57.trans (congrArg ka (by kernel_rfl))
 t0:=underlying0
 a0:=Tryz.isAgg0
 z0:=sizeOf0
 v0:=zeroValue0
 t3:=kQ
 a3:=Tryz.isAgg3
 z3:=sizeOf3
 v3:=zeroValue3
 t4:=underlying4
 a4:=Tryz.isAgg4
 z4:=sizeOf4
 v4:=zeroValue4
 t28:=gw
 a28:=Tryz.isAgg22
 z28:=sizeOf22
 v28:=zeroValue22}
open Go.Lib in
theorem Tryz.slices_Contains_int (b a n c:Nat) (zs:List Int) (x:Int) (w:kg) (hz:n<=zs.length) (d:n<=9223372036854775807) (f: ∀j,j< zs.length->w.cell? ⟨b,a+j,kc⟩=ka (.int .i64 (zs.getD j 0))):
  kG ke 33 #[.slice (ka ⟨b,a,kc⟩) n c,.int .i64 x] w fun e w'=>e=.returned (.bool ((zs.take n).contains x))/\w'=w:=Any.slices_Contains_int Tryz.lays107 b a n c zs x w hz d f
open Go.Lib in
theorem Tryz.slices_Contains_int_empty (a:Option kF) (c:Nat) (x:Int) (w:kg):
  kG ke 33 #[.slice a 0 c,.int .i64 x] w fun e w'=>e=.returned (.bool false)/\w'=w:=Any.slices_Contains_int_empty Tryz.lays107 a c x w
def Tryz.laysNm220_ren:Go.Shelf.Ren:=⟨fun|20=>234|n=>n,fun|22=>22|3=>3|4=>4|0=>0|n=>n,fun|n=>n⟩
theorem Tryz.laysNm220:Go.Proofs.Lays2.n20 ke Tryz.laysNm220_ren:={
 mixed:=by kernel_rfl
 f20:=Tryz.func234.trans (congrArg ka (by kernel_rfl))
 t0:=underlying0
 a0:=Tryz.isAgg0
 z0:=sizeOf0
 v0:=zeroValue0
 t3:=kQ
 a3:=Tryz.isAgg3
 z3:=sizeOf3
 v3:=zeroValue3
 t4:=underlying4
 a4:=Tryz.isAgg4
 z4:=sizeOf4
 v4:=zeroValue4
 t22:=gw
 a22:=Tryz.isAgg22
 z22:=sizeOf22
 v22:=zeroValue22
 i3:=by kernel_rfl}
open Go.RowKit Go.Lib Go.Sort in
theorem Tryz.slices_Compact_int (blk a b:Nat) (zs:List Int) (w:kg) (c:Holds (gr .i64) w blk a zs.toArray) (f:zs.length<=9223372036854775807) (d:zs.length<=b):
  kG ke 234 #[.slice (ka ⟨blk,a,kc⟩) zs.length b] w fun e w'=>e=.returned (.slice (ka ⟨blk,a,kc⟩) (Lib.compact zs).length b)/\∃q,w'=putRow (gr .i64) (Sort.ahead w q) blk a (Lib.compact zs++List.replicate (zs.length -(Lib.compact zs).length) 0).toArray:=Any.slices_Compact_int Tryz.laysNm220 blk a b zs w c f d
open Go.RowKit Go.Lib Go.Sort in
theorem Tryz.slices_Compact_int_empty (a:Option kF) (b:Nat) (w:kg):
  kG ke 234 #[.slice a 0 b] w fun e w'=>e=.returned (.slice a 0 b)/\w'=w:=Any.slices_Compact_int_empty Tryz.laysNm220 a b w
open Go.RowKit Go.Sort in
theorem Tryz.slices_Sort_int_none (p:Option kF) (a:Nat) (w:kg):
  kG ke 233 #[.slice p 0 a] w fun e w'=>e=.returned (.tuple #[])/\w'=w:=Any.slices_Sort_int_none Tryz.lays189 p a w
end Go.Proofs
