import Derived.Shelf.Strings.Builder1
import Derived.Shelf.Strings.Trim
import Derived.Shelf.Small.Utf8
import Derived.Shelf.Small.Bits
import Derived.Shelf.Small.Strs
import Derived.Shelf.Small.Wraps
import Derived.Shelf.Strings.BuilderF
import Derived.Shelf.Strings.BuilderK
import Derived.Shelf.Strings.BuilderRune
import Derived.Shelf.Strconv.Itoa0
import Derived.Shelf.Strings.Search1
import Derived.Shelf.Strings.Search2
import Derived.Shelf.Strings.Search3
import Derived.Shelf.Strings.Cut
import Derived.Shelf.Strings.Count
import Derived.Shelf.LaysM
import Derived.Shelf.Strings.Shaped
import Derived.Shelf.Sort.Plain
import Derived.Shelf.Strings.Prefix
import Derived.Shelf.Strings.Split
import Derived.Shelf.Strings.Runes
import Derived.Shelf.Strings.AsciiSet
import Derived.Shelf.Unicode.DecodeSlow
import Derived.Shelf.Slices.Turned
import Derived.Ground.Names2Prog
import Derived.Shelf.Slices.CompactI
import Derived.Shelf.Slices.In.SortNone
import Derived.Test.YtnfgmolobeimgaaGreatDoorProg
open Go.Proofs.Tryz
open Go renaming World->kg,Calls->kH,Addr->kJ
open Go.Lib renaming trimPrefix->gQ
open Go.Proofs.Tryz renaming prog->ke
open Go.Value renaming int->gg
open Option renaming some->ka,none->kc
namespace Go.Proofs
open Go.Shelf
def Tryz.lays169_ren:Go.Shelf.Ren:=⟨fun|169=>39|n=>n,fun|70=>76|9=>9|0=>0|72=>79|37=>77|127=>157|3=>3|5=>5|n=>n,fun|n=>n⟩
theorem Tryz.lays169:Go.Proofs.Lays.n169 ke Tryz.lays169_ren:=by constructor <;> intros <;> kernel_rfl
theorem Tryz.Builder_Extra_169:Builder.Extra ke Tryz.lays169_ren:={
 sizeBuilder:=by kernel_rfl
 liesBuilder:=by kernel_rfl
 t5:=underlying5
 a5:=Tryz.isAgg5
 z5:=sizeOf5
 v5:=zeroValue5
 infoByte:=by kernel_rfl
 cellsByte:=by kernel_rfl
 sizeByte:=by kernel_rfl
 neB5:=by decide}
def Tryz.lays162_ren:Go.Shelf.Ren:=⟨fun|162=>165|232=>172|227=>173|234=>175|236=>177|228=>222|271=>224|151=>223|120=>252|197=>219|152=>251|260=>246|137=>272|119=>273|224=>249|225=>248|217=>247|266=>270|n=>n,fun|9=>9|4=>4|3=>3|5=>5|117=>312|116=>311|0=>0|124=>315|21=>21|105=>386|46=>211|119=>437|139=>440|138=>439|n=>n,fun|3=>13|4=>14|n=>n⟩
theorem Tryz.lays162:Go.Proofs.Lays.n162 ke Tryz.lays162_ren:=by constructor <;> intros <;> kernel_rfl
open Go.RowKit in
theorem Tryz.strings_TrimRight_one (s:ByteArray) (c:UInt8) (a:c.toNat< 128) (w:kg) (hs:s.size<=9223372036854775807):
  kH ke 165 #[.string s,.string ⟨#[c]⟩] w fun e w'=>e=.returned (.string ⟨(Lib.trimRightB s.data.toList c).toArray⟩)/\w'=w:=Any.strings_TrimRight_one Tryz.lays162 s c a w hs
def Tryz.lays160_ren:Go.Shelf.Ren:=⟨fun|160=>124|232=>172|231=>171|227=>173|234=>175|233=>174|236=>177|235=>176|228=>222|271=>224|151=>223|197=>219|120=>252|152=>251|260=>246|137=>272|119=>273|224=>249|225=>248|217=>247|266=>270|n=>n,fun|9=>9|4=>4|3=>3|5=>5|117=>312|116=>311|0=>0|124=>315|21=>21|105=>386|46=>211|119=>437|139=>440|138=>439|n=>n,fun|3=>13|4=>14|n=>n⟩
theorem Tryz.lays160:Go.Proofs.Lays.n160 ke Tryz.lays160_ren:=by constructor <;> intros <;> kernel_rfl
def Tryz.lays125_ren:Go.Shelf.Ren:=⟨fun|125=>239|128=>266|129=>267|n=>n,fun|46=>211|3=>3|51=>409|53=>436|4=>4|5=>5|9=>9|n=>n,fun|n=>n⟩
theorem Tryz.lays125:Go.Proofs.Lays.n125 ke Tryz.lays125_ren:=by constructor <;> intros <;> kernel_rfl
theorem Tryz.bits_Len (x:Int) (w:kg) (h0:0<=x) (a:x<=18446744073709551615):
  kH ke 239 #[.int .u64 x] w fun e w'=>e=.returned (.int .i64 (Lib.bitLen x.toNat))/\w'=w:=Any.bits_Len Tryz.lays125 x w h0 a
def Tryz.lays103_ren:Go.Shelf.Ren:=⟨fun|103=>245|210=>269|206=>291|n=>n,fun|9=>9|4=>4|24=>417|3=>3|n=>n,fun|n=>n⟩
theorem Tryz.lays103:Go.Proofs.Lays.n103 ke Tryz.lays103_ren:=by constructor <;> intros <;> kernel_rfl
open Go.RowKit in
theorem Tryz.strings_CutPrefix (s p:ByteArray) (w:kg):
  kH ke 245 #[.string s,.string p] w fun e w'=>e=.returned (.tuple #[.string ⟨(gQ s.data.toList p.data.toList).toArray⟩,.bool (Lib.hasPrefix s.data.toList p.data.toList)])/\w'=w:=Any.strings_CutPrefix Tryz.lays103 s p w
def Tryz.lays104_ren:Go.Shelf.Ren:=⟨fun|104=>268|211=>290|207=>298|n=>n,fun|9=>9|4=>4|24=>417|3=>3|n=>n,fun|n=>n⟩
theorem Tryz.lays104:Go.Proofs.Lays.n104 ke Tryz.lays104_ren:=by constructor <;> intros <;> kernel_rfl
open Go.RowKit in
theorem Tryz.strings_CutSuffix (s p:ByteArray) (w:kg) (hs:s.size<=9223372036854775807):
  kH ke 268 #[.string s,.string p] w fun e w'=>e=.returned (.tuple #[.string ⟨(Lib.trimSuffix s.data.toList p.data.toList).toArray⟩,.bool (Lib.hasSuffix s.data.toList p.data.toList)])/\w'=w:=Any.strings_CutSuffix Tryz.lays104 s p w hs
open Go.RowKit in
theorem Tryz.Builder_String_any_k (B b:Nat) (l:List UInt8) (w:kg) (h:Lib.IsBuilderF 79 5 B b (Lib.byteCells l) w) (a:B<=w.heap.size):
  kH ke 39 #[.pointer (ka ⟨b,0,kc⟩)] w fun e w'=>e=.returned (.string ⟨l.toArray⟩)/\(Lib.IsBuilderF 79 5 B b (Lib.byteCells l) w'/\Below B w w'/\Lib.OthersKept 5 (ka b) w w'):=Any.Builder_String_any_k Tryz.lays169 Tryz.Builder_Extra_169 B b l w h a
def Tryz.lays145_ren:Go.Shelf.Ren:=⟨fun|145=>123|220=>170|219=>221|217=>247|225=>248|224=>249|267=>250|266=>270|314=>271|n=>n,fun|9=>9|4=>4|59=>241|3=>3|5=>5|46=>211|146=>441|51=>409|n=>n,fun|1=>12|n=>n⟩
theorem Tryz.lays145:Go.Proofs.Lays.n145 ke Tryz.lays145_ren:=by constructor <;> intros <;> kernel_rfl
open Go.RowKit Go.Lib in
theorem Tryz.strings_Cut (s a:ByteArray) (m:Int) (w:kg) (hs:s.size< 4294967281) (b:w.cell? ⟨12,0,kc⟩=ka (.int .i64 m)):
  kH ke 123 #[.string s,.string a] w fun e w'=>e=.returned (.tuple #[.string ⟨(Lib.cut s.data.toList a.data.toList).1.toArray⟩,.string ⟨(Lib.cut s.data.toList a.data.toList).2.1.toArray⟩,.bool (Lib.cut s.data.toList a.data.toList).2.2])/\∃n,w'=w.drewN n:=Any.strings_Cut Tryz.lays145 s a m w hs b
def Tryz.lays189_ren:Go.Shelf.Ren:=⟨fun|189=>233|125=>239|257=>255|128=>266|129=>267|294=>275|295=>276|296=>277|297=>278|298=>279|299=>280|216=>281|300=>282|301=>283|328=>292|329=>286|330=>287|331=>293|332=>294|215=>295|343=>299|n=>n,fun|28=>22|3=>3|46=>211|0=>0|51=>409|53=>436|4=>4|183=>429|182=>428|131=>134|5=>5|9=>9|218=>449|222=>453|228=>458|229=>202|n=>n,fun|n=>n⟩
theorem Tryz.lays189:Go.Proofs.Lays.n189 ke Tryz.lays189_ren:=by constructor <;> intros <;> kernel_rfl
open Go.Sort Go.RowKit in
theorem Tryz.slices_Sort_int (blk a b:Nat) (zs:List Int) (w:kg) (c:Holds (gg .i64) w blk a zs.toArray) (d:blk< w.heap.size) (f:zs.length< 4611686018427387904):
  kH ke 233 #[.slice (ka ⟨blk,a,kc⟩) zs.length b] w fun e w'=>
   e=.returned (.tuple #[])/\∃n os,w'=grow (putRow (gg .i64) (Sort.ahead w n) blk a (zs.mergeSort fun x y=>decide (x<=y)).toArray) os:=Any.slices_Sort_int Tryz.lays189 blk a b zs w c d f
def Tryz.lays146_ren:Go.Shelf.Ren:=⟨fun|146=>86|221=>122|268=>167|138=>168|143=>169|195=>218|197=>219|218=>220|219=>221|260=>246|217=>247|225=>248|224=>249|267=>250|266=>270|314=>271|n=>n,fun|9=>9|31=>38|3=>3|4=>4|0=>0|105=>386|21=>21|5=>5|46=>211|119=>437|139=>440|138=>439|146=>441|51=>409|n=>n,fun|1=>12|3=>13|4=>14|n=>n⟩
theorem Tryz.lays146:Go.Proofs.Lays.n146 ke Tryz.lays146_ren:=by constructor <;> intros <;> kernel_rfl
open Go.RowKit Go.Lib in
theorem Tryz.strings_Split (s a:ByteArray) (m:Int) (w:kg) (hs:s.size< 4294967281) (c:w.cell? ⟨12,0,kc⟩=ka (.int .i64 m)) (b:1<=a.size):
  kH ke 86 #[.string s,.string a] w fun e w'=>
   e=.returned (.slice (ka ⟨w.heap.size,0,kc⟩) (Lib.countB s a+1) (Lib.countB s a+1))/\w'=w.alloc (.cells ((Lib.splitB a 0 (Lib.countB s a) s).map Value.string).toArray 9):=Any.strings_Split Tryz.lays146 (by kernel_rfl) s a m w hs c b
def Tryz.lays107_ren:Go.Shelf.Ren:=⟨fun|107=>33|108=>57|n=>n,fun|28=>22|3=>3|4=>4|0=>0|n=>n,fun|n=>n⟩
theorem Tryz.lays107:Go.Proofs.Lays.n107 ke Tryz.lays107_ren:=by constructor <;> intros <;> kernel_rfl
open Go.Lib in
theorem Tryz.slices_Contains_int (b a n c:Nat) (zs:List Int) (x:Int) (w:kg) (hz:n<=zs.length) (d:n<=9223372036854775807) (f: ∀j,j< zs.length->w.cell? ⟨b,a+j,kc⟩=ka (.int .i64 (zs.getD j 0))):
  kH ke 33 #[.slice (ka ⟨b,a,kc⟩) n c,.int .i64 x] w fun e w'=>e=.returned (.bool ((zs.take n).contains x))/\w'=w:=Any.slices_Contains_int Tryz.lays107 b a n c zs x w hz d f
open Go.Lib in
theorem Tryz.slices_Contains_int_empty (a:Option kJ) (c:Nat) (x:Int) (w:kg):
  kH ke 33 #[.slice a 0 c,.int .i64 x] w fun e w'=>e=.returned (.bool false)/\w'=w:=Any.slices_Contains_int_empty Tryz.lays107 a c x w
def Tryz.laysNm220_ren:Go.Shelf.Ren:=⟨fun|20=>234|n=>n,fun|22=>22|3=>3|4=>4|0=>0|n=>n,fun|n=>n⟩
theorem Tryz.laysNm220:Go.Proofs.Lays2.n20 ke Tryz.laysNm220_ren:=by constructor <;> intros <;> kernel_rfl
open Go.RowKit Go.Lib Go.Sort in
theorem Tryz.slices_Compact_int (blk a b:Nat) (zs:List Int) (w:kg) (c:Holds (gg .i64) w blk a zs.toArray) (f:zs.length<=9223372036854775807) (d:zs.length<=b):
  kH ke 234 #[.slice (ka ⟨blk,a,kc⟩) zs.length b] w fun e w'=>e=.returned (.slice (ka ⟨blk,a,kc⟩) (Lib.compact zs).length b)/\∃q,w'=putRow (gg .i64) (Sort.ahead w q) blk a (Lib.compact zs++List.replicate (zs.length -(Lib.compact zs).length) 0).toArray:=Any.slices_Compact_int Tryz.laysNm220 blk a b zs w c f d
open Go.RowKit Go.Lib Go.Sort in
theorem Tryz.slices_Compact_int_empty (a:Option kJ) (b:Nat) (w:kg):
  kH ke 234 #[.slice a 0 b] w fun e w'=>e=.returned (.slice a 0 b)/\w'=w:=Any.slices_Compact_int_empty Tryz.laysNm220 a b w
open Go.RowKit Go.Sort in
theorem Tryz.slices_Sort_int_none (p:Option kJ) (a:Nat) (w:kg):
  kH ke 233 #[.slice p 0 a] w fun e w'=>e=.returned (.tuple #[])/\w'=w:=Any.slices_Sort_int_none Tryz.lays189 p a w
end Go.Proofs
