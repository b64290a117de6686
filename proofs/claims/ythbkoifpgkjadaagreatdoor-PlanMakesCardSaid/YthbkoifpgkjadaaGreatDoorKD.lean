/- What the laws lean on: Shelf, DateE, DateF, DateG, DateH, DateJ, DateL, DateN, DateT, HdrA, HdrB, HdrC, AddrA, AddrP, AddrB, AddrC, AddrD, AddrE; what is used. Its conditions: none. -/
import Derived.Test.YthbkoifpgkjadaaGreatDoorKC
import Derived.Shelf.Strings.SlTrimAscii
import Derived.Shelf.Strings.Builder1
import Derived.Shelf.Strings.Builder2
import Derived.Shelf.Strings.OnBuilder
import Derived.Shelf.Strings.Trim
import Derived.Shelf.Small.Utf8
import Derived.Shelf.Small.Bits
import Derived.Shelf.Small.Strs
import Derived.Shelf.Small.Wraps
import Derived.Shelf.Strings.BuilderF
import Derived.Shelf.Strings.BuilderK
import Derived.Shelf.Utf8.RuneCount
import Derived.Shelf.Strings.Builder2Cap
import Derived.Shelf.Strconv.Atoi
import Derived.Shelf.Strconv.Itoa0
import Derived.Shelf.Strconv.Itoa1
import Derived.Shelf.LaysM
import Derived.Shelf.Strconv.Itoa2
import Derived.Shelf.Strconv.Itoa3
import Derived.Shelf.Strings.Search1
import Derived.Shelf.Strings.Search2
import Derived.Shelf.Strings.Search3
import Derived.Shelf.Strings.Cut
import Derived.Shelf.Strings.Count
import Derived.Shelf.Strings.Shaped
import Derived.Shelf.Sort.Plain
import Derived.Shelf.Strings.LastIndex
import Derived.Shelf.Strings.Prefix
import Derived.Shelf.Strings.Split
import Derived.Shelf.Strings.SplitShaped
import Derived.Shelf.Unicode.Decode
import Derived.Shelf.Strings.Runes
import Derived.Shelf.Strings.RuneCount
import Derived.Shelf.Strings.IndexAny
import Derived.Shelf.Strings.AsciiSet
import Derived.Shelf.Strings.IndexAnyAll
import Derived.Shelf.Strings.Explode
import Derived.Shelf.Bits.Mul64
import Derived.Shelf.Strings.Repeat
import Derived.Shelf.Unicode.DecodeSlow
import Derived.Shelf.Unicode.DecodeAny
import Derived.Shelf.Unicode.DecodeLast
import Derived.Shelf.Strings.BuilderCap
import Derived.Shelf.Slices.Turned
import Derived.Ground.Names2Prog
import Derived.Shelf.Slices.Clone
import Derived.Shelf.Slices.CompactS
import Derived.Shelf.Slices.Cells
import Derived.Shelf.Slices.In.SortNone
import Derived.Ground.SlgnProg
import Derived.Shelf.SlicesE.Clone
import Derived.Lib.Atoi
import Derived.Lib.ConvBytes
import Derived.Laws.CopyRow
set_option linter.unusedVariables false
set_option linter.unusedSimpArgs false
set_option linter.unusedSectionVars false
set_option maxRecDepth 100000
open List (all_append append_assoc append_nil dropWhile_cons drop_eq_getElem_cons drop_eq_nil_of_le getElem_mem length length_append length_cons length_drop length_map length_nil length_take map_append mem_cons_of_mem mem_cons_self mem_of_mem_take nil_append replicate take_length take_of_length_le take_succ_eq_append_getElem)
open Go.World (drew)
variable {n i j k:Nat}{s:List UInt8}{t:Go.TypeId}
open Go.IntKind (i64)
open Go.Proofs.Tryz
namespace Go.Pk
open Go.RowKit (Below)
open Go.Proofs
end Go.Pk
namespace Go.Proofs
open Go.Pk (Cf vS vI bW)
open Go.Shelf
open Go.RowKit in
def Tryz.lays156_ren:Go.Shelf.Ren:=⟨fun|156=>114|165=>206|166=>106|169=>107|240=>182|241=>288|276=>264|277=>332|n=>n,fun|31=>43|9=>9|3=>3|4=>4|0=>0|20=>20|72=>191|76=>196|70=>188|37=>189|75=>195|127=>262|164=>312|5=>5|80=>198|n=>n,fun|n=>n⟩
theorem Tryz.lays156:Go.Proofs.Lays.n156 prog Tryz.lays156_ren:=by constructor <;> intros <;> kernel_rfl
theorem Tryz.Builder_Extra_156:Builder.Extra prog Tryz.lays156_ren:= {
 sizeBuilder:=by kernel_rfl
 liesBuilder:=by kernel_rfl
 t5:=Tryz.underlying5
 a5:=Tryz.isAgg5
 z5:=Tryz.sizeOf5
 v5:=Tryz.zeroValue5
 infoByte:=by kernel_rfl
 cellsByte:=by kernel_rfl
 sizeByte:=by kernel_rfl
 neB5:=by decide }
open Go.RowKit in
theorem Tryz.strings_Join_none (a:Option Addr)(c:Nat)(sep:ByteArray)(w:World):
 Cf 114 #[.slice a 0 c,.string sep] w λe w'=>e=.returned (.string ⟨#[]⟩)/\w'=w:=Any.strings_Join_none Tryz.lays156 Tryz.Builder_Extra_156 a c sep w
open Go.RowKit in
theorem Tryz.strings_Join (y o c:Nat)(xs:List ByteArray)(sep:ByteArray)(w:World)(G:∀(j:Nat) x,xs[j]? =some x->w.cell? ⟨y,o+j,none⟩=some (.string x))(E:y<w.heap.size)(D:xs.length <=140737488355328)(F:xs.length <=c)(H:(Lib.join (xs.map (·.data.toList)) sep.data.toList).length <=140737488355328):
 Cf 114 #[.slice (some ⟨y,o,none⟩) xs.length c,.string sep] w λe w'=>e=.returned (.string ⟨(Lib.join (xs.map (·.data.toList)) sep.data.toList).toArray⟩)/\bW w w':=Any.strings_Join Tryz.lays156 Tryz.Builder_Extra_156 y o c xs sep w G E D F H
open Go.RowKit in
def Tryz.lays161_ren:Go.Shelf.Ren:=⟨fun|161=>155|231=>240|227=>238|233=>241|235=>242|228=>239|197=>308|151=>309|260=>340|152=>236|137=>135|119=>305|224=>306|225=>307|217=>221|266=>293|n=>n,fun|9=>9|4=>4|3=>3|5=>5|117=>298|116=>297|0=>0|124=>303|105=>339|21=>21|119=>396|46=>323|139=>399|138=>398|n=>n,fun|3=>1|4=>2|n=>n⟩
theorem Tryz.lays161:Go.Proofs.Lays.n161 prog Tryz.lays161_ren:=by constructor <;> intros <;> kernel_rfl
open Go.RowKit in
def Tryz.lays160_ren:Go.Shelf.Ren:=⟨fun|160=>235|232=>302|231=>240|227=>238|234=>303|233=>241|236=>304|235=>242|228=>239|271=>339|151=>309|197=>308|120=>372|152=>236|260=>340|137=>135|119=>305|224=>306|225=>307|217=>221|266=>293|n=>n,fun|9=>9|4=>4|3=>3|5=>5|117=>298|116=>297|0=>0|124=>303|21=>21|105=>339|46=>323|119=>396|139=>399|138=>398|n=>n,fun|3=>1|4=>2|n=>n⟩
theorem Tryz.lays160:Go.Proofs.Lays.n160 prog Tryz.lays160_ren:=by constructor <;> intros <;> kernel_rfl
open Go.RowKit in
def Tryz.lays119_ren:Go.Shelf.Ren:=⟨fun|119=>305|n=>n,fun|21=>21|4=>4|n=>n,fun|n=>n⟩
theorem Tryz.lays119:Go.Proofs.Lays.n119 prog Tryz.lays119_ren:=by constructor <;> intros <;> kernel_rfl
theorem Tryz.utf8_ValidRune (r:Int)(w:World):
 Cf 305 #[.int .i32 r] w λe w'=>e=.returned (.bool (Lib.validRune r))/\w'=w:=Any.utf8_ValidRune Tryz.lays119 r w
def Tryz.lays137_ren:Go.Shelf.Ren:=⟨fun|137=>135|217=>221|266=>293|n=>n,fun|9=>9|5=>5|3=>3|n=>n,fun|n=>n⟩
theorem Tryz.lays137:Go.Proofs.Lays.n137 prog Tryz.lays137_ren:=by constructor <;> intros <;> kernel_rfl
open Go.RowKit in
theorem Tryz.strings_IndexByte (s:ByteArray)(c:Int)(w:World):
 Cf 135 #[.string s,.int .u8 c] w λe w'=>e=.returned (vI (Lib.indexByte s.data.toList c.toNat.toUInt8))/\w'=w:=Any.strings_IndexByte Tryz.lays137 s c w
open Go.RowKit in
def Tryz.lays103_ren:Go.Shelf.Ren:=⟨fun|103=>148|210=>234|206=>98|n=>n,fun|9=>9|4=>4|24=>221|3=>3|n=>n,fun|n=>n⟩
theorem Tryz.lays103:Go.Proofs.Lays.n103 prog Tryz.lays103_ren:=by constructor <;> intros <;> kernel_rfl
open Go.RowKit in
theorem Tryz.strings_CutPrefix (s p:ByteArray)(w:World):
 Cf 148 #[.string s,.string p] w λe w'=>e=.returned (.tuple #[.string ⟨(Lib.trimPrefix s.data.toList p.data.toList).toArray⟩,.bool (Lib.hasPrefix s.data.toList p.data.toList)])/\w'=w:=Any.strings_CutPrefix Tryz.lays103 s p w
open Go.RowKit in
def Tryz.lays104_ren:Go.Shelf.Ren:=⟨fun|104=>194|211=>279|207=>301|n=>n,fun|9=>9|4=>4|24=>221|3=>3|n=>n,fun|n=>n⟩
theorem Tryz.lays104:Go.Proofs.Lays.n104 prog Tryz.lays104_ren:=by constructor <;> intros <;> kernel_rfl
open Go.RowKit in
theorem Tryz.strings_CutSuffix (s p:ByteArray)(w:World)(y:s.size <=9223372036854775807):
 Cf 194 #[.string s,.string p] w λe w'=>e=.returned (.tuple #[.string ⟨(Lib.trimSuffix s.data.toList p.data.toList).toArray⟩,.bool (Lib.hasSuffix s.data.toList p.data.toList)])/\w'=w:=Any.strings_CutSuffix Tryz.lays104 s p w y
open Go.RowKit in
open Go.Lib in
open Go.RowKit Go.Sort Go.Lib in
def Tryz.laysM171_ren:Go.Shelf.Ren:=⟨fun|171=>202|243=>286|246=>330|283=>364|284=>365|285=>366|286=>367|129=>354|317=>384|318=>385|319=>386|320=>387|337=>392|338=>393|n=>n,fun|3=>3|9=>9|2=>2|4=>4|171=>388|0=>0|53=>325|37=>189|5=>5|173=>390|212=>409|51=>380|20=>20|213=>410|46=>323|232=>421|233=>422|n=>n,fun|17=>3|18=>4|19=>5|n=>n⟩
theorem Tryz.laysM171:Go.Proofs.LaysM.n171 prog Tryz.laysM171_ren:=by constructor <;> first|(intros;kernel_rfl)|(constructor <;> intros <;> kernel_rfl)
open Go.RowKit Go.Sort Go.Lib in
theorem Tryz.strconv_Itoa (n:Int)(y: -9223372036854775808 <=n)(h1:n <=9223372036854775807)(w:World)(D:Lib.TabIs prog w "internal/strconv.uint64pow10" .u64 Lib.pow10Tab):
 Cf 202 #[vI n] w λe w'=>e=.returned (.string ⟨(Lib.itoa n).toArray⟩)/\∃k os,w'=grow (w.drewN k) os:=Any.strconv_Itoa Tryz.laysM171 n y h1 w D
open Go.RowKit Go.Sort Go.Lib in
open Go.RowKit Go.Lib in
def Tryz.lays145_ren:Go.Shelf.Ren:=⟨fun|145=>176|220=>260|219=>320|217=>221|225=>307|224=>306|267=>355|266=>293|314=>379|n=>n,fun|9=>9|4=>4|59=>256|3=>3|5=>5|46=>323|146=>392|51=>380|n=>n,fun|1=>0|n=>n⟩
theorem Tryz.lays145:Go.Proofs.Lays.n145 prog Tryz.lays145_ren:=by constructor <;> intros <;> kernel_rfl
open Go.RowKit Go.Lib in
theorem Tryz.strings_Cut (s sep:ByteArray)(m:Int)(w:World)(D:s.size<4294967281)(y:w.cell? ⟨0,0,none⟩=some (vI m)):
 Cf 176 #[.string s,.string sep] w λe w'=>e=.returned (.tuple #[.string ⟨(Lib.cut s.data.toList sep.data.toList).1.toArray⟩,.string ⟨(Lib.cut s.data.toList sep.data.toList).2.1.toArray⟩,.bool (Lib.cut s.data.toList sep.data.toList).2.2])/\∃n,w'=w.drewN n:=Any.strings_Cut Tryz.lays145 s sep m w D y
open Go.RowKit Go.Lib in
def Tryz.lays190_ren:Go.Shelf.Ren:=⟨fun|190=>253|125=>317|258=>316|128=>353|129=>354|302=>344|303=>345|304=>346|305=>347|306=>348|307=>349|308=>350|309=>351|310=>352|333=>373|329=>374|330=>375|334=>376|335=>377|336=>378|344=>388|n=>n,fun|31=>43|9=>9|3=>3|46=>323|0=>0|51=>380|53=>325|4=>4|183=>374|182=>373|131=>208|5=>5|218=>400|222=>404|228=>411|229=>276|n=>n,fun|n=>n⟩
theorem Tryz.lays190:Go.Proofs.Lays.n190 prog Tryz.lays190_ren:=by constructor <;> intros <;> kernel_rfl
open Go.Sort Go.RowKit in
theorem Tryz.slices_Sort_string (y off cap:Nat)(D:List (List UInt8))(w:World)(E:Holds encStr w y off D.toArray)(F:y<w.heap.size)(G:D.length<4611686018427387904):
 Cf 253 #[.slice (some ⟨y,off,none⟩) D.length cap] w λe w'=>
  e=.returned (.tuple #[])/\∃n os,w'=grow (putRow encStr (Sort.ahead w n) y off (D.mergeSort λx H=>decide (x <=H)).toArray) os:=Any.slices_Sort_string Tryz.lays190 y off cap D w E F G
open Go.RowKit Go.Lib in
def Tryz.lays99_ren:Go.Shelf.Ren:=⟨fun|99=>52|206=>98|n=>n,fun|9=>9|4=>4|3=>3|n=>n,fun|n=>n⟩
theorem Tryz.lays99:Go.Proofs.Lays.n99 prog Tryz.lays99_ren:=by constructor <;> intros <;> kernel_rfl
open Go.RowKit Go.Lib in
theorem Tryz.strings_HasPrefix (s p:ByteArray)(w:World):
 Cf 52 #[.string s,.string p] w λe w'=>e=.returned (.bool (Lib.hasPrefix s.data.toList p.data.toList))/\w'=w:=Any.strings_HasPrefix Tryz.lays99 s p w
open Go.RowKit Go.Lib in
def Tryz.lays102_ren:Go.Shelf.Ren:=⟨fun|102=>145|209=>232|207=>301|n=>n,fun|9=>9|4=>4|3=>3|n=>n,fun|n=>n⟩
theorem Tryz.lays102:Go.Proofs.Lays.n102 prog Tryz.lays102_ren:=by constructor <;> intros <;> kernel_rfl
open Go.RowKit Go.Lib in
theorem Tryz.strings_TrimSuffix (s p:ByteArray)(w:World)(y:s.size <=9223372036854775807):
 Cf 145 #[.string s,.string p] w λe w'=>e=.returned (.string ⟨(Lib.trimSuffix s.data.toList p.data.toList).toArray⟩)/\w'=w:=Any.strings_TrimSuffix Tryz.lays102 s p w y
open Go.RowKit Go.Lib in
def Tryz.lays146_ren:Go.Shelf.Ren:=⟨fun|146=>231|221=>300|268=>336|138=>337|143=>338|195=>370|197=>308|218=>371|219=>320|260=>340|217=>221|225=>307|224=>306|267=>355|266=>293|314=>379|n=>n,fun|9=>9|31=>43|3=>3|4=>4|0=>0|105=>339|21=>21|5=>5|46=>323|119=>396|139=>399|138=>398|146=>392|51=>380|n=>n,fun|1=>0|3=>1|4=>2|n=>n⟩
theorem Tryz.lays146:Go.Proofs.Lays.n146 prog Tryz.lays146_ren:=by constructor <;> intros <;> kernel_rfl
open Go.RowKit Go.Lib in
theorem Tryz.strings_Split (s sep:ByteArray)(m:Int)(w:World)(D:s.size<4294967281)(y:w.cell? ⟨0,0,none⟩=some (vI m))(h1:1 <=sep.size):
 Cf 231 #[.string s,.string sep] w λe w'=>
  e=.returned (.slice (some ⟨w.heap.size,0,none⟩) (Lib.countB s sep+1) (Lib.countB s sep+1))/\w'=w.alloc (.cells ((Lib.splitB sep 0 (Lib.countB s sep) s).map Value.string).toArray 9):=Any.strings_Split Tryz.lays146 (by kernel_rfl) s sep m w D y h1
open Go.RowKit Go.Lib in
def Tryz.lays152_ren:Go.Shelf.Ren:=⟨fun|152=>236|137=>135|119=>305|224=>306|225=>307|217=>221|266=>293|n=>n,fun|9=>9|21=>21|3=>3|4=>4|5=>5|0=>0|46=>323|n=>n,fun|n=>n⟩
theorem Tryz.lays152:Go.Proofs.Lays.n152 prog Tryz.lays152_ren:=by constructor <;> intros <;> kernel_rfl
open Go.RowKit Go.Lib in
theorem Tryz.strings_IndexRune_ascii (s:ByteArray)(r:Int)(w:World)(y:0 <=r)(h1:r<128):
 Cf 236 #[.string s,.int .i32 r] w λe w'=>e=.returned (vI (Lib.indexByte s.data.toList r.toNat.toUInt8))/\w'=w:=Any.strings_IndexRune_ascii Tryz.lays152 s r w y h1
open Go.RowKit Go.Lib in
def Tryz.lays226_ren:Go.Shelf.Ren:=⟨fun|226=>237|n=>n,fun|3=>3|4=>4|n=>n,fun|n=>n⟩
theorem Tryz.lays226:Go.Proofs.Lays.n226 prog Tryz.lays226_ren:=by constructor <;> intros <;> kernel_rfl
open Go.RowKit Go.Lib in
theorem Tryz.strings_shouldUseASCIISet (n:Int)(w:World):
 Cf 237 #[vI n] w λe w'=>e=.returned (.bool (decide (8<n)))/\w'=w:=Any.strings_shouldUseASCIISet Tryz.lays226 n w
def Tryz.lays153_ren:Go.Shelf.Ren:=⟨fun|153=>153|152=>236|226=>237|227=>238|228=>239|137=>135|119=>305|224=>306|225=>307|217=>221|266=>293|n=>n,fun|9=>9|3=>3|4=>4|5=>5|21=>21|117=>298|116=>297|0=>0|46=>323|124=>303|n=>n,fun|n=>n⟩
theorem Tryz.lays153:Go.Proofs.Lays.n153 prog Tryz.lays153_ren:=by constructor <;> intros <;> kernel_rfl
open Go.RowKit Go.Lib in
theorem Tryz.strings_IndexAny_long (I:∀w,(zeroValue 297).run prog w=.ok (.agg (Array.replicate 256 (.bool false))) w)(s y:ByteArray)(w:World)(D:2 <=y.size)(E:8<s.size)(H:s.size<4294967281)(G:y.size<4294967281)(F:∀(j:Nat) b,y.data.toList[j]? =some b->b.toNat<128):
 Cf 153 #[.string s,.string y] w λe w'=>e=.returned (vI (Lib.indexAny s.data.toList y.data.toList))/\w'=((w.alloc (.cells (Lib.setCells y.data.toList) 297)).alloc (.cells (Lib.setCells y.data.toList) 297)):=Any.strings_IndexAny_long Tryz.lays153 I (by kernel_rfl) s y w D E H G F
open Go.RowKit Go.Lib in
open Go.Lib in
def Tryz.lays109_ren:Go.Shelf.Ren:=⟨fun|109=>149|n=>n,fun|31=>43|9=>9|3=>3|0=>0|4=>4|n=>n,fun|n=>n⟩
theorem Tryz.lays109:Go.Proofs.Lays.n109 prog Tryz.lays109_ren:=by constructor <;> intros <;> kernel_rfl
open Go.Lib in
theorem Tryz.slices_Index_string (b off n c:Nat)(zs:List ByteArray)(x:ByteArray)(w:World)(E:n <=zs.length)(y:n <=9223372036854775807)(D:∀j,j<zs.length->w.cell? ⟨b,off+j,none⟩=some (.string (zs.getD j ByteArray.empty))):
 Cf 149 #[.slice (some ⟨b,off,none⟩) n c,.string x] w λe w'=>e=.returned (vI (Lib.idxOfS (zs.take n) x))/\w'=w:=Any.slices_Index_string Tryz.lays109 b off n c zs x w E y D
open Go.Lib in
def Tryz.lays110_ren:Go.Shelf.Ren:=⟨fun|110=>233|109=>149|n=>n,fun|31=>43|9=>9|4=>4|3=>3|0=>0|n=>n,fun|n=>n⟩
theorem Tryz.lays110:Go.Proofs.Lays.n110 prog Tryz.lays110_ren:=by constructor <;> intros <;> kernel_rfl
open Go.Lib in
theorem Tryz.slices_Contains_string (b off n c:Nat)(zs:List ByteArray)(x:ByteArray)(w:World)(E:n <=zs.length)(y:n <=9223372036854775807)(D:∀j,j<zs.length->w.cell? ⟨b,off+j,none⟩=some (.string (zs.getD j ByteArray.empty))):
 Cf 233 #[.slice (some ⟨b,off,none⟩) n c,.string x] w λe w'=>e=.returned (.bool (Lib.containsS (zs.take n) x))/\w'=w:=Any.slices_Contains_string Tryz.lays110 b off n c zs x w E y D
open Go.Lib in
theorem Tryz.slices_Contains_string_empty (a:Option Addr)(c:Nat)(x:ByteArray)(w:World):
 Cf 233 #[.slice a 0 c,.string x] w λe w'=>e=.returned (.bool false)/\w'=w:=Any.slices_Contains_string_empty Tryz.lays110 a c x w
def Tryz.laysNm216_ren:Go.Shelf.Ren:=⟨fun|16=>146|n=>n,fun|24=>43|9=>9|4=>4|n=>n,fun|n=>n⟩
theorem Tryz.laysNm216:Go.Proofs.Lays2.n16 prog Tryz.laysNm216_ren:=by constructor <;> intros <;> kernel_rfl
open Go.RowKit Go.Lib in
theorem Tryz.slices_Clone_string (b off n c:Nat)(zs:List ByteArray)(w:World)(E:n <=zs.length)(y:n*16 <=140737488355328)(D:∀j,j<zs.length->w.cell? ⟨b,off+j,none⟩=some (.string (zs.getD j ByteArray.empty))):
 Cf 146 #[.slice (some ⟨b,off,none⟩) n c] w λe w'=>∃v',e=.returned v'/\w'.ownsRow w.heap.size 9 1 v' n ((zs.take n).map (Value.string))/\v'≠.slice none 0 0/\bW w w':=Any.slices_Clone_string Tryz.laysNm216 b off n c zs w E y D
open Go.RowKit Go.Lib in
theorem Tryz.slices_Clone_string_nil (n c:Nat)(w:World):
 Cf 146 #[.slice none n c] w λe w'=>e=.returned (.slice none 0 0)/\w'=w:=Any.slices_Clone_string_nil Tryz.laysNm216 n c w
open Go.RowKit Go.Lib in
theorem Tryz.slices_Clone_string_zero (a:Addr)(c:Nat)(w:World):
 Cf 146 #[.slice (some a) 0 c] w λe w'=>∃v',e=.returned v'/\w'.ownsRow w.heap.size 9 1 v' 0 []/\v'≠.slice none 0 0/\bW w w':=Any.slices_Clone_string_zero Tryz.laysNm216 a c w
def Tryz.lays194_ren:Go.Shelf.Ren:=⟨fun|194=>161|n=>n,fun|31=>43|9=>9|3=>3|4=>4|0=>0|n=>n,fun|n=>n⟩
theorem Tryz.lays194:Go.Proofs.Lays.n194 prog Tryz.lays194_ren:=by constructor <;> intros <;> kernel_rfl
open Go.RowKit Go.Lib Go.Sort in
theorem Tryz.slices_Compact_string (y off cap:Nat)(zs:List (List UInt8))(w:World)(D:Holds encStr w y off zs.toArray)(F:zs.length <=9223372036854775807)(E:zs.length <=cap):
 Cf 161 #[.slice (some ⟨y,off,none⟩) zs.length cap] w λe w'=>e=.returned (.slice (some ⟨y,off,none⟩) (Lib.compact zs).length cap)/\∃q,w'=putRow encStr (Sort.ahead w q) y off (Lib.compact zs++List.replicate (zs.length-(Lib.compact zs).length) []).toArray:=Any.slices_Compact_string Tryz.lays194 y off cap zs w D F E
open Go.RowKit Go.Lib Go.Sort in
theorem Tryz.slices_Compact_string_empty (a:Option Addr)(cap:Nat)(w:World):
 Cf 161 #[.slice a 0 cap] w λe w'=>e=.returned (.slice a 0 cap)/\w'=w:=Any.slices_Compact_string_empty Tryz.lays194 a cap w
open Go.RowKit Go.Lib Go.Sort in
open Go.RowKit Go.Sort in
theorem Tryz.slices_Sort_string_none (p:Option Addr)(cap:Nat)(w:World):
 Cf 253 #[.slice p 0 cap] w λe w'=>e=.returned (.tuple #[])/\w'=w:=Any.slices_Sort_string_none Tryz.lays190 p cap w
open Go.RowKit Go.Lib in
open Go.RowKit in
theorem Tryz.strings_TrimLeft_laid (s y:ByteArray)(w:World)(E:y.size<4294967281)(D:∀(j:Nat) b,y.data.toList[j]? =some b->b.toNat<128):
 Cf 155 #[.string s,.string y] w λe w'=>e=.returned (.string ⟨(Lib.trimLeftS s.data.toList y.data.toList).toArray⟩)/\bW w w':=
 Any.strings_TrimLeft_laid Tryz.lays161 (by kernel_rfl) s y w E D
open Go.RowKit in
theorem Tryz.strings_Trim_laid (s y:ByteArray)(w:World)(F:s.size <=9223372036854775807)(E:y.size<4294967281)(D:∀(j:Nat) b,y.data.toList[j]? =some b->b.toNat<128):
 Cf 235 #[.string s,.string y] w λe w'=>e=.returned (.string ⟨(Lib.trimS s.data.toList y.data.toList).toArray⟩)/\bW w w':=
 Any.strings_Trim_laid Tryz.lays160 (by kernel_rfl) s y w F E D
end Go.Proofs
namespace Go.Pk
open Go.RowKit (Below)
open Go.Proofs
def PN (n:Int):Prop:=n=9\/(32 <=n/\n <=47)\/(59 <=n/\n <=64)\/(91 <=n/\n <=96)\/(123 <=n/\n <=126)
instance  (n:Int):Decidable (PN n):=by unfold PN;infer_instance
def vJ (c:UInt8):Bool:=decide (48 <=c)&&decide (c <=57)
def Tm (s:lU):lU:=s.takeWhile vJ
def mJ (l:lU):Int:=l.foldl (λn c=>n*10+((c.toNat:Int)-48)) 0
theorem J4:∀n,n<256->([48,49,50,51,52,53,54,55,56,57]:lU).contains (UInt8.ofNat n)=vJ (UInt8.ofNat n):=by decide+kernel
theorem Ut (c:UInt8):([48,49,50,51,52,53,54,55,56,57]:lU).contains c=vJ c:=by
 have:=J4 c.toNat (by have:=c.toNat_lt;omega)
 rwa [UInt8.ofNat_toNat]at this
theorem Bp {c:UInt8} :vJ c=true↔48 <=c.toNat/\c.toNat <=57:=by
 unfold vJ;rw[Bool.and_eq_true,dTx,dTx,UInt8.le_iff_toNat_le,UInt8.le_iff_toNat_le];exact Iff.rfl
def UZ:lU:=[74,97,110,70,101,98,77,97,114,65,112,114,77,97,121,74,117,110,74,117,108,65,117,103,83,101,112,79,99,116,78,111,118,68,101,99]
def UY (k:Nat):lU:=eF ((UZ.take (3*k+3)).drop (3*k))
def IQ (s:lU):Nat->Nat->Int
 |0,_=>0
 |f+1,k=>if 3 <=s.length/\eF (s.take 3)=UY k then(k:Int)+1 else IQ s f (k+1)
def Tt (s:lU):Int:=IQ s 12 0
def YI (i:Nat)(s:lU):Option lU:=if i=0 then some s else if s.head?=some 58 then some (s.drop 1)else none
def Zt (i:Nat)(s:lU):Option (Int×lU):=(YI i s).bind λt=>if 1 <=(Tm t).length/\(Tm t).length <=2 then some (mJ (Tm t),t.drop (Tm t).length)else none
def H2:Nat->Nat->lU->Option (List Int)
 |0,_,_=>some []
 |f+1,i,s=>(Zt i s).bind λp=>(H2 f (i+1) p.2).map (p.1:: ·)
def Ww (s:lU):Option (List Int):=H2 3 0 s
structure Fnd where
 time:Bool
 day:Bool
 month:Bool
 year:Bool
 s0:Int
 s1:Int
 s2:Int
 y:Int
 m:Int
 d:Int
def Fnd.cells (f:Fnd):List Value:=[.bool f.time,.bool f.day,.bool f.month,.bool f.year,vI f.s0,vI f.s1,vI f.s2,vI f.y,vI f.m,vI f.d]
def Xj (s:lU)(least most:Int):Bool:=decide (least <=((Tm s).length:Int)/\((Tm s).length:Int) <=most)
def qao (f:Fnd)(s:lU):Fnd:=
 match Ww s,f.time with
 |some [a,b,c],false=> { f with s0:=a,s1:=b,s2:=c,time:=true }
 |_,_=>if Xj s 1 2=true/\f.day=false then{ f with d:=mJ (Tm s),day:=true }
  else if 0<Tt s/\f.month=false then{ f with m:=Tt s,month:=true }
  else if Xj s 2 4=true/\f.year=false then{ f with y:=mJ (Tm s),year:=true } else f
theorem NO (k o:Nat):Option.map (fun(x:Addr)=>x.add o) (some ⟨k,0,none⟩)=some ⟨k,o,none⟩:=by
 simp[gQ]
def WX (c:UInt8):Bool:=decide (PN (c.toNat:Int))
def YK:lU->lU->List lU
 |cur,[]=>[cur]
 |cur,c::r=>if WX c then cur::YK [] r else YK (cur++[c]) r
def Z1:Fnd:=⟨false,false,false,false,0,0,0,0,0,0⟩
def XV (s:lU):Fnd:=(YK [] s).foldl qao Z1
def WL (y:Int):Int:=if 70 <=y/\y <=99 then y+1900 else if y<70 then y+2000 else y
def Um (f:Fnd):Prop:=Pd (WL f.y) f.m f.d/\f.time=true/\f.year=true/\f.s0 <=23/\f.s1 <=59/\f.s2 <=59
instance  (f:Fnd):Decidable (Um f):=by unfold Um;infer_instance
def YJ (f:Fnd):Int:=Wz (WL f.y) f.m f.d*86400+f.s0*3600+f.s1*60+f.s2
theorem sE:∀(l:lU) (y:Int),0 <=y->(∀c∈l,vJ c=true)->0 <=l.foldl (λn c=>n*10+((c.toNat:Int)-48)) y/\l.foldl (λn c=>n*10+((c.toNat:Int)-48)) y<(y+1)*10 ^ l.length
 |[],y,h,_=>by simp;omega
 |c::l,y,h,D=>by
  have G:=Bp.1 (D c mem_cons_self);obtain⟨h1,E⟩:=sE l (y*10+((c.toNat:Int)-48)) (by omega) λx F=>D x (mem_cons_of_mem _ F);rw[List.foldl_cons];refine⟨h1,Int.lt_of_lt_of_le E ?_⟩;rw[length_cons,Int.pow_succ,Int.mul_comm (10 ^ l.length) 10,<- Int.mul_assoc];exact Int.mul_le_mul_of_nonneg_right (by omega) (Int.pow_nonneg (by decide))
theorem Su {a b:Nat}(h:a <=b):(10:Int) ^ a <=10 ^ b:=by
 have:=Nat.pow_le_pow_right (n:=10) (by decide) h;have e:∀k:Nat,((10 ^ k:Nat):Int)=10 ^ k:=λk=>by simp
 rw[<- e,<- e];omega
theorem Us (h:k<s.length):vJ s[k]=true↔48 <=aU s (k:Int)/\aU s (k:Int) <=57:=by
 rw[iq (i:=(k:Int)) (by simpa using h),Bp];simp only[Int.toNat_natCast];omega
theorem Ot (l:lU)(c:UInt8):mJ (l++[c])=mJ l*10+((c.toNat:Int)-48):=by unfold mJ;rw[List.foldl_append];rfl
theorem nC (s:lU)(Y:s.length <=9223372036854775800)(w:World):Cf jo #[vS s] w (Ret λv w'=>v=vS (eF s)/\bW w w'):=by
 apply B8;refine⟨λm o i w'=>∃k:Nat,k <=s.length/\i=(k:Int)/\o=eF (s.take k)/\m=s.length-k/\bW w w',⟨_,0,by omega,rfl,rfl,rfl,Below.refl _ _⟩,?_⟩;intro m o i;refine aP.of ?_ _;rintro R ⟨k,V,rfl,rfl,rfl,F⟩;refine ab.of (λh=>?_) (λh=>?_)<;>simp only[dTx,dFx]at h
 ·have G:k<s.length:=by omega
  have y:=LJ s[k];have Z:=ov s[k];rw[iq (i:=(k:Int)) (by simpa using G)];simp only[Int.toNat_natCast];refine⟨⟨by omega,h⟩,WW (w:=R) ((Da s[k]).toNat:Nat) ?_ ?_⟩
  ·refine ab.of (λD=>?_) (λD=>?_)<;>simp only[ge_iff_le,dTx,dFx]at D
   ·refine ab.of (λE=>?_) (λE=>?_)<;>simp only[ge_iff_le,dTx,dFx]at E
    ·rw[if_pos ⟨D,E⟩]at y;exact⟨rfl,by rw[wrap_u8 (by omega) (by omega),y]⟩
    ·rw[if_neg (λe=>E e.2)]at y;exact⟨rfl,y.symm⟩
   ·rw[if_neg (λe=>D e.1)]at y;exact⟨rfl,y.symm⟩
  ·intro O U I H;have M:Ow tU8 bc U NoB (some ⟨O,0,none⟩) 1 1 [Da s[k]]:=Ow.newF nu I H (jc.one (pW rfl)) (show 1 <=maxLen by decide);have J:(eF (s.take k)).length=k:=by simp[eF];omega
   refine⟨_,mC bH aI cr M.all,by rw[J];simp[IntKind.max,IntKind.bits];omega,?_⟩;rintro _ rfl;refine⟨s.length-(k+1),by omega,k+1,by omega,by rw[wrJ];omega,?_,rfl,ae F (H▸ar _ _) F.size⟩;unfold eF;rw[take_succ_eq_append_getElem G,map_append];rfl
 ·have:k=s.length:=by omega
  subst this;rw[take_length];exact⟨rfl,F⟩
theorem JV (w:World)(k:Nat)(y:Array Obj):bW w (Go.Sort.grow (w.drewN k) y):=by
 refine sK rfl rfl rfl (by simp[Go.Sort.grow,World.drewN]) λj D=>?_;show(w.heap++y)[j]? =_;rw[Array.getElem?_append_left D]
abbrev Wm (P:Program)(w:World):Prop:=Lib.TabIs P w "internal/strconv.uint64pow10" .u64 Lib.pow10Tab
def stripR (p:UInt8->Bool)(s:lU):lU:=(s.reverse.dropWhile p).reverse
def rW (p:UInt8->Bool)(s:lU):lU:=stripR p (s.dropWhile p)
theorem CD (p:UInt8->Bool)(s:lU)(x:UInt8):stripR p (s++[x])=if p x then stripR p s else s++[x]:=by
 unfold stripR;rw[List.reverse_append];show(List.dropWhile p (x::s.reverse)).reverse=_;rw[dropWhile_cons];split<;>simp
theorem ve (p:UInt8->Bool)(x:UInt8)(s:lU):stripR p (x::s)=if stripR p s=[]then(if p x then[]else[x])else x::stripR p s:=by
 unfold stripR;rw[List.reverse_cons];have key:∀t:lU,List.dropWhile p (t++[x])=if List.dropWhile p t=[]then(if p x then[]else[x])else List.dropWhile p t++[x]:=by
  intro t;induction t with
  |nil=>simp[dropWhile_cons]
  |cons E t D=>
   rw[List.cons_append,dropWhile_cons,dropWhile_cons];split
   ·exact D
   ·rw[if_neg (by simp)];rfl
 rw[key];by_cases h:List.dropWhile p s.reverse=[]
 ·have y:(List.dropWhile p s.reverse).reverse=[]:=by rw[h];rfl
  rw[if_pos h,if_pos y];split<;>rfl
 ·have y: ¬ (List.dropWhile p s.reverse).reverse=[]:=by simpa using h
  rw[if_neg h,if_neg y];simp
theorem Ff (p:UInt8->Bool):∀s:lU,(stripR p s).dropWhile p=rW p s
 |[]=>rfl
 |x::s=>by
  have F:=Ff p s;unfold rW at F ⊢;cases y:p x with
  |true=>
   have E:List.dropWhile p (x::s)=List.dropWhile p s:=by rw[dropWhile_cons,if_pos y]
   rw[E,<- F,ve];by_cases h:stripR p s=[]
   ·rw[if_pos h,if_pos y,h]
   ·rw[if_neg h,dropWhile_cons,if_pos y]
  |false=>
   have D: ¬ p x=true:=by rw[y];decide
   have E:List.dropWhile p (x::s)=x::s:=by rw[dropWhile_cons,if_neg D]
   rw[E,ve];by_cases h:stripR p s=[]
   ·rw[if_pos h,if_neg D,dropWhile_cons,if_neg D]
   ·rw[if_neg h,dropWhile_cons,if_neg D]
theorem tF (p:UInt8->Bool):∀s:lU,stripR p s=[]↔s.all p=true
 |[]=>by simp[stripR]
 |x::s=>by
  have y:=tF p s;rw[ve,List.all_cons,Bool.and_eq_true,<- y];by_cases h:stripR p s=[]
  ·rw[if_pos h];cases p x<;>simp[h]
  ·rw[if_neg h];simp[h]
theorem tE (p:UInt8->Bool):∀s:lU,rW p s=[]↔s.all p=true
 |[]=>by simp[rW,stripR]
 |x::s=>by
  unfold rW;rw[dropWhile_cons];cases y:p x with
  |true=>rw[if_pos rfl,List.all_cons,y,Bool.true_and];exact tE p s
  |false=>rw[if_neg (by decide),tF]
theorem Nh (p:UInt8->Bool)(s:lU):(rW p s).length <=s.length:=by
 unfold rW stripR;rw[List.length_reverse];have h1:=(List.dropWhile_sublist p (l:=(s.dropWhile p).reverse)).length_le;have y:=(List.dropWhile_sublist p (l:=s)).length_le;rw[List.length_reverse]at h1;omega
theorem CN (s cs:lU):Lib.trimS s cs=rW (cs.contains ·) s:=Ff _ s
def pU (c:UInt8):Bool:=c==32 || c==9
def trimB (s:lU):lU:=rW pU s
theorem Mr:∀n,n<256->([32,9]:lU).contains (UInt8.ofNat n)=pU (UInt8.ofNat n):=by decide+kernel
theorem Wu (c:UInt8):([32,9]:lU).contains c=pU c:=by
 have:=Mr c.toNat (by have:=c.toNat_lt;omega)
 rwa [UInt8.ofNat_toNat]at this
theorem VN (s:lU):Lib.trimS s [32,9]=trimB s:=by
 rw[CN];unfold trimB;congr 1;exact funext Wu
def hZ (s:lU):Bool:= !(s==[])&&s.all vJ
theorem KL (s:lU):(Lib.trimS s [48,49,50,51,52,53,54,55,56,57]==[])=s.all vJ:=by
 rw[CN];have e:(λx=>([48,49,50,51,52,53,54,55,56,57]:lU).contains x)=vJ:=funext Ut;rw[e,Bool.eq_iff_iff,beq_iff_eq,tE]
def Ae (s:lU):Prop:=hZ s=true/\s.length <=18/\ ¬ (s.head?=some 48/\1<s.length)
instance  (s:lU):Decidable (Ae s):=by unfold Ae;infer_instance
theorem Gs (s:lU)(D:s.length <=9223372036854775807)(w:World):Cf qV #[vS s] w (Ret λv w'=>v=vS (trimB s)/\bW w w'):=by
 apply DO;refine(Tryz.strings_Trim_laid (mkS s) (mkS [32,9]) w D (by decide) (ascii_of_all (by decide))).mono ?_;rintro _ E ⟨rfl,y⟩;have e:Lib.trimS (mkS s).data.toList (mkS [32,9]).data.toList=trimB s:=VN s;rw[e];exact⟨_,rfl,rfl,y⟩
theorem rF (s:lU)(D:s.length <=9223372036854775807)(w:World):Cf j7 #[vS s] w (Ret λv w'=>v=.bool (hZ s)/\bW w w'):=by
 apply zy;unfold hZ;refine ab.of (λh=>?_) (λh=>?_)
 ·refine⟨⟨by decide,by decide⟩,?_⟩;rintro _ rfl;refine(Tryz.strings_Trim_laid (mkS s) (mkS [48,49,50,51,52,53,54,55,56,57]) w D (by decide) (ascii_of_all (by decide))).mono ?_;rintro _ E ⟨rfl,y⟩;refine⟨_,rfl,?_,y⟩;have e:=KL s;rw[h,Bool.true_and,<- e];rfl
 ·rw[h];exact⟨rfl,Below.refl _ _⟩
theorem rG (s:lU)(bk:s.length <=9223372036854775000)(w:World):
 Cf j8 #[vS s] w (Ret λv w'=>v=(if Ae s then .tuple #[vI (mJ s),.bool true]else .tuple #[vI 0,.bool false])/\bW w w'):=by
 apply zz;have H:∀{w':World},¬ Ae s->bW w w'->(.tuple #[vI 0,.bool false]:Value)=(if Ae s then .tuple #[vI (mJ s),.bool true]else .tuple #[vI 0,.bool false])/\bW w w':=λG D=>⟨by rw[if_neg G],D⟩
 refine iV (λw'=>Ae s/\bW w w') ?_ ?_
 ·refine aK (rF s (by omega) w) ?_;rintro _ Z ⟨rfl,D⟩;refine⟨_,rfl,?_⟩;refine ab.of (λh=>?_) (λh=>?_)<;>simp only[Bool.not_eq_true',Bool.not_eq_false']at h
  ·exact H (λy=>by rw[y.1]at h;cases h) D
  refine ab.of (λO=>?_) (λO=>?_)<;>simp only[gt_iff_lt,dTx,dFx]at O
  ·exact H (λy=>by have:=y.2.1;omega) D
  have ag:s≠[]:=λe=>by rw[e]at h;cases h
  match s,ag with
  |c::r,_=>
   have a0:aU (c::r) 0=((c.toNat:Nat):Int):=rfl;rw[a0];refine⟨⟨by decide,by simp only[length_cons];omega⟩,?_⟩;refine ab.of (λI=>?_) (λI=>?_)
   ·have y:c=48:=yR (by simpa using I);refine ab.of (λR=>?_) (λR=>?_)<;>simp only[gt_iff_lt,dTx,dFx]at R
    ·exact H (λE=>E.2.2 ⟨by rw[y];rfl,by omega⟩) D
    ·exact⟨⟨h,by omega,λE=>by omega⟩,D⟩
   ·have y:c≠48:=λe=>by subst e;cases I
    exact⟨⟨h,by omega,λE=>y (by simpa using E.1)⟩,D⟩
 ·rintro Z ⟨G,D⟩;rw[if_pos G];obtain⟨J,be,_⟩:=G;have U:∀c∈s,vJ c=true:=λc y=>by
   unfold hZ at J;rw[Bool.and_eq_true]at J;exact List.all_eq_true.1 J.2 c y
  obtain⟨aa,a,n,c,an,M,ad,a9⟩:=oI aI bH cr Z s (by omega) NoB;have aj:=M.len;subst aj;have ac:=ae D ad D.size;refine⟨aa,a,_,c,an,?_⟩;refine⟨λm n i w'=>∃k:Nat,k <=s.length/\i=(k:Int)/\n=mJ (s.take k)/\m=s.length-k/\w'=aa,⟨_,0,by omega,rfl,rfl,rfl,rfl⟩,?_⟩;intro m n i;refine aP.of ?_ _;rintro w' ⟨k,bb,rfl,rfl,rfl,rfl⟩;refine ab.of (λh=>?_) (λh=>?_)<;>simp only[dTx,dFx]at h
  ·have F:k<s.length:=by omega
   have y:=Bp.1 (U s[k] (getElem_mem F));have V:=sE (s.take k) 0 (by decide) λc y=>U c (mem_of_mem_take y);have hp:(10:Int) ^ (s.take k).length <=10 ^ 17:=Su (by rw[length_take];omega);have a8:(10:Int) ^ 17=100000000000000000:=by decide
   have hV:(s.take k).foldl (λn c=>n*10+((c.toNat:Int)-48)) 0=mJ (s.take k):=rfl;rw[hV]at V;have af:=V.2;rw[Int.zero_add,Int.one_mul]at af;obtain⟨v,Y,av⟩:=M.all.load1 (i:=(k:Int)) cr rfl rfl (by simpa using F);have:=CP av;subst this;simp only[Int.toNat_natCast]at Y;refine⟨⟨⟨by omega,h⟩,M.all.isSome F⟩,_,Y,s.length-(k+1),by omega,k+1,by omega,by rw[wrJ];omega,?_,rfl,rfl⟩;rw[take_succ_eq_append_getElem F,Ot,wrJ (n:=10*mJ (s.take k)),wrap_u8 (n:=((s[k].toNat:Nat):Int)-48) (by omega) (by omega),wrJ (n:=((s[k].toNat:Nat):Int)-48),wrJ];omega
  ·have:k=s.length:=by omega
   subst this;rw[take_length];exact⟨rfl,ac⟩
theorem eH (s:lU)(c:UInt8)(O:s.length<4294967281)(w:World)(H:Env w):
 Cf ec #[vS s,.int .u8 ((c.toNat:Nat):Int)] w (Ret λv w'=>∃a n E,v=.slice a n E/\Ow tS ai w' NoB a n E (bE c [] s)/\bo w.heap.size a/\bW w w'):=by
 apply B0;intro k D I F;have y:=(F▸ar w _:bW w D)
 have M:Ow tU8 bc D NoB (some ⟨k,0,none⟩) 1 1 [c]:=Ow.newF (l:=[_]) nu I F (jc.one (pW rfl)) (show 1 <=maxLen by decide);refine⟨_,mC bH aI cr M.all,?_⟩;obtain⟨m,J⟩:=(H.step y).max;refine(Tryz.strings_Split (mkS s) (mkS [c]) m D O J (Nat.le_refl 1)).mono ?_;rintro _ U ⟨rfl,G⟩;have R:=dK c s [];rw[CB,Ky]at*;refine⟨_,_,_,rfl,_,_,_,rfl,Ow.newF (eX _) rfl G (mQ λ_ _=>trivial) (by show _ <=2 ^ 63-1;omega),kx rfl |>.mono y.size,ae y (G▸ar _ _) y.size⟩
theorem tq (c:UInt8)(w:World):Cf iv #[.int .u8 ((c.toNat:Nat):Int)] w (Ret λv w'=>v=.bool (pU c)/\w'=w):=by
 apply Cc;have e:∀n:UInt8,((((c.toNat:Nat):Int))==((n.toNat:Nat):Int))=(c==n):=λn=>by
  rw[Bool.eq_iff_iff,beq_iff_eq,beq_iff_eq];exact⟨λh=>yR h,λh=>by rw[h]⟩
 have y:=e 32;have D:=e 9;refine ab.of (λh=>?_) (λh=>?_)
 ·exact⟨by unfold pU;rw[<- y,show((((c.toNat:Nat):Int))==((UInt8.toNat 32:Nat):Int))=true from h];rfl,rfl⟩
 ·exact⟨by unfold pU;rw[<- y,show((((c.toNat:Nat):Int))==((UInt8.toNat 32:Nat):Int))=false from h,Bool.false_or,<- D];rfl,rfl⟩
theorem CF (h:0<s.length):s=s.take (s.length-1)++[s[s.length-1]]:=by
 conv=>lhs;rw[<- take_length (l:=s)]
 have:s.length=(s.length-1)+1:=by omega
 conv=>lhs;rw[this,take_succ_eq_append_getElem (by omega)]
theorem om (c n:UInt8):((((c.toNat:Nat):Int))==((n.toNat:Nat):Int))=(c==n):=by
 rw[Bool.eq_iff_iff,beq_iff_eq,beq_iff_eq];exact⟨λh=>yR h,λh=>by rw[h]⟩
theorem byte_at (h:k<s.length):aU s (k:Int)=((s[k].toNat:Nat):Int):=by
 rw[iq (i:=(k:Int)) (by simpa using h)];simp only[Int.toNat_natCast]
theorem Mc (K:Value->World->Prop)(s:lU)(aa:s.length <=9223372036854775807)(w:World)(D:K (vS (stripR pU s)) w){a b:Nat} :
 ∃E:Nat->FP [.one (.str)],(∃m:Nat,E m s w)/\∀(m:Nat) (t:lU),aP a (∀(I:World),E m t I->
  ∃J:FP [],
  (ab (decide (((length t:Nat):Int)>(0:Int)))
  (((0 <=(i64.wrap (((length t:Nat):Int)-1))/\(i64.wrap (((length t:Nat):Int)-1))<((length t:Nat):Int)))/\
  Cf iv #[.int .u8 (aU t (i64.wrap (((length t:Nat):Int)-1)))] I λZ U=>∃(M:Bool),Z=.returned (.bool M)/\
  ab M
  (J U)
  (K (vS t) U))
  (K (vS t) I))/\
  aP b (∀(V:World),J V->
  ((0 <=(i64.wrap (((length t:Nat):Int)-1))/\(i64.wrap (((length t:Nat):Int)-1)) <=(((length t):Nat):Int)))/\
  ∀(R:lU),R=(List.take (Int.toNat (i64.wrap (((length t:Nat):Int)-1))) t)->
  ∃O:Nat,O<m/\E O R V)):=by
 refine⟨λm t w'=>m=t.length/\stripR pU s=stripR pU t/\t.length <=s.length/\w'=w,⟨_,rfl,rfl,Nat.le_refl _,rfl⟩,?_⟩;intro m t;refine aP.of ?_ _;rintro w' ⟨rfl,H,ac,rfl⟩;refine jE (w:=w') (∃h:0<t.length,pU t[t.length-1]=true) ?_ ?_
 ·refine ab.of (λh=>?_) (λh=>?_)<;>simp only[gt_iff_lt,dTx,dFx]at h
  ·have y:0<t.length:=by omega
   have F:i64.wrap (((t.length:Nat):Int)-1)=((t.length-1:Nat):Int):=by rw[wrJ];omega
   try dsimp only
   rw[F,byte_at (by omega)];refine⟨⟨by omega,by omega⟩,?_⟩;refine aK (tq _ w') ?_;rintro _ w' ⟨rfl,rfl⟩;refine⟨_,rfl,?_⟩;refine ab.of (λG=>?_) (λG=>?_)
   ·exact⟨rfl,y,G⟩
   ·have Y:stripR pU t=t:=by
     conv=>lhs;rw[CF y]
     rw[CD,if_neg (by rw[G];decide),<- CF y]
    rw[H,Y]at D;exact D
  ·have:t=[]:=List.eq_nil_of_length_eq_zero (by omega);subst this;rw[H]at D;exact D
 ·rintro⟨y,hb⟩;have F:i64.wrap (((t.length:Nat):Int)-1)=((t.length-1:Nat):Int):=by rw[wrJ];omega
  try dsimp only
  rw[F];refine⟨⟨by omega,by omega⟩,?_⟩;rintro _ rfl;simp only[Int.toNat_natCast];refine⟨t.length-1,by omega,by rw[length_take];omega,?_,by rw[length_take];omega,trivial⟩;rw[H]
  conv=>lhs;rw[CF y]
  rw[CD,if_pos hb]
theorem GF (s:lU)(J:s.length <=9223372036854775807)(w:World):Cf qX #[vS s] w (Ret λv w'=>v=vS (trimB s)/\w'=w):=by
 apply DS;refine⟨λm t w'=>m=t.length/\s.dropWhile pU=t.dropWhile pU/\t.length <=s.length/\w'=w,⟨_,rfl,rfl,Nat.le_refl _,rfl⟩,?_⟩;intro m t;refine aP.of ?_ _;rintro w' ⟨rfl,D,G,rfl⟩;refine ab.of (λh=>?_) (λh=>?_)<;>simp only[gt_iff_lt,dTx,dFx]at h
 ·match t,h with
  |c::r,h=>
   have H:aU (c::r) 0=((c.toNat:Nat):Int):=rfl;rw[H];refine⟨⟨by decide,h⟩,?_⟩;refine aK (tq c w') ?_;rintro _ w' ⟨rfl,rfl⟩;refine⟨_,rfl,?_⟩;refine ab.of (λy=>?_) (λy=>?_)
   ·refine⟨⟨by decide,by simp only[length_cons];omega⟩,?_⟩;rintro I F;obtain rfl:I=r:=F;refine⟨_,Nat.lt_succ_self _,rfl,?_,?_,rfl⟩
    ·rw[D,dropWhile_cons,if_pos y]
    ·simp only[length_cons]at G;omega
   ·refine Mc (λv E=>v=vS (trimB s)/\E=w') (c::r) (by omega) w' ?_;refine⟨?_,rfl⟩;unfold trimB rW;rw[D,dropWhile_cons,if_neg (by rw[y];decide)]
 ·have:t=[]:=List.eq_nil_of_length_eq_zero (by omega);subst this;refine Mc (λv E=>v=vS (trimB s)/\E=w') [] (by simp) w' ?_;refine⟨?_,rfl⟩;unfold trimB rW;rw[D];rfl
theorem rJ (s:lU)(O:s.length <=9223372036854775807)(w:World):Cf j9 #[vS s] w (Ret λv w'=>v=.bool (hZ s)/\w'=w):=by
 apply zC;refine⟨λm i w'=>∃k:Nat,k <=s.length/\i=(k:Int)/\m=s.length-k/\(s.take k).all vJ=true/\w'=w,⟨_,0,by omega,rfl,rfl,rfl,rfl⟩,?_⟩;intro m i;refine aP.of ?_ _;rintro w' ⟨k,M,rfl,rfl,D,rfl⟩;refine ab.of (λh=>?_) (λh=>?_)<;>simp only[dTx,dFx]at h
 ·have F:k<s.length:=by omega
  have E:=Us F;have G: ¬ vJ s[k]=true->(.bool false:Value)=.bool (hZ s)/\w'=w':=λJ=>⟨by
   congr 1;symm;unfold hZ;rw[Bool.and_eq_false_iff];right;rw[Bool.eq_false_iff];intro y;exact J (List.all_eq_true.1 y _ (getElem_mem F)),rfl⟩
  refine⟨⟨by omega,h⟩,?_⟩;refine ab.of (λH=>?_) (λH=>?_)<;>simp only[dTx,dFx]at H
  ·exact G λy=>by have:=(E.1 y).1;omega
  refine⟨⟨by omega,h⟩,?_⟩;refine ab.of (λI=>?_) (λI=>?_)<;>simp only[gt_iff_lt,dTx,dFx]at I
  ·exact G λy=>by have:=(E.1 y).2;omega
  ·refine⟨s.length-(k+1),by omega,k+1,by omega,by rw[wrJ];omega,rfl,?_,rfl⟩;rw[take_succ_eq_append_getElem F,all_append,D];simp[E.2 ⟨by omega,by omega⟩]
 ·have:k=s.length:=by omega
  subst this;rw[take_length]at D;refine⟨?_,rfl⟩;congr 1;unfold hZ;rw[D,Bool.and_true];cases s<;>simp
theorem fq (s:lU)(c:UInt8)(bl:s.length <=100000000)(w:World):
 Cf eE #[vS s,.int .u8 ((c.toNat:Nat):Int)] w (Ret λv w'=>∃a n D,v=.slice a n D/\Ow tS ai w' NoB a n D (bE c [] s)/\bo w.heap.size a/\bW w w'):=by
 apply Ca;intro a8 af ac ad;have aj:=(ad▸ar w _:bW w af)
 have av:Ow tS ai af NoB (some ⟨a8,0,none⟩) 0 0 []:=Ow.newF (eX _) ac ad (jc.nil _ _ _) (Nat.zero_le _);refine⟨λm a n D fr i w'=>∃(k j:Nat) (done:List lU),k <=s.length/\j <=k/\i=(k:Int)/\fr=(j:Int)/\m=s.length-k/\done.length <=k/\bE c [] s=done++bE c ((s.take k).drop j) (s.drop k)/\
  Ow tS ai w' NoB a n D done/\bo w.heap.size a/\bW w w',
  ⟨_,0,0,[],by omega,by omega,rfl,rfl,rfl,Nat.le_refl _,rfl,av,kx ac,aj⟩,?_⟩
 intro m a n D fr i;refine aP.of ?_ _;rintro bp ⟨k,j,done,bk,be,rfl,rfl,rfl,bb,y,U,J,H⟩;refine ab.of (λh=>?_) (λh=>?_)<;>simp only[dTx,dFx]at h
 ·have R:k<s.length:=by omega
  have ag:i64.wrap ((k:Int)+1)=((k+1:Nat):Int):=by rw[wrJ];omega
  try dsimp only
  rw[ag,byte_at R,om];rw[Up c s _ k R]at y;refine⟨⟨by omega,h⟩,?_⟩;refine ab.of (λE=>?_) (λE=>?_)
  ·rw[beq_iff_eq]at E;rw[if_pos E]at y;refine⟨⟨⟨by omega,by omega⟩,by omega,by omega⟩,?_⟩;rintro _ rfl a0 a9 O F;simp only[Int.toNat_natCast]at F ⊢;obtain⟨aa,a4,Z,G,Y,V,M,I⟩:=uQ (ty:=aA) (w0:=w) (cm:=1) (vs:=[_]) (eX _) bh dG (by decide) U J H O F (mu trivial) (by omega);refine⟨aa,a4,Z,G,Y,s.length-(k+1),by omega,k+1,k+1,_,by omega,Nat.le_refl _,rfl,rfl,rfl,?_,?_,V,M,I⟩
   ·simp;omega
   ·have an:(s.take (k+1)).drop (k+1)=[]:=drop_eq_nil_of_le (by rw[length_take];omega);rw[y,an];simp
  ·rw[beq_eq_false_iff_ne]at E;rw[if_neg E]at y;refine⟨s.length-(k+1),by omega,k+1,j,done,by omega,by omega,rfl,rfl,rfl,by omega,?_,U,J,H⟩;rw[y,take_succ_eq_append_getElem R,List.drop_append_of_le_length (by rw[length_take];omega)]
 ·have:k=s.length:=by omega
  subst this;refine⟨⟨by omega,by omega⟩,?_⟩;rintro _ rfl a0 a9 O F;simp only[Int.toNat_natCast]at F ⊢;obtain⟨aa,a4,Z,G,Y,V,M,I⟩:=uQ (ty:=aA) (w0:=w) (cm:=1) (vs:=[_]) (eX _) bh dG (by decide) U J H O F (mu trivial) (by omega);refine⟨aa,a4,Z,G,Y,_,_,_,rfl,?_,M,I⟩;rw[y];simpa[bE]using V
def ZV (s:lU):Option Int:=if s.head?=some 45 then(if hZ (s.drop 1)then some 0 else none)else if hZ s then some (min (mJ s) 34560000)else none
theorem Ah (s:lU)(c:UInt8):Lib.hasPrefix s [c]=decide (s.head?=some c)/\Lib.trimPrefix s [c]=if s.head?=some c then s.drop 1 else s:=by
 cases s with
 |nil=>exact⟨by simp[Lib.hasPrefix],rfl⟩
 |cons x s=>
  by_cases h:x=c
  ·subst h;have D:Lib.hasPrefix (x::s) [x]=true:=by simp[Lib.hasPrefix,List.isPrefixOf]
   refine⟨by rw[D];simp,?_⟩;unfold Lib.trimPrefix;rw[D];simp
  ·have y:Lib.hasPrefix (x::s) [c]=false:=by simp[Lib.hasPrefix,List.isPrefixOf,Ne.symm h]
   refine⟨by rw[y];simp[h],?_⟩;unfold Lib.trimPrefix;rw[y];simp[h]
structure Hdr where
 name:lU
 value:lU
 domain:lU
 path:lU
 hasE:Bool
 exp:Int
 hasA:Bool
 age:Int
 sec:Bool
 http:Bool
 same:Int
def Hdr.cells (h:Hdr):List Value:=[vS h.name,vS h.value,vS h.domain,vS h.path,.bool h.hasE,vI h.exp,.bool h.hasA,vI h.age,.bool h.sec,.bool h.http,vI h.same]
def Hdr.v (h:Hdr):Value:=.agg h.cells.toArray
def Zr (v:lU):Int:=if eF v=[110,111,110,101]then 1 else if eF v=[108,97,120]then 2 else if eF v=[115,116,114,105,99,116]then 3 else 0
theorem aB.put {P:Program}{u:TypeId}{bytes:Nat}{z:Value}(I:TF P u 1 bytes z){w:World}{vs:List Value}(h:aB w k t vs){v:Value}(G:i<vs.length)(h1:v.oneCell'=true)(y:v.cells= #[v]):
 ∃w',(Instr.storeAt u (.pointer (some ⟨k,i,none⟩)) v).run P w=.ok () w'/\aB w' k t (vs.set i v)/\w.grownBy w' (some k):=by
 obtain⟨w',H,D,F⟩:=h.store I (i:=i) (v:=v) (by rw[y];rfl) (by omega) (by rw[y];intro c E;simp at E;subst E;exact h1);refine⟨w',H,?_,F⟩;rw[y]at D;have:vs.set i v=vs.take i++[v]++vs.drop (i+1):=by
  rw[List.set_eq_take_append_cons_drop,if_pos G];simp
 rw[this];exact D
theorem Om (s:lU)(c:UInt8)(w:World):Cf eR #[vS s,vS [c]] w (Ret λv w'=>v=.tuple #[vS (if s.head?=some c then s.drop 1 else s),.bool (decide (s.head?=some c))]/\w'=w):=by
 refine(Tryz.strings_CutPrefix (mkS s) (mkS [c]) w).mono ?_;rintro _ _ ⟨rfl,rfl⟩;refine⟨_,rfl,?_,rfl⟩;have h:=Ah s c;have e:(mkS s).data.toList=s:=rfl;have E:(mkS [c]).data.toList=[c]:=rfl;rw[e,E,h.1];by_cases D:s.head?=some c
 ·rw[if_pos D];have y:=h.2;rw[if_pos D]at y;rw[y];rfl
 ·rw[if_neg D];have y:=h.2;rw[if_neg D]at y;rw[y];rfl
def adC (a:lU):List Value:=a.map λc=>Value.int .u8 ((c.toNat:Nat):Int)
def adV (a:lU):Value:=.agg (adC a).toArray
def ad0:lU:=replicate 16 0
theorem dC (a:lU):(adC a).length=a.length:=by simp[adC]
theorem fI (a:lU):zR (adC a):=Xx a
theorem uo (a:lU)(i:Nat)(c:UInt8):(adC a).set i (.int .u8 ((c.toNat:Nat):Int))=adC (a.set i c):=by unfold adC;rw[List.map_set]
theorem Aw {a:lU}(h:i<a.length):(adC a)[i]? =some (.int .u8 ((a[i].toNat:Nat):Int)):=by unfold adC;rw[List.getElem?_map,List.getElem?_eq_getElem h];rfl
def adT:Option lU->Value
 |some a=>.tuple #[adV a,.bool true]
 |none=>.tuple #[adV ad0,.bool false]
def Dn (x:lU):Prop:=Ae x/\mJ x <=255
instance  (x:lU):Decidable (Dn x):=by unfold Dn;infer_instance
def ipB (x:lU):UInt8:=UInt8.ofNat (mJ x).toNat
def v4V (s:lU):Option lU:=if(bE 46 [] s).length=4/\∀x∈bE 46 [] s,Dn x then some (replicate 12 0++(bE 46 [] s).map ipB)else none
theorem Tq {x:lU}(h:Dn x):IntKind.u8.wrap (mJ x)=(((ipB x).toNat:Nat):Int):=by
 have E:0 <=mJ x:=by
  have:=h.1.1;unfold hZ at this;rw[Bool.and_eq_true]at this;exact(sE x 0 (by decide) (λc D=>List.all_eq_true.1 this.2 c D)).1
 have y:=h.2;rw[wrap_u8 E y];unfold ipB;rw[UInt8.toNat_ofNat'];omega
def v4S (L:List lU)(k:Nat):lU:=replicate 12 0++(L.take k).map ipB++replicate (4-k) 0
theorem Hm {L:List lU}(h:L.length=4)(y:k <=4):(v4S L k).length=16:=by simp[v4S];omega
theorem QQ {L:List lU}(h:L.length=4)(D:k<4):(v4S L k).set (12+k) (ipB (L[k]'(by omega)))=v4S L (k+1):=by
 unfold v4S;have y:(replicate 12 (0:UInt8)++(L.take k).map ipB).length=12+k:=by simp;omega
 rw[List.set_append_right _ _ (by omega),y,Nat.sub_self,take_succ_eq_append_getElem (by omega),map_append];rw[show 4-k=(4-(k+1))+1 by omega,List.replicate_succ (n:=4-(k+1)),List.set_cons_zero];simp
theorem XY {L:List lU}(h:L.length=4):v4S L 4=replicate 12 0++L.map ipB:=by unfold v4S;rw[take_of_length_le (by omega)];simp
theorem TP (h: ¬ ((bE 46 [] s).length=4/\∀x∈bE 46 [] s,Dn x)):v4V s=none:=if_neg h
theorem cE:Whl prog az 16:=⟨⟨_,_,KG⟩,by kernel_rfl⟩
theorem rK (s:lU)(ag:s.length <=9223372036854775000)(w:World):
 Cf ka #[vS s] w (Ret λv w'=>v=(if Ae s then .tuple #[vI (mJ s),.bool true]else .tuple #[vI 0,.bool false])/\w'=w):=by
 apply zD;refine iV (λw'=>Ae s/\w'=w) ?_ ?_
 ·refine aK (rJ s (by omega) w) ?_;rintro _ w' ⟨rfl,R⟩;rw[R];refine⟨_,rfl,?_⟩;have H: ¬ Ae s->(.tuple #[vI 0,.bool false]:Value)=(if Ae s then .tuple #[vI (mJ s),.bool true]else .tuple #[vI 0,.bool false])/\w=w:=λy=>⟨by rw[if_neg y],rfl⟩
  refine ab.of (λh=>H λy=>by rw[y.1]at h;cases h) (λh=>?_);have U:hZ s=true:=by simpa using h
  refine ab.of (λD=>H λy=>by have:=y.2.1;simp at D;omega) (λD=>?_);have J:s.length <=18:=by simp at D;omega
  refine ab.of (λI=>?_) (λI=>?_)<;>simp only[dTx,dFx]at I
  ·have Z:1<s.length:=by omega
   refine⟨⟨by decide,by omega⟩,?_⟩;have F:=byte_at (s:=s) (k:=0) (by omega);rw[show((0:Nat):Int)=0 from rfl]at F;have O:=om s[0] 48;rw[show(((48:UInt8).toNat:Nat):Int)=48 from rfl]at O;rw[F,O];have Y:s.head?=some s[0]:=by rw[List.head?_eq_getElem?,List.getElem?_eq_getElem]
   refine ab.of (λE=>H λy=>y.2.2 ⟨?_,Z⟩) (λE=>⟨⟨U,J,λy=>?_⟩,rfl⟩)
   ·rw[beq_iff_eq]at E;rw[Y,E]
   ·rw[Y]at y;rw[Option.some.inj y.1]at E;simp at E
  ·exact⟨⟨U,J,λy=>I (by omega)⟩,rfl⟩
 ·rintro w' ⟨y,R⟩;rw[R];have V:∀c∈s,vJ c=true:=by
   have:=y.1;unfold hZ at this;rw[Bool.and_eq_true]at this;exact λc G=>List.all_eq_true.1 this.2 c G
  have J:=y.2.1;refine⟨λm v i w'=>∃k:Nat,k <=s.length/\i=(k:Int)/\m=s.length-k/\v=mJ (s.take k)/\w'=w,⟨_,0,by omega,rfl,rfl,rfl,rfl⟩,?_⟩;intro m v i;refine aP.of ?_ _;rintro w' ⟨k,ad,rfl,rfl,rfl,aa⟩;rw[aa];refine ab.of (λh=>?_) (λh=>?_)<;>simp only[dTx,dFx]at h
  ·have M:k<s.length:=by omega
   rw[byte_at M];have G:=V s[k] (getElem_mem M);have O:=ov s[k];have F:=sE (s.take k) 0 (by decide) (λc G=>V c (mem_of_mem_take G));have af:(10:Int) ^ (s.take k).length <=10 ^ 17:=by
    have:(s.take k).length <=17:=by rw[length_take];omega
    exact_mod_cast Nat.pow_le_pow_right (by decide:0<10) this
   have ac:0 <=mJ (s.take k)/\mJ (s.take k)<10 ^ 17:=⟨F.1,by
    have D:=F.2;have:mJ (s.take k)<(0+1)*10 ^ (s.take k).length:=D;omega⟩
   refine⟨⟨by omega,h⟩,s.length-(k+1),by omega,k+1,by omega,by rw[wrJ];omega,rfl,?_,rfl⟩;rw[wrJ (n:=mJ (s.take k)*10),wrJ (n:=((s[k].toNat:Nat):Int)),wrJ (n:=_+_),wrJ,take_succ_eq_append_getElem M];unfold mJ;rw[List.foldl_append];show _=_*10+(((s[k].toNat:Nat):Int)-48)
   omega
  ·have:k=s.length:=by omega
   subst this;rw[take_length,if_pos y];exact⟨rfl,rfl⟩
theorem Mm (s:lU)(de:s.length<4294967281)(w:World)(cn:Env w):Cf AX #[vS s] w (Ret λv w'=>v=adT (v4V s)/\bW w w'):=by
 apply Kv;intro an a0 c2 b2;have U:=(b2▸ar w _:bW w a0)
 have J:aB a0 an az (adC ad0):=aB.new c2 b2;refine aK (eH s 46 de a0 (cn.step U)) ?_;rintro _ b6 ⟨a,n,c,rfl,af,dk,bq⟩;have H:=ae U bq U.size;have M:=J.below bq;have c9:=af.len;have bt:∀x∈bE 46 [] s,x.length <=s.length:=λx F=>by simpa using gp 46 s [] x F
 have b5:∀{a9:World},v4V s=none->aB a9 an az (adC ad0)->bW w a9->_:=fun{a9} aj cb ch=>cE.fin (K:=λav G=>(.tuple #[av,.bool false]:Value)=adT (v4V s)/\bW w G) (cs:=adC ad0) rfl (fI _) cb rfl ch (by omega) λG Y=>⟨by rw[aj];rfl,Y⟩
 refine⟨_,_,_,rfl,ab.of (λR=>?_) (λR=>?_)⟩
 ·refine b5 (TP λy=>?_) M H;rw[bne_iff_ne]at R;omega
 have D:(bE 46 [] s).length=4:=by simp at R;omega
 intro k5 b7 c4 b3;have Z:=(b3▸ar b6 _:bW b6 b7)
 have cf:=ae H Z H.size;have b9:=M.below Z;have cc:aB b7 k5 az (adC ad0):=aB.new c4 b3;have bw:=af.below Z;have dn:=M.lt;have dd:∀g,fm a=some g->g≠k5:=λg cp e=>by have:=af.lt g cp;omega
 have c8:w.heap.size <=k5:=by have:=H.size;omega
 obtain⟨L,bp⟩:∃L,L=bE 46 [] s:=⟨_,rfl⟩
 rw[<- bp]at bw D bt c9;have b1:v4V s=if L.length=4/\∀x∈L,Dn x then some (replicate 12 0++L.map ipB)else none:=by rw[bp];rfl
 refine⟨λm i w'=>∃k:Nat,k <=4/\i=(k:Int)/\m=4-k/\(∀j (I:j<k) (h:j<L.length),Dn L[j])/\aB w' k5 az (adC (v4S L k))/\aB w' an az (adC ad0)/\Ow tS ai w' NoB a n c L/\bW w w',
  ⟨_,0,by omega,rfl,rfl,λj I=>by omega,cc,b9,bw,cf⟩,?_⟩
 intro m i;refine aP.of ?_ _;rintro dg ⟨k,dl,rfl,rfl,b0,be,O,ag,V⟩;refine ab.of (λh=>?_) (λh=>?_)<;>simp only[dTx,dFx]at h
 ·have c3:k<4:=by omega
  have ad:k<L.length:=by omega
  refine⟨⟨⟨by omega,h⟩,ag.all.isSome (by omega)⟩,_,ag.all.text aI ad,?_⟩;have dm:=bt L[k] (getElem_mem ad);refine aK (rG L[k] (by omega) dg) ?_;rintro _ a8 ⟨rfl,E⟩;have bl:=ae V E V.size;have dc: ¬ Dn L[k]->v4V s=none:=λF=>by
   rw[b1,if_neg λy=>F (y.2 _ (getElem_mem ad))]
  refine⟨if Ae L[k]then mJ L[k]else 0,if Ae L[k]then true else false,by split<;>rfl,?_⟩;refine⟨λw'=>w'=a8/\Dn L[k],?_,?_⟩
  ·refine gX (B:=λbb=>ab _ (bb true a8) (bb _ a8)) (!decide (Dn L[k])) (ab.of (λh1=>⟨rfl,?_⟩) (λh1=>⟨rfl,?_⟩)) ?_
   ·have: ¬ Ae L[k]:=λy=>by rw[if_pos y]at h1;cases h1
    have J: ¬ Dn L[k]:=λy=>this y.1;simp[J]
   ·have bu:Ae L[k]:=Decidable.byContradiction λy=>by rw[if_neg y]at h1;cases h1
    rw[if_pos bu,Bool.eq_iff_iff];simp[Dn,bu]
   ·refine ab.of (λh1=>b5 (dc (by simpa using h1)) (O.below E) bl) (λh1=>⟨rfl,by simpa using h1⟩)
  ·refine aP.of ?_ _;rintro dr ⟨b4,ac⟩;rw[b4];clear b4;have b8:i64.wrap (12+(k:Int))=((12+k:Nat):Int):=by rw[wrJ];omega
   try dsimp only
   rw[b8,iC,if_pos ac.1,Tq ac,Nat.zero_add];refine⟨⟨⟨by omega,by omega⟩,rfl⟩,?_⟩;have cd:=be.below E;obtain⟨dj,df,bk,aa⟩:=cd.put (P:=prog) gT (i:=12+k) (v:=.int .u8 (((ipB L[k]).toNat:Nat):Int)) (by rw[dC,Hm D (by omega)];omega) rfl rfl;rw[uo,QQ D c3]at bk;refine⟨dj,df,4-(k+1),by omega,k+1,by omega,by rw[wrJ];omega,rfl,?_,bk,(O.below E).grown aa (fM (by omega)),(ag.below E).put dd aa,Below.put bl aa c8⟩;intro j I cv;by_cases e:j=k
   ·subst e;exact ac
   ·exact b0 j (by omega) cv
 ·have:k=4:=by omega
  subst this;have cl:∀x∈L,Dn x:=λx F=>by
   obtain⟨j,I,rfl⟩:=List.mem_iff_getElem.1 F;exact b0 j (by omega) I
  have aj:v4V s=some (v4S L 4):=by rw[b1,if_pos ⟨D,cl⟩,XY D]
  have bs:(adC (v4S L 4)).length=16:=by rw[dC,Hm D (by omega)]
  refine⟨_,cE.load0 be bs,?_⟩;exact cE.fin (K:=λav G=>(.tuple #[av,.bool true]:Value)=adT (v4V s)/\bW w G) bs (fI _) O rfl V (by omega) λG Y=>⟨by rw[aj];rfl,Y⟩
theorem Ks (s:lU)(dj:s.length <=100000000)(w:World):Cf xJ #[vS s] w (Ret λv w'=>v=adT (v4V s)/\bW w w'):=by
 apply Jf;intro aj J c9 b4;have R:=(b4▸ar w _:bW w J)
 have H:aB J aj az (adC ad0):=aB.new c9 b4;intro k5 b8 dd b5;have bs:=(b5▸ar J _:bW J b8)
 have cp:=ae R bs R.size;have cl:aB b8 k5 az (adC ad0):=aB.new dd b5;obtain⟨b9,dk,a9,bt⟩:=cE.store0 (cs:=adC ad0) rfl (fI _) cl rfl;refine⟨b9,dk,?_⟩;have bu:w.heap.size <=k5:=by have:=R.size;omega
 have du:=H.lt;have cd:=(H.below bs).grown bt (fM (by omega));have bl:=Below.put cp bt bu;refine aK (fq s 46 dj b9) ?_;rintro _ d1 ⟨a,n,c,rfl,ad,c3,Y⟩;have bk:=ae bl Y bl.size;have a8:=cd.below Y;have ch:=a9.below Y;have de:=ad.len;have b0:∀x∈bE 46 [] s,x.length <=s.length:=λx F=>by simpa using gp 46 s [] x F
 have b7:∀{av:World},v4V s=none->aB av aj az (adC ad0)->bW w av->_:=fun{av} ag cf cv=>cE.fin (K:=λan G=>(.tuple #[an,.bool false]:Value)=adT (v4V s)/\bW w G) (cs:=adC ad0) rfl (fI _) cf rfl cv (by omega) λG V=>⟨by rw[ag];rfl,V⟩
 refine⟨_,_,_,rfl,ab.of (λO=>?_) (λO=>?_)⟩
 ·refine b7 (TP λy=>?_) a8 bk;rw[bne_iff_ne]at O;omega
 have D:(bE 46 [] s).length=4:=by simp at O;omega
 have dv:=a9.lt;have dg:∀g,fm a=some g->g≠k5:=λg c4 e=>by have:=c3 g c4;omega
 obtain⟨L,bq⟩:∃L,L=bE 46 [] s:=⟨_,rfl⟩
 rw[<- bq]at ad D b0 de;have b3:v4V s=if L.length=4/\∀x∈L,Dn x then some (replicate 12 0++L.map ipB)else none:=by rw[bq];rfl
 refine⟨λm i w'=>∃k:Nat,k <=4/\i=(k:Int)/\m=4-k/\(∀j (I:j<k) (h:j<L.length),Dn L[j])/\aB w' k5 az (adC (v4S L k))/\aB w' aj az (adC ad0)/\Ow tS ai w' NoB a n c L/\bW w w',
  ⟨_,0,by omega,rfl,rfl,λj I=>by omega,ch,a8,ad,bk⟩,?_⟩
 intro m i;refine aP.of ?_ _;rintro cb ⟨k,dr,rfl,rfl,b2,bb,M,af,U⟩;refine ab.of (λh=>?_) (λh=>?_)<;>simp only[dTx,dFx]at h
 ·have dc:k<4:=by omega
  have ac:k<L.length:=by omega
  refine⟨⟨⟨by omega,by omega⟩,af.all.isSome (by omega)⟩,_,af.all.text aI ac,?_⟩;have ds:=b0 L[k] (getElem_mem ac);refine aK (rK L[k] (by omega) cb) ?_;rintro _ w7 ⟨rfl,dm⟩;have E:bW cb w7:=dm▸Below.refl _ _;have bp:=ae U E U.size;have df: ¬ Dn L[k]->v4V s=none:=λF=>by
   rw[b3,if_neg λy=>F (y.2 _ (getElem_mem ac))]
  refine⟨if Ae L[k]then mJ L[k]else 0,if Ae L[k]then true else false,by split<;>rfl,?_⟩;refine⟨λw'=>w'=w7/\Dn L[k],?_,?_⟩
  ·refine gX (B:=λa0=>ab _ (a0 true w7) (a0 _ w7)) (!decide (Dn L[k])) (ab.of (λh1=>⟨rfl,?_⟩) (λh1=>⟨rfl,?_⟩)) ?_
   ·have: ¬ Ae L[k]:=λy=>by rw[if_pos y]at h1;cases h1
    have H: ¬ Dn L[k]:=λy=>this y.1;simp[H]
   ·have b1:Ae L[k]:=Decidable.byContradiction λy=>by rw[if_neg y]at h1;cases h1
    rw[if_pos b1,Bool.eq_iff_iff];simp[Dn,b1]
   ·refine ab.of (λh1=>b7 (df (by simpa using h1)) (M.below E) bp) (λh1=>⟨rfl,by simpa using h1⟩)
  ·refine aP.of ?_ _;rintro d2 ⟨b6,aa⟩;rw[b6];clear b6;have cc:i64.wrap (12+(k:Int))=((12+k:Nat):Int):=by rw[wrJ];omega
   try dsimp only
   rw[cc,iC,if_pos aa.1,Tq aa,Nat.zero_add];refine⟨⟨⟨by omega,by omega⟩,rfl⟩,?_⟩;have cn:=bb.below E;obtain⟨dn,dl,be,Z⟩:=cn.put (P:=prog) gT (i:=12+k) (v:=.int .u8 (((ipB L[k]).toNat:Nat):Int)) (by rw[dC,Hm D (by omega)];omega) rfl rfl;rw[uo,QQ D dc]at be;refine⟨dn,dl,4-(k+1),by omega,k+1,by omega,by rw[wrJ];omega,rfl,?_,be,(M.below E).grown Z (fM (by omega)),(af.below E).put dg Z,Below.put bp Z bu⟩;intro j I c8;by_cases e:j=k
   ·subst e;exact aa
   ·exact b2 j (by omega) c8
 ·have:k=4:=by omega
  subst this;have c2:∀x∈L,Dn x:=λx F=>by
   obtain⟨j,I,rfl⟩:=List.mem_iff_getElem.1 F;exact b2 j (by omega) I
  have ag:v4V s=some (v4S L 4):=by rw[b3,if_pos ⟨D,c2⟩,XY D]
  have bw:(adC (v4S L 4)).length=16:=by rw[dC,Hm D (by omega)]
  refine⟨_,cE.load0 bb bw,?_⟩;exact cE.fin (K:=λan G=>(.tuple #[an,.bool true]:Value)=adT (v4V s)/\bW w G) bw (fI _) M rfl U (by omega) λG V=>⟨by rw[ag];rfl,V⟩
def z8 (c:UInt8):Nat:=if 48 <=c.toNat/\c.toNat <=57 then c.toNat-48 else if 97 <=c.toNat/\c.toNat <=102 then c.toNat-87 else if 65 <=c.toNat/\c.toNat <=70 then c.toNat-55 else 16
def rC (c:UInt8):Bool:=decide (z8 c<16)
def pT (s:lU):Nat:=s.foldl (λn c=>n*16+z8 c) 0
def eK (s:lU):Bool:=decide (1 <=s.length)&&decide (s.length <=4)&&s.all rC
def ey (s:lU):List lU:=if s=[]then[]else bE 58 [] s
def at2 (s:lU)(i:Nat):Prop:=s[i]? =some 58/\s[i+1]? =some 58
def e8 (s:lU):Bool:=decide ((bE 58 [] s).length=8)&&(bE 58 [] s).all eK
def v6L (A B:List lU):List Nat:=A.map pT++replicate (8-A.length-B.length) 0++B.map pT
def J9 (gap:Bool)(A B:List lU):Bool:=A.all eK&&B.all eK&&(if gap then decide (A.length+B.length<8)else decide (A.length+B.length=8))
def v6V (s:lU):Option (List Nat):=
 if J9 (Lib.cut s [58,58]).2.2 (ey (Lib.cut s [58,58]).1) (ey (Lib.cut s [58,58]).2.1)=true then some (v6L (ey (Lib.cut s [58,58]).1) (ey (Lib.cut s [58,58]).2.1))else none
theorem Yi (s:lU)(i:Nat):Lib.occAt s [58,58] i=true↔at2 s i:=by
 unfold Lib.occAt at2;have y:s[i]? =(s.drop i)[0]? :=by rw[List.getElem?_drop];rfl
 have D:s[i+1]? =(s.drop i)[1]? :=by rw[List.getElem?_drop]
 rw[y,D];generalize s.drop i=d
 match d with
 |[]=>simp
 |[a]=>simp
 |a::b::r=>
  simp only[List.isPrefixOf,Bool.and_true,Bool.and_eq_true,beq_iff_eq,List.getElem?_cons_zero,List.getElem?_cons_succ,Option.some.injEq];exact⟨λh=>⟨h.1.symm,h.2.symm⟩,λh=>⟨h.1.symm,h.2.symm⟩⟩
theorem vx (s:lU):(Lib.cut s [58,58]=(s,[],false)/\∀i,¬ at2 s i)\/∃p,Lib.cut s [58,58]=(s.take p,s.drop (p+2),true)/\at2 s p/\(∀j,j<p-> ¬ at2 s j)/\p+2 <=s.length:=by
 rcases Lib.index_spec s [58,58]with⟨h1,h2⟩|⟨p,h1,h2,h3,h4⟩
 ·refine .inl ⟨?_,λi y=>?_⟩
  ·unfold Lib.cut;rw[if_neg (by omega)]
  ·by_cases F:i <=s.length
   ·have:=h2 i F;rw[(Yi s i).2 y]at this;cases this
   ·have:=y.1;rw[List.getElem?_eq_none (by omega)]at this;cases this
 ·refine .inr ⟨p,?_,(Yi s p).1 h3,λj E D=>?_,?_⟩
  ·unfold Lib.cut;rw[if_pos (by omega),h1];rfl
  ·have:=h4 j E;rw[(Yi s j).2 D]at this;cases this
  ·have:=((Yi s p).1 h3).2;have G:=(List.getElem?_eq_some_iff.1 this).1;omega
theorem HO {p:Nat}(h:at2 s p):s=s.take p++58::58::s.drop (p+2):=by
 obtain⟨h1,E⟩:=h;obtain⟨F,y⟩:=List.getElem?_eq_some_iff.1 h1;obtain⟨G,D⟩:=List.getElem?_eq_some_iff.1 E
 conv=>lhs;rw[<- List.take_append_drop p s,drop_eq_getElem_cons F,drop_eq_getElem_cons G,y,D]
theorem ES (c:UInt8)(r:lU)(h:r=[]\/∃t,r=c::t):([]:lU)∈bE c [] r:=by
 rcases h with rfl|⟨t,rfl⟩
 ·simp[bE]
 ·show _∈(if c=c then _ else _);rw[if_pos rfl];simp
theorem Xi {l:List lU}(h:([]:lU)∈l):l.all eK=false:=by
 rw[Bool.eq_false_iff];intro y;have:=List.all_eq_true.1 y [] h;revert this;decide
theorem Uu (h:e8 s=true)(i:Nat): ¬ at2 s i:=by
 intro y;unfold e8 at h;rw[Bool.and_eq_true]at h;have D:([]:lU)∈bE 58 [] s:=by
  rw[HO y,gn];exact List.mem_append_right _ (ES 58 _ (.inr ⟨_,rfl⟩))
 rw[Xi D]at h;exact absurd h.2 (by decide)
theorem late {p q:Nat}(h:at2 s p)(H:p<q)(D:at2 s q):(ey (s.take q)).all eK=false:=by
 have G:=(List.getElem?_eq_some_iff.1 D.1).1;have E:=HO h;have hp:p<s.length:=by omega
 have y:s.take q≠[]:=by
  intro e;have:=congrArg length e;rw[length_take,length_nil]at this;omega
 unfold ey;rw[if_neg y];have e:s.take q=s.take p++58::(58::s.drop (p+2)).take (q-p-1):=by
  conv=>lhs;rw[E]
  rw[List.take_append,length_take,Nat.min_eq_left (by omega),take_of_length_le (by rw[length_take];omega)];rw[show q-p=(q-p-1)+1 by omega,List.take_succ_cons];rfl
 rw[e,gn];refine Xi (List.mem_append_right _ (ES 58 _ ?_));cases F:q-p-1 with
 |zero=>exact .inl rfl
 |succ k=>exact .inr ⟨_,rfl⟩
def zsK:Nat->lU
 |0=>[48]
 |k+1=>zsK k++[58,48]
theorem TQ:∀k,(zsK k).length=2*k+1
 |0=>rfl
 |k+1=>by rw[zsK,length_append,TQ k];simp;omega
theorem Oo:∀k,bE 58 [] (zsK k)=replicate (k+1) [48]
 |0=>rfl
 |k+1=>by
  rw[zsK,gn,Oo k,List.replicate_succ' (n:=k+1)];rfl
def yF (f:lU):lU:=if f=[]then[]else f++[58]
def JT (b:lU):lU:=if b=[]then[]else 58::b
def Md (f b:lU)(k:Nat):lU:=yF f++zsK k++JT b
theorem On (f b:lU)(k:Nat):bE 58 [] (Md f b k)=ey f++replicate (k+1) [48]++ey b:=by
 unfold Md yF JT ey;have e:∀b:lU,bE 58 [] (zsK k++if b=[]then[]else 58::b)=replicate (k+1) [48]++(if b=[]then[]else bE 58 [] b):=by
  intro b;split
  ·rw[append_nil,append_nil,Oo]
  ·rw[gn,Oo]
 by_cases y:f=[]
 ·rw[if_pos y,if_pos y,nil_append,e,nil_append]
 ·rw[if_neg y,if_neg y,append_assoc,append_assoc,List.singleton_append,gn,e,append_assoc]
theorem Oz (f b:lU)(k:Nat):e8 (Md f b k)=true↔((ey f).all eK=true/\(ey b).all eK=true)/\(ey f).length+(k+1)+(ey b).length=8:=by
 unfold e8;rw[On];have y:eK [48]=true:=by decide
 have E:(replicate (k+1) ([48]:lU)).all eK=true:=List.all_eq_true.2 λx D=>by rw[(List.mem_replicate.1 D).2];exact y
 rw[all_append,all_append,E,Bool.and_true,Bool.and_eq_true,Bool.and_eq_true,dTx,length_append,length_append,List.length_replicate];exact And.comm
theorem VW {f b:lU}(h:e8 (Md f b k)=true):(bE 58 [] (Md f b k)).map pT=v6L (ey f) (ey b):=by
 have y:=((Oz f b k).1 h).2;rw[On,map_append,map_append,List.map_replicate,show pT [48]=0 by decide];unfold v6L;rw[show 8-(ey f).length-(ey b).length=k+1 by omega]
theorem Zy (h:e8 s=true):v6V s=some ((bE 58 [] s).map pT):=by
 rcases vx s with⟨h1,D⟩|⟨p,h1,D,H⟩
 ·unfold v6V;have y:=h;unfold e8 at y;rw[Bool.and_eq_true,dTx]at y;have E:s≠[]:=by rintro rfl;exact absurd y.1 (by decide)
  have F:ey s=bE 58 [] s:=by unfold ey;rw[if_neg E]
  have G:ey []=[]:=rfl;rw[h1];simp only[F,G];rw[if_pos]
  ·unfold v6L;rw[y.1];simp
  ·unfold J9;rw[y.2];simp[y.1]
 ·exact absurd D (Uu h p)
theorem Zz (h:e8 s=false)(F:∀i,¬ at2 s i):v6V s=none:=by
 rcases vx s with⟨h1,E⟩|⟨p,h1,E,H⟩
 ·unfold v6V;rw[h1];rw[if_neg];intro D;have G:ey []=[]:=rfl;unfold J9 at D;simp only[G,List.all_nil,Bool.and_true,Bool.and_eq_true,length_nil,Nat.add_zero]at D;have y:(ey s).all eK=true/\(ey s).length=8:=by simpa using D
  unfold ey at y;split at y
  ·exact absurd y.2 (by decide)
  ·rw[<- Bool.not_eq_true]at h;refine h ?_;unfold e8;rw[y.1,y.2];rfl
 ·exact absurd E (F p)
theorem XZ {p:Nat}(h:at2 s p)(E:∀j,j<p-> ¬ at2 s j):
 v6V s=if((ey (s.take p)).all eK=true/\(ey (s.drop (p+2))).all eK=true)/\(ey (s.take p)).length+(ey (s.drop (p+2))).length<8 then some (v6L (ey (s.take p)) (ey (s.drop (p+2))))else none:=by
 rcases vx s with⟨h1,D⟩|⟨q,h1,D,F,G⟩
 ·exact absurd h (D p)
 ·have e:q=p:=by
   rcases Nat.lt_trichotomy q p with y|y|y
   ·exact absurd D (E q y)
   ·exact y
   ·exact absurd h (F p y)
  subst e;unfold v6V J9;rw[h1];simp only[if_true,Bool.and_eq_true,dTx]
theorem X0 {g:List Nat}(h:v6V s=some g):g.length=8:=by
 unfold v6V at h;split at h
 ·rename_i y;rw[<- Option.some.inj h];unfold v6L;unfold J9 at y;rw[Bool.and_eq_true]at y;have:(ey (Lib.cut s [58,58]).1).length+(ey (Lib.cut s [58,58]).2.1).length <=8:=by
   have:=y.2;split at this
   ·have:=of_decide_eq_true this;omega
   ·have:=of_decide_eq_true this;omega
  simp;omega
 ·cases h
theorem vF:∀(s:lU) (n:Nat),s.all rC=true->s.foldl (λn c=>n*16+z8 c) n<(n+1)*16 ^ s.length
 |[],n,_=>by simp
 |c::s,n,h=>by
  rw[List.all_cons,Bool.and_eq_true]at h;have y:z8 c<16:=by simpa[rC]using h.1
  have:=vF s (n*16+z8 c) h.2;rw[List.foldl_cons,length_cons,Nat.pow_succ];refine Nat.lt_of_lt_of_le this ?_;rw[Nat.mul_comm (16 ^ s.length) 16,<- Nat.mul_assoc];exact Nat.mul_le_mul_right _ (by omega)
theorem Tp (h:eK s=true):pT s<65536:=by
 unfold eK at h;simp only[Bool.and_eq_true,dTx]at h;have:=vF s 0 h.2;have y:16 ^ s.length <=16 ^ 4:=Nat.pow_le_pow_right (by decide) h.1.2;unfold pT;have D:(16:Nat) ^ 4=65536:=rfl;omega
def mL (l:List Nat):lU:=l.flatMap λn=>[UInt8.ofNat (n/256),UInt8.ofNat (n%256)]
theorem rA:∀l:List Nat,(mL l).length=2*l.length
 |[]=>rfl
 |n::l=>by
  have:=rA l;unfold mL at this ⊢;rw[List.flatMap_cons,length_append,this];simp;omega
theorem OO (a b:List Nat):mL (a++b)=mL a++mL b:=by unfold mL;rw[List.flatMap_append]
def MB (gs:List Nat)(k:Nat):lU:=mL (gs.take k)++replicate (16-2*k) 0
theorem zY {y:List Nat}(h:y.length=8)(D:k <=8):(MB y k).length=16:=by
 unfold MB;rw[length_append,rA,length_take,List.length_replicate];omega
theorem Ln {y:List Nat}(h:y.length=8)(E:k<8):((MB y k).set (2*k) (UInt8.ofNat ((y[k]'(by omega))/256))).set (2*k+1) (UInt8.ofNat ((y[k]'(by omega))%256))=MB y (k+1):=by
 unfold MB;have D:(mL (y.take k)).length=2*k:=by rw[rA,length_take];omega
 rw[show 16-2*k=(16-2*(k+1))+1+1 by omega,List.replicate_succ (n:=16-2*(k+1)+1),List.replicate_succ (n:=16-2*(k+1))];rw[List.set_append_right _ _ (by omega),D,Nat.sub_self,List.set_cons_zero,List.set_append_right _ _ (by omega),D,show 2*k+1-2*k=0+1 by omega,List.set_cons_succ,List.set_cons_zero,
  take_succ_eq_append_getElem (by omega),OO]
 simp[mL]
theorem To {gs:List Nat}(h:gs.length=8):MB gs 8=mL gs:=by unfold MB;rw[take_of_length_le (by omega)];simp
def e8V (s:lU):Option lU:=if e8 s=true then some (mL ((bE 58 [] s).map pT))else none
theorem Lo (x:lU)(h:j<x.length):pT (x.take (j+1))=pT (x.take j)*16+z8 x[j]:=by
 unfold pT;rw[take_succ_eq_append_getElem h,List.foldl_append];rfl
theorem Bi {x:lU}(h:∀i (y:i<j) (h:i<x.length),rC x[i]=true)(H:j <=4):pT (x.take j)<65536:=by
 have D:(x.take j).all rC=true:=List.all_eq_true.2 λc E=>by
  obtain⟨i,y,rfl⟩:=List.mem_iff_getElem.1 E;rw[length_take]at y;rw[List.getElem_take];exact h i (by omega) (by omega)
 have h1:=vF (x.take j) 0 D;have F:16 ^ (x.take j).length <=16 ^ 4:=Nat.pow_le_pow_right (by decide) (by rw[length_take];omega);have G:(16:Nat) ^ 4=65536:=rfl;unfold pT;omega
theorem Ju (h:n<256):((UInt8.ofNat n).toNat:Int)=(n:Int):=by rw[UInt8.toNat_ofNat'];omega
theorem Dx (c:UInt8)(w:World):Cf pc #[.int .u8 ((c.toNat:Nat):Int)] w (Ret λv w'=>v=vI (if rC c=true then(z8 c:Int)else -1)/\w'=w):=by
 apply Cj;have E:=ov c;have y:rC c=decide (z8 c<16):=rfl;refine jE (w:=w) (¬ (48 <=c.toNat/\c.toNat <=57)) (Yz (ab.of (λh=>?_) (λh=>⟨rfl,by simp at h;omega⟩))) (λh1=>?_)
 ·have:48 <=c.toNat/\c.toNat <=57:=by simp at h;omega
  have e:z8 c=c.toNat-48:=by unfold z8;rw[if_pos this]
  rw[y,e,if_pos (by simp;omega),wrJ (n:=((c.toNat:Nat):Int)),wrJ];exact⟨by congr 1;omega,rfl⟩
 refine jE (w:=w) (¬ (97 <=c.toNat/\c.toNat <=102)) (Yz (ab.of (λh=>?_) (λh=>⟨rfl,by simp at h;omega⟩))) (λD=>?_)
 ·have:97 <=c.toNat/\c.toNat <=102:=by simp at h;omega
  have e:z8 c=c.toNat-87:=by unfold z8;rw[if_neg h1,if_pos this]
  rw[y,e,if_pos (by simp;omega),wrJ (n:=((c.toNat:Nat):Int)),wrJ];exact⟨by congr 1;omega,rfl⟩
 refine Yz (ab.of (λh=>?_) (λh=>?_))
 ·have:65 <=c.toNat/\c.toNat <=70:=by simp at h;omega
  have e:z8 c=c.toNat-55:=by unfold z8;rw[if_neg h1,if_neg D,if_pos this]
  rw[y,e,if_pos (by simp;omega),wrJ (n:=((c.toNat:Nat):Int)),wrJ];exact⟨by congr 1;omega,rfl⟩
 ·have: ¬ (65 <=c.toNat/\c.toNat <=70):=by simp at h;omega
  have e:z8 c=16:=by unfold z8;rw[if_neg h1,if_neg D,if_neg this]
  rw[y,e,if_neg (by decide)];exact⟨rfl,rfl⟩
theorem tw (s:lU)(d3:s.length <=100000000)(w:World):Cf lE #[vS s] w (Ret λv w'=>v=adT (e8V s)/\bW w w'):=by
 apply Ck;intro bs aa du cp;have ag:=(cp▸ar w _:bW w aa)
 have b0:aB aa bs az (adC ad0):=aB.new du cp;intro k5 c2 dv cv;have b8:=(cv▸ar aa _:bW aa c2)
 have dj:=ae ag b8 ag.size;have dg:aB c2 k5 az (adC ad0):=aB.new dv cv;obtain⟨c3,d4,b2,cc⟩:=cE.store0 (cs:=adC ad0) rfl (fI _) dg rfl;refine⟨c3,d4,?_⟩;have a9:w.heap.size <=k5:=by have:=ag.size;omega
 have ef:=b0.lt;have dd:=(b0.below b8).grown cc (fM (by omega));have b7:=Below.put dj cc a9;refine aK (fq s 58 d3 c3) ?_;rintro _ ei ⟨a,n,c,rfl,bk,dn,aj⟩;have b6:=ae b7 aj b7.size;have b1:=dd.below aj;have df:=b2.below aj;have d2:=bk.len;have cf:∀x∈bE 58 [] s,x.length <=s.length:=λx y=>by simpa using gp 58 s [] x y
 have bt:∀{bw:World},e8 s=false->aB bw bs az (adC ad0)->bW w bw->_:=fun{bw} bq de dk=>cE.fin (K:=λbu M=>(.tuple #[bu,.bool false]:Value)=adT (e8V s)/\bW w M) (cs:=adC ad0) rfl (fI _) de rfl dk (by omega) λM D=>⟨by unfold e8V;rw[bq];rfl,D⟩
 refine⟨_,_,_,rfl,ab.of (λad=>?_) (λad=>?_)⟩
 ·refine bt ?_ b1 b6;rw[bne_iff_ne]at ad;unfold e8;rw[decide_eq_false (by omega),Bool.false_and]
 have be:(bE 58 [] s).length=8:=by simp at ad;omega
 have eg:=b2.lt;have cl:∀g,fm a=some g->g≠k5:=λg E e=>by have:=dn g E;omega
 have an:e8 s=(bE 58 [] s).all eK:=by unfold e8;rw[decide_eq_true be,Bool.true_and]
 have cb:e8 s=true->e8V s=some (mL ((bE 58 [] s).map pT)):=λh=>if_pos h;obtain⟨L,dm⟩:∃L,L=bE 58 [] s:=⟨_,rfl⟩
 rw[<- dm]at bk be cf d2 an cb;have b9:∀{x},x∈L->eK x=false->e8 s=false:=fun{x} y E=>by
  rw[an,Bool.eq_false_iff];intro G;rw[List.all_eq_true.1 G x y]at E;cases E
 have U:(L.map pT).length=8:=by simp[be]
 refine⟨λm i w'=>∃k:Nat,k <=8/\i=(k:Int)/\m=8-k/\(∀j (Y:j<k) (h:j<L.length),eK L[j]=true)/\aB w' k5 az (adC (MB (L.map pT) k))/\aB w' bs az (adC ad0)/\Ow tS ai w' NoB a n c L/\bW w w',
  ⟨_,0,by omega,rfl,rfl,λj Y=>by omega,df,b1,bk,b6⟩,?_⟩
 intro m i;refine aP.of ?_ _;rintro ac ⟨k,ds,rfl,rfl,cn,b3,O,bl,R⟩;refine ab.of (λh=>?_) (λh=>?_)<;>simp only[dTx,dFx]at h
 ·have d1:k<8:=by omega
  have bb:k<L.length:=by omega
  have Z:=bl.all.text (P:=prog) aI bb;have ed:=cf L[k] (getElem_mem bb);have V:(0 <=(k:Int)/\(k:Int)<(n:Int))/\Option.isSome a=true:=⟨⟨by omega,by omega⟩,bl.all.isSome (by omega)⟩
  have ch:L[k]∈L:=getElem_mem bb;refine jE (w:=ac) (1 <=L[k].length/\L[k].length <=4) ?_ (λcd=>?_)
  ·refine⟨λb w'=>w'=ac/\b=(!(decide (1 <=L[k].length)&&decide (L[k].length <=4))),⟨V,_,Z,ab.of (λh1=>⟨rfl,?_⟩) (λh1=>⟨V,_,Z,rfl,?_⟩)⟩,?_⟩
   ·have: ¬ 1 <=L[k].length:=by simp at h1;omega
    simp[this]
   ·have:1 <=L[k].length:=by simp at h1;omega
    rw[decide_eq_true this,Bool.true_and,Bool.eq_iff_iff];simp;omega
   ·intro b;refine aP.of ?_ _;rintro ea ⟨J,D⟩;rw[J,D];clear J D;refine ab.of (λh1=>bt (b9 ch ?_) O R) (λh1=>⟨rfl,by simpa using h1⟩);unfold eK;have dc:(decide (1 <=L[k].length)&&decide (L[k].length <=4))=false:=by simpa only[Bool.not_eq_true']using h1
    rw[dc,Bool.false_and]
  ·refine⟨λm v i w'=>w'=ac/\∃j:Nat,j <=L[k].length/\i=(j:Int)/\m=L[k].length-j/\v=((pT (L[k].take j):Nat):Int)/\∀q (F:q<j) (h:q<L[k].length),rC (L[k][q])=true,
    ⟨_,rfl,0,by omega,rfl,rfl,rfl,λq F=>by omega⟩,?_⟩
   intro m v i;refine aP.of ?_ _;rintro ea ⟨J,j,Y,rfl,rfl,rfl,y⟩;rw[J];clear J;refine⟨V,_,Z,?_⟩;have dr:=Bi y (by omega);refine ab.of (λaf=>?_) (λaf=>?_)<;>simp only[dTx,dFx]at af
   ·have a8:j<L[k].length:=by omega
    refine⟨V,_,Z,⟨by omega,af⟩,?_⟩;rw[byte_at a8];refine aK (Dx (L[k][j]) ac) ?_;rintro _ ek ⟨rfl,d7⟩;rw[d7];refine⟨_,rfl,?_⟩;by_cases H:rC (L[k][j])=true
    ·rw[if_pos H];have eb:z8 (L[k][j])<16:=by simpa[rC]using H
     refine ab.no (by simp) ⟨L[k].length-(j+1),by omega,rfl,j+1,by omega,by rw[wrJ];omega,rfl,?_,λq F bp=>?_⟩
     ·rw[wrJ (n:=_*_),wrJ,Lo _ a8];omega
     ·by_cases e:q=j
      ·subst e;exact H
      ·exact y q (by omega) bp
    ·rw[if_neg H];refine ab.yes (by decide) (bt (b9 ch ?_) O R);unfold eK;have:(L[k]).all rC=false:=by
      rw[Bool.eq_false_iff];intro G;exact H (List.all_eq_true.1 G _ (getElem_mem a8))
     rw[this,Bool.and_false]
   ·have:j=L[k].length:=by omega
    subst this;rw[take_length]at dr ⊢;have E:eK L[k]=true:=by
     unfold eK;rw[decide_eq_true cd.1,decide_eq_true cd.2,Bool.true_and,Bool.true_and];exact List.all_eq_true.2 λc G=>by
      obtain⟨q,F,rfl⟩:=List.mem_iff_getElem.1 G;exact y q F F
    have dl:(L.map pT)[k]'(by omega)=pT L[k]:=by simp
    refine⟨by decide,?_⟩;rintro _ rfl;have c4:i64.wrap (2*(k:Int))=((2*k:Nat):Int):=by rw[wrJ];omega
    have c8:i64.wrap (((2*k:Nat):Int)+1)=((2*k+1:Nat):Int):=by rw[wrJ];omega
    have e3:IntKind.u8.wrap (i64.wrap (Int.tdiv ((pT L[k]:Nat):Int) 256))=(((UInt8.ofNat (pT L[k]/256)).toNat:Nat):Int):=by
     rw[Am (by omega),wrJ,wrap_u8 (by omega) (by omega),Ju (by omega)];omega
    have c9:IntKind.u8.wrap (Int.tmod ((pT L[k]:Nat):Int) 256)=(((UInt8.ofNat (pT L[k]%256)).toNat:Nat):Int):=by
     rw[An (by omega),wrap_u8 (by omega) (by omega),Ju (by omega)];omega
    rw[c4,c8,iC,iC,e3];simp only[Nat.zero_add];have I:=zY U ds;obtain⟨d8,d5,b4,av⟩:=b3.put (P:=prog) gT (i:=2*k) (v:=.int .u8 (((UInt8.ofNat (pT L[k]/256)).toNat:Nat):Int)) (by rw[dC,I];omega) rfl rfl;rw[uo]at b4;refine⟨⟨⟨by omega,by omega⟩,trivial⟩,d8,d5,by decide,?_⟩;rintro _ rfl;rw[c9];obtain⟨d9,d6,b5,a0⟩:=b4.put (P:=prog) gT (i:=2*k+1) (v:=.int .u8 (((UInt8.ofNat (pT L[k]%256)).toNat:Nat):Int)) (by rw[dC,List.length_set,I];omega) rfl rfl;rw[uo,<- dl,Ln U d1]at b5;refine⟨⟨⟨by omega,by omega⟩,trivial⟩,d9,d6,8-(k+1),by omega,k+1,by omega,by rw[wrJ];omega,rfl,?_,b5,(O.grown av (fM (by omega))).grown a0 (fM (by omega)),(bl.put cl av).put cl a0,Below.put (Below.put R av a9) a0 a9⟩;intro q F bp;by_cases e:q=k
    ·subst e;exact E
    ·exact cn q (by omega) bp
 ·have:k=8:=by omega
  subst this;have bq:e8 s=true:=by
   rw[an];exact List.all_eq_true.2 λx y=>by
    obtain⟨j,Y,rfl⟩:=List.mem_iff_getElem.1 y;exact cn j (by omega) Y
  have I:(adC (MB (L.map pT) 8)).length=16:=by rw[dC,zY U (by omega)]
  refine⟨_,cE.load0 b3 I,?_⟩;exact cE.fin (K:=λbu M=>(.tuple #[bu,.bool true]:Value)=adT (e8V s)/\bW w M) I (fI _) O rfl R (by omega) λM D=>⟨by rw[cb bq,<- To U];rfl,D⟩
def v6A (s:lU):Option lU:=(v6V s).map mL
def X6 (o:Option lU):Prop:=∀a,o=some a->a.length=16
theorem EN (o:Option lU):adT o=.tuple #[adV (o.getD ad0),.bool o.isSome]:=by cases o<;>rfl
theorem yA {o:Option lU}(h:X6 o):(adC (o.getD ad0)).length=16:=by
 rw[dC];cases o with
 |none=>rfl
 |some a=>exact h a rfl
theorem RK (s:lU):X6 (e8V s):=λa h=>by
 unfold e8V at h;split at h
 ·rename_i y;unfold e8 at y;rw[Bool.and_eq_true,dTx]at y;rw[<- Option.some.inj h,rA,length_map,y.1]
 ·cases h
theorem QR (s:lU):X6 (v6A s):=λa h=>by
 unfold v6A at h;cases y:v6V s with
 |none=>rw[y]at h;cases h
 |some g=>
  rw[y]at h;rw[<- Option.some.inj h,rA,X0 y]
theorem VV (s:lU):X6 (v4V s):=λa h=>by
 unfold v4V at h;split at h
 ·rename_i y;rw[<- Option.some.inj h];simp;omega
 ·cases h
theorem Kt (s:lU)(d2:s.length <=99999000)(w:World):Cf xK #[vS s] w (Ret λv w'=>v=adT (v6A s)/\bW w w'):=by
 apply Jg;intro J bq de cp;have b3:=(cp▸ar w _:bW w bq)
 have G:aB bq J az (adC ad0):=aB.new de cp;refine aK (tw s (by omega) bq) ?_;rintro _ dk ⟨rfl,b8⟩;have b4:=ae b3 b8 b3.size;have dc:=G.below b8;refine⟨_,_,by rw[EN],?_⟩;refine cE.new (zs:=adC ad0) (cs:=adC ((e8V s).getD ad0)) rfl (yA (RK s)) (fI _) dk λd5 eb dv dd b9=>?_;have b5:=ae b4 b9 b4.size;have bu:=dc.below b9;have xN:∀{x:lU} {wx:World},v6A s=some x->aB wx J az (adC ad0)->bW w wx->_:=fun{x wx} aj av a8=>cE.fin (K:=λbp ac=>(.tuple #[bp,.bool true]:Value)=adT (v6A s)/\bW w ac) (cs:=adC x) (by rw[dC];exact QR s _ aj) (fI _) av rfl a8 (by omega) λac a9=>⟨by rw[aj];rfl,a9⟩
 refine ab.of (λh=>?_) (λh=>?_)
 ·have af:e8 s=true:=by
   unfold e8V at h;split at h
   ·assumption
   ·cases h
  refine⟨_,cE.load0 dd (yA (RK s)),?_⟩;have R:e8V s=some (mL ((bE 58 [] s).map pT)):=if_pos af;rw[R];exact xN (x:=mL ((bE 58 [] s).map pT)) (by unfold v6A;rw[Zy af];rfl) bu b5
 have af:e8 s=false:=by
  unfold e8V at h;split at h
  ·cases h
  ·rename_i df;simpa using df
 refine⟨λm i w'=>∃k:Nat,k <=s.length/\i=(k:Int)/\m=s.length-k/\
  (∀j,j<k->at2 s j->(∀i,i<j-> ¬ at2 s i)-> ¬ (((ey (s.take j)).all eK=true/\(ey (s.drop (j+2))).all eK=true)/\(ey (s.take j)).length+(ey (s.drop (j+2))).length<8))/\
  aB w' J az (adC ad0)/\bW w w',⟨_,0,by omega,rfl,rfl,λj U=>by omega,bu,b5⟩,?_⟩
 intro m i;refine aP.of ?_ _;rintro aa ⟨k,dr,rfl,rfl,ch,ad,ag⟩;have c8:i64.wrap ((k:Int)+2)=((k+2:Nat):Int):=by rw[wrJ];omega
 have c4:i64.wrap ((k:Int)+1)=((k+1:Nat):Int):=by rw[wrJ];omega
 rw[c8,c4];refine ab.of (λh=>?_) (λh=>?_)<;>simp only[dTx,dFx]at h
 ·have du:k+2 <=s.length:=by omega
  have bb:k<s.length:=by omega
  have be:k+1<s.length:=by omega
  have bk:∀{wx:World},(at2 s k->(∀i,i<k-> ¬ at2 s i)-> ¬ (((ey (s.take k)).all eK=true/\(ey (s.drop (k+2))).all eK=true)/\(ey (s.take k)).length+(ey (s.drop (k+2))).length<8))->
   aB wx J az (adC ad0)->bW w wx->∃cv:Nat,cv<s.length-k/\∃k':Nat,k' <=s.length/\((k+1:Nat):Int)=(k':Int)/\cv=s.length-k'/\
   (∀j,j<k'->at2 s j->(∀i,i<j-> ¬ at2 s i)-> ¬ (((ey (s.take j)).all eK=true/\(ey (s.drop (j+2))).all eK=true)/\(ey (s.take j)).length+(ey (s.drop (j+2))).length<8))/\
   aB wx J az (adC ad0)/\bW w wx:=fun{wx} I av a8=>⟨s.length-(k+1),by omega,k+1,by omega,rfl,rfl,λj U=>by
    by_cases e:j=k
    ·subst e;exact I
    ·exact ch j (by omega),av,a8⟩
  have c2:=om s[k] 58;have c3:=om s[k+1] 58;rw[show(((58:UInt8).toNat:Nat):Int)=58 from rfl]at c2 c3;refine jE (w:=aa) (at2 s k) ⟨⟨by omega,by omega⟩,?_⟩ (λH=>?_)
  ·rw[byte_at bb,bne,c2];refine ab.of (λE=>bk (λH=>?_) ad ag) (λE=>⟨⟨by omega,by omega⟩,?_⟩)
   ·have:=H.1;rw[List.getElem?_eq_getElem bb]at this;rw[Option.some.inj this]at E;simp at E
   ·rw[byte_at be,bne,c3];refine ab.of (λY=>bk (λH=>?_) ad ag) (λY=>⟨rfl,?_⟩)
    ·have:=H.2;rw[List.getElem?_eq_getElem be]at this;rw[Option.some.inj this]at Y;simp at Y
    ·exact⟨by rw[List.getElem?_eq_getElem bb];simp at E;rw[E],by rw[List.getElem?_eq_getElem be];simp at Y;rw[Y]⟩
  ·refine⟨⟨by omega,by omega⟩,?_⟩;intro y F;refine⟨⟨by omega,by omega⟩,?_⟩;intro D O;simp only[Int.toNat_natCast]at F O;have d7:y.length <=s.length:=by rw[F,length_take];omega
   have d8:D.length <=s.length:=by rw[O,length_drop];omega
   have d6:y.length+D.length+2=s.length:=by rw[F,O,length_take,length_drop];omega
   refine Zu (B:=λM=>ab _ (_/\∀Z,Z=(y++[58])->M Z aa) (M y aa)) (yF y) (ab.of (λE=>⟨fits (by simp;omega),?_⟩) (λE=>⟨rfl,?_⟩)) ?_
   ·rintro _ rfl;exact⟨rfl,by unfold yF;rw[if_neg (by simpa using E)]⟩
   ·unfold yF;rw[if_pos (by simpa using E)];simpa using E
   refine Zu (B:=λM=>ab _ (_/\∀Z,Z=([58]++D)->M Z aa) (M D aa)) (JT D) (ab.of (λE=>⟨fits (by simp;omega),?_⟩) (λE=>⟨rfl,?_⟩)) ?_
   ·rintro _ rfl;exact⟨rfl,by unfold JT;rw[if_neg (by simpa using E)];rfl⟩
   ·unfold JT;rw[if_pos (by simpa using E)];simpa using E
   have ea:(yF y).length <=y.length+1:=by unfold yF;split<;>simp
   have lb:(JT D).length <=D.length+1:=by unfold JT;split<;>simp
   refine⟨λm z i w'=>∃q:Nat,q <=8/\i=(q:Int)/\m=8-q/\z=zsK q/\(∀j,j<q->e8 (Md y D j)=false)/\aB w' J az (adC ad0)/\bW w w',⟨_,0,by omega,rfl,rfl,rfl,λj U=>by omega,ad,ag⟩,?_⟩;intro m z i;refine aP.of ?_ _;rintro dl ⟨q,d1,rfl,rfl,rfl,cl,bw,a0⟩;have d3:=TQ q;refine ab.of (λb2=>?_) (λb2=>?_)<;>simp only[dTx,dFx]at b2
   ·refine⟨fits (by omega),?_⟩;intro dj bs;have d9:dj.length=(yF y).length+(zsK q).length:=by rw[bs,length_append]
    refine⟨fits (by omega),?_⟩;intro bl bt;have c9:bl=Md y D q:=by rw[bt,bs];rfl
    have dg:bl.length <=100000000:=by rw[bt,length_append];omega
    refine aK (tw bl dg dl) ?_;rintro _ dm ⟨rfl,cb⟩;have b6:=ae a0 cb a0.size;rw[c9];refine⟨_,_,by rw[EN],?_⟩;refine cE.new (zs:=adC ad0) (cs:=adC ((e8V (Md y D q)).getD ad0)) rfl (yA (RK _)) (fI _) dm λd4 ed ds an cc=>?_;have b7:=ae b6 cc b6.size;have b0:=(bw.below cb).below cc;by_cases V:e8 (Md y D q)=true
    ·have R:e8V (Md y D q)=some (mL ((bE 58 [] (Md y D q)).map pT)):=if_pos V;have cf:=yA (RK (Md y D q));rw[R]at an cf ⊢;refine ab.yes rfl ⟨_,cE.load0 an cf,?_⟩;refine xN (x:=mL ((bE 58 [] (Md y D q)).map pT)) ?_ b0 b7;have cn:=(Oz y D q).1 V;rw[VW V];have cd:∀j,j<k-> ¬ at2 s j:=λj U I=>by
      have:=late I U H;rw[<- F,cn.1.1]at this;cases this
     unfold v6A;rw[XZ H cd,<- F,<- O,if_pos ⟨cn.1,by omega⟩];rfl
    ·have R:e8V (Md y D q)=none:=if_neg V;rw[R]at an ⊢;refine ab.no rfl ⟨fits (by simp;omega),?_⟩;rintro _ rfl;refine⟨8-(q+1),by omega,q+1,by omega,by rw[wrJ];omega,rfl,rfl,λj U=>?_,b0,b7⟩;by_cases e:j=q
     ·subst e;simpa using V
     ·exact cl j (by omega)
   ·have:q=8:=by omega
    subst this;refine bk (λ_ cd I=>?_) bw a0;rw[<- F,<- O]at I;have:=(Oz y D (7-(ey y).length-(ey D).length)).2 ⟨I.1,by omega⟩;rw[cl _ (by omega)]at this;cases this
 ·have aj:v6A s=none:=by
   unfold v6A;rcases vx s with⟨h1,G⟩|⟨p,h1,G,b1,dn⟩
   ·rw[Zz af G];rfl
   ·rw[XZ G b1,if_neg (ch p (by omega) G b1)];rfl
  exact cE.fin (K:=λbp ac=>(.tuple #[bp,.bool false]:Value)=adT (v6A s)/\bW w ac) (cs:=adC ad0) rfl (fI _) ad rfl ag (by omega) λac a9=>⟨by rw[aj];rfl,a9⟩
def VG:Ty Int:=ZO .u16 λ_=>True
theorem RQ:Flat VG:=λ_ _ _ _ _ _ h=>h
def i16 (l:List Int):List Value:=l.map λn=>Value.int .u16 n
theorem Vs {w:World}{A:Bl}{n:Int} :VG.rep w A [.int .u16 n] n:=⟨rfl,trivial⟩
theorem Qu:∀n,n<256->Lib.indexByte [48,49,50,51,52,53,54,55,56,57,97,98,99,100,101,102] (Da (UInt8.ofNat n))=if z8 (UInt8.ofNat n)<16 then(z8 (UInt8.ofNat n):Int)else -1:=by decide+kernel
theorem Qv (c:UInt8):Lib.indexByte [48,49,50,51,52,53,54,55,56,57,97,98,99,100,101,102] (Da c)=if z8 c<16 then(z8 c:Int)else -1:=by
 have:=Qu c.toNat (by have:=c.toNat_lt;omega)
 rwa [UInt8.ofNat_toNat]at this
theorem qae {a d:Nat}(J:a<4096)(H:d<16):IntKind.u16.wrap (((BitVec.ofInt (IntKind.bits .u16) (IntKind.u16.wrap ((a:Int)*2 ^ (min (Int.toNat (4:Int)) (IntKind.bits .u16))))) ||| (BitVec.ofInt (IntKind.bits .u16) (IntKind.u16.wrap (d:Int)))).toNat:Nat)=((a*16+d:Nat):Int):=by
 have E:(2:Int) ^ (min (Int.toNat (4:Int)) (IntKind.bits .u16))=16:=by decide
 have y:∀n:Nat,n<65536->IntKind.u16.wrap (n:Int)=(n:Int):=λn I=>by
  have:IntKind.u16.wrap (n:Int)=(n:Int)%65536:=rfl;rw[this];omega
 have F:(a:Int)*16=((a*16:Nat):Int):=by omega
 have D:∀n:Nat,n<65536->(BitVec.ofInt (IntKind.bits .u16) (n:Int)).toNat=n:=λn I=>by
  show(BitVec.ofInt 16 (n:Int)).toNat=n;rw[BitVec.toNat_ofInt];have:((n:Int)%((2 ^ 16:Nat):Int)).toNat=n:=by
   have h:((2 ^ 16:Nat):Int)=65536:=by decide
   rw[h];omega
  exact this
 rw[E,F,y (a*16) (by omega),y d (by omega),BitVec.toNat_or,D (a*16) (by omega),D d (by omega)];have G:a*16 ||| d=a*16+d:=by
  have:=Nat.two_pow_add_eq_or_of_lt (i:=4) H a;rw[Nat.mul_comm a 16];exact this.symm
 rw[G,y _ (by omega)]
def Fc (s:lU):List Int:=(ey s).map λx=>(pT x:Int)
theorem Fz (s:lU)(bk:s.length <=9223372036854775800)(w:World):Cf qQ #[vS s] w
 (Ret λv w'=>v=(if eK s=true then .tuple #[.int .u16 (pT s:Int),.bool true]else .tuple #[.int .u16 0,.bool false])/\bW w w'):=by
 apply DH;have H:∀{wx:World},eK s=false->bW w wx->(.tuple #[.int .u16 0,.bool false]:Value)=(if eK s=true then .tuple #[.int .u16 (pT s:Int),.bool true]else .tuple #[.int .u16 0,.bool false])/\bW w wx:=λI aj=>⟨by rw[I];rfl,aj⟩
 refine jE (w:=w) (1 <=s.length/\s.length <=4) ?_ (λV=>?_)
 ·refine ab.of (λh=>H ?_ (Below.refl _ _)) (λh=>ab.of (λF=>H ?_ (Below.refl _ _)) (λF=>⟨rfl,?_⟩))
  ·unfold eK;rw[decide_eq_false (by simp only[dTx]at h;omega),Bool.false_and,Bool.false_and]
  ·unfold eK;rw[decide_eq_false (p:=s.length <=4) (by simp only[dTx]at F;omega),Bool.and_false,Bool.false_and]
  ·simp only[dFx]at h F;exact⟨by omega,by omega⟩
 refine aK (kg s bk w) ?_;rintro _ bp ⟨rfl,U⟩;refine⟨_,rfl,?_⟩;have bl:(eF s).length=s.length:=by simp[eF]
 obtain⟨O,a,n,c,bb,J,an,bs⟩:=oI (P:=prog) aI bH cr bp (eF s) (by omega) NoB;have R:=ae U an U.size;have a8:=J.len;subst a8;refine⟨O,a,_,c,bb,?_⟩;refine⟨λm v i w'=>∃j:Nat,j <=s.length/\i=(j:Int)/\m=s.length-j/\v=((pT (s.take j):Nat):Int)/\(∀q (E:q<j) (h:q<s.length),rC s[q]=true)/\w'=O,⟨_,0,by omega,rfl,rfl,rfl,λq E=>by omega,rfl⟩,?_⟩;intro m v i;refine aP.of ?_ _;rintro w' ⟨j,bu,rfl,rfl,rfl,G,aa⟩;rw[aa];clear aa;rw[bl];refine ab.of (λh=>?_) (λh=>?_)<;>simp only[dTx,dFx]at h
 ·have Y:j<s.length:=by omega
  have bt:=Bi G (by omega);have Z:j<(eF s).length:=by omega
  obtain⟨v,M,be⟩:=J.all.load1 (i:=(j:Int)) cr rfl rfl (by simpa using Z);have:=CP be;subst this;simp only[Int.toNat_natCast]at M;have ad:(eF s)[j]=Da s[j]:=by simp[eF]
  rw[ad]at M;refine⟨⟨⟨by omega,h⟩,J.all.isSome Z⟩,_,M,?_⟩;refine(Tryz.strings_IndexByte (mkS [48,49,50,51,52,53,54,55,56,57,97,98,99,100,101,102]) _ O).mono ?_;rintro _ bw ⟨rfl,ac⟩;rw[ac];clear ac;have e5:Lib.indexByte (mkS [48,49,50,51,52,53,54,55,56,57,97,98,99,100,101,102]).data.toList (Int.toNat (((Da s[j]).toNat:Nat):Int)).toUInt8=if z8 s[j]<16 then(z8 s[j]:Int)else -1:=by
   rw[Int.toNat_natCast,show(Da s[j]).toNat.toUInt8=Da s[j] from UInt8.ofNat_toNat];exact Qv s[j]
  rw[e5];refine⟨_,rfl,?_⟩;by_cases D:z8 s[j]<16
  ·rw[if_pos D];have av:rC s[j]=true:=by simpa[rC]using D
   have af:pT (s.take j)<4096:=by
    have ag:(s.take j).all rC=true:=List.all_eq_true.2 λc y=>by
     obtain⟨i,a0,rfl⟩:=List.mem_iff_getElem.1 y;rw[length_take]at a0;rw[List.getElem_take];exact G i (by omega) (by omega)
    have h1:=vF (s.take j) 0 ag;have F:16 ^ (s.take j).length <=16 ^ 3:=Nat.pow_le_pow_right (by decide) (by rw[length_take];omega);have bq:(16:Nat) ^ 3=4096:=rfl;unfold pT;omega
   refine ab.no (by simp) ⟨by decide,s.length-(j+1),by omega,j+1,by omega,by rw[wrJ];omega,rfl,?_,λq E a9=>?_,rfl⟩
   ·rw[qae af D,Lo _ Y]
   ·by_cases e:q=j
    ·subst e;exact av
    ·exact G q (by omega) a9
  ·rw[if_neg D];refine ab.yes (by decide) (H ?_ R);unfold eK;have:s.all rC=false:=by
    rw[Bool.eq_false_iff];intro y;have:=List.all_eq_true.1 y _ (getElem_mem Y);exact D (by simpa[rC]using this)
   rw[this,Bool.and_false]
 ·have:j=s.length:=by omega
  subst this;have I:eK s=true:=by
   unfold eK;rw[decide_eq_true V.1,decide_eq_true V.2,Bool.true_and,Bool.true_and];exact List.all_eq_true.2 λc y=>by
    obtain⟨q,E,rfl⟩:=List.mem_iff_getElem.1 y;exact G q E E
  rw[take_length,if_pos I];exact⟨rfl,R⟩
def NI (s:lU)(w:World)(v:Value)(w':World):Prop:=
 ∃(a:Option Addr) (n c:Nat),v=.tuple #[.slice a n c,.bool ((ey s).all eK)]/\((ey s).all eK=true->Ow VG gk w' NoB a n c (Fc s)/\bo w.heap.size a/\(Fc s=[]->a=none/\n=0/\c=0))/\((ey s).all eK=false->n=0)/\bW w w'
theorem Az (s:lU)(bu:s.length<4294967281)(w:World)(a8:Env w):Cf sG #[vS s] w (Ret (NI s w)):=by
 apply Jd;refine ab.of (λh=>?_) (λh=>?_)
 ·have I:s=[]:=by simpa using h
  subst I;exact⟨none,0,0,rfl,λ_=>⟨Ow.nil _ _ _ _,bo.none _,λ_=>⟨rfl,rfl,rfl⟩⟩,λ_=>rfl,Below.refl _ _⟩
 have bl:s≠[]:=by simpa using h
 have af:ey s=bE 58 [] s:=by unfold ey;rw[if_neg bl]
 have an:Fc s=(bE 58 [] s).map λx=>(pT x:Int):=by unfold Fc;rw[af]
 unfold NI;rw[af,an];refine aK (eH s 58 bu w a8) ?_;rintro _ U ⟨a,n,c,rfl,aa,b4,y⟩;have b7:=aa.len;have bk:∀x∈bE 58 [] s,x.length <=s.length:=λx O=>by simpa using gp 58 s [] x O
 have b3:=dK 58 s [];have bp:=jN 58 s [];refine⟨_,_,_,rfl,?_⟩;generalize bE 58 [] s=L at*;refine⟨λm a4 R H i w'=>∃k:Nat,k <=L.length/\i=(k:Int)/\m=L.length-k/\(∀j (F:j<k) (h:j<L.length),eK L[j]=true)/\Ow VG gk w' NoB a4 R H ((L.take k).map λx=>(pT x:Int))/\bo U.heap.size a4/\bW U w',
  ⟨_,0,by omega,rfl,rfl,λj F=>by omega,Ow.nil _ _ _ _,bo.none _,Below.refl _ _⟩,?_⟩
 intro m a4 R H i;refine aP.of ?_ _;rintro b1 ⟨k,b5,rfl,rfl,ad,M,Z,D⟩;have ac:=aa.below D;refine ab.of (λh=>?_) (λh=>?_)<;>simp only[dTx,dFx]at h
 ·have G:k<L.length:=by omega
  have b6:=bk L[k] (getElem_mem G);refine⟨⟨⟨by omega,h⟩,ac.all.isSome (by omega)⟩,_,ac.all.text aI G,?_⟩;refine aK (Fz L[k] (by omega) b1) ?_;rintro _ b9 ⟨rfl,Y⟩;have V:=ae D Y D.size;by_cases E:eK L[k]=true
  ·rw[if_pos E];refine⟨_,_,rfl,ab.no rfl ?_⟩;intro b8 cb be bw;have bq:=M.below Y;obtain⟨b2,ag,b0,aj,bt,bs,a9,av⟩:=uQ (ty:=eP) (w0:=U) (cm:=1) (vs:=[_]) RQ rY Jn (by decide) bq Z V be bw (Vs) (by simp;omega);refine⟨b2,ag,b0,aj,bt,L.length-(k+1),by omega,k+1,by omega,by rw[wrJ];omega,rfl,λj F bb=>?_,?_,a9,av⟩
   ·by_cases e:j=k
    ·subst e;exact E
    ·exact ad j (by omega) bb
   ·rw[take_succ_eq_append_getElem G,map_append];exact bs
  ·rw[if_neg E];refine⟨_,_,rfl,ab.yes rfl ?_⟩;have J:L.all eK=false:=by
    rw[Bool.eq_false_iff];intro a0;exact E (List.all_eq_true.1 a0 _ (getElem_mem G))
   rw[J];exact⟨none,0,0,rfl,(λh=>by cases h),(λ_=>rfl),ae y V y.size⟩
 ·have:k=L.length:=by omega
  subst this;have J:L.all eK=true:=List.all_eq_true.2 λx O=>by
   obtain⟨j,F,rfl⟩:=List.mem_iff_getElem.1 O;exact ad j (by omega) F
  rw[take_length]at M;rw[J];refine⟨a4,R,H,rfl,(λ_=>⟨M,Z.mono y.size,λI=>?_⟩),(λh=>by cases h),ae y D y.size⟩;exact absurd (List.map_eq_nil_iff.1 I) bp
theorem O5 (l:List Int):zR (i16 l):=λc y=>by
 obtain⟨x,_,rfl⟩:=List.mem_map.1 y;rfl
theorem MA (w:World)(k:Nat):w.grownBy w (some k):=⟨rfl,rfl,rfl,Nat.le_refl _,λ_ _ _=>rfl⟩
theorem Lh {P:Program}{y sT ty elem:TypeId}(J:P.underlying y=some (.slice elem))(I:(P.info? elem).map (·.size)=some 1){w:World}{T:TypeId}{vs:List Value}(h:aB w k T vs)
 {a:Option Addr} {n c:Nat} {xs:List Int} (G:Ow VG elem w NoB a n c xs) (ad:xs=[]->a=none/\n=0/\c=0) {o dLen dCap:Nat} {A:Addr} (O:xs≠[]->A=⟨k,o,none⟩) (a0:xs.length <=dLen) (U:o+xs.length <=vs.length):
 ∃w',(Builtin.copy_ #[y,sT] ty #[.slice (some A) dLen dCap,.slice a n c]).run P w=.ok (vI ((xs.length:Nat):Int)) w'/\aB w' k T (vs.take o++i16 xs++vs.drop (o+xs.length))/\w.grownBy w' (some k):=by
 by_cases D:xs=[]
 ·obtain⟨rfl,rfl,rfl⟩:=ad D;subst D;refine⟨w,run_copy_nil P w y sT ty elem A dLen dCap J (by rw[I];rfl),?_,MA w k⟩;simpa[i16]using h
 ·have ac:=G.len;obtain⟨h1,aj,an,M⟩:=G.all;obtain⟨b,off,rfl,av,-,l,af,R⟩:=M.resolve_left D;have Z:l=i16 xs:=jL (h1:=λ_=>rfl) af;subst Z;rw[O D];have E:(i16 xs).length=xs.length:=by simp[i16]
  have ag:∀(j:Nat) (v:Value),(i16 xs)[j]? =some v->w.cell? ((⟨b,off,none⟩:Addr).add j)=some v:=by
   intro j v F;have Y:j<(i16 xs).length:=(List.getElem?_eq_some_iff.1 F).1;have e:(⟨b,off,none⟩:Addr).add j=⟨b,off+j,none⟩:=by unfold Addr.add;split<;>simp_all
   rw[e,R j Y,F]
  have aa:(i16 xs).length=Nat.min n dLen:=by rw[E,ac];exact(Nat.min_eq_left (by omega)).symm
  have H:=run_copy_row P w y sT ty elem k o dLen dCap ⟨b,off,none⟩ n c vs.toArray T (i16 xs) J I h aa ag (by rw[E];simpa using U) (O5 xs);rw[E]at H;have V:=setRow_heap w k vs.toArray (vs.take o++i16 xs++vs.drop (o+xs.length)).toArray T (0,0) h;exact⟨_,H,V,gg w k _⟩
theorem KM:IntKind.u8.wrap (n:Int)=(((UInt8.ofNat (n%256)).toNat:Nat):Int):=by
 have e:IntKind.u8.wrap (n:Int)=(n:Int)%256:=rfl
 try dsimp only
 rw[e,Ju (by omega)];omega
theorem Zx (h:n<65536):IntKind.u8.wrap (Int.fdiv (n:Int) (2 ^ (min (Int.toNat (8:Int)) (IntKind.bits .u16))))=(((UInt8.ofNat (n/256)).toNat:Nat):Int):=by
 have y:(2:Int) ^ (min (Int.toNat (8:Int)) (IntKind.bits .u16))=256:=by decide
 have D:Int.fdiv (n:Int) 256=((n/256:Nat):Int):=by rw[Int.fdiv_eq_ediv_of_nonneg _ (by decide)];omega
 rw[y,D,wrap_u8 (by omega) (by omega),Ju (by omega)]
theorem HG (F G H I J M O R:Nat)(Y:∀g∈[F,G,H,I,J,M,O,R],g<65536)(w:World):
 Cf uw #[.agg #[.int .u16 (F:Int),.int .u16 (G:Int),.int .u16 (H:Int),.int .u16 (I:Int),.int .u16 (J:Int),.int .u16 (M:Int),.int .u16 (O:Int),.int .u16 (R:Int)]] w
  (Ret λv w'=>v=adV (mL [F,G,H,I,J,M,O,R])/\bW w w'):=by
 apply GT;intro D af dd b6;have b1:=(b6▸ar w _:bW w af)
 have an:aB af D ba (i16 ([F,G,H,I,J,M,O,R].map λg:Nat=>(g:Int))):=aB.new dd b6;obtain⟨y,a8⟩:∃y,y=[F,G,H,I,J,M,O,R]:=⟨_,rfl⟩
 have Z:y.length=8:=by rw[a8];rfl
 rw[<- a8]at an Y ⊢;clear a8;intro ad ag de b7;have b2:=(b7▸ar af _:bW af ag)
 have av:=ae b1 b2 b1.size;have bs:aB ag ad az (adC ad0):=aB.new de b7;intro k3 cb df b8;have a9:=(b8▸ar ag _:bW ag cb)
 have c3:=ae av a9 av.size;have c2:aB cb k3 az (adC ad0):=aB.new df b8;have cv:=bs.below a9;have cn:=(an.below b2).below a9;have dl:=an.lt;have dm:=bs.lt;have b5:w.heap.size <=k3:=by have:=av.size;omega
 refine⟨λm i w'=>∃k:Nat,k <=8/\i=(k:Int)/\m=8-k/\aB w' k3 az (adC (MB y k))/\aB w' ad az (adC ad0)/\aB w' D ba (i16 (y.map λg:Nat=>(g:Int)))/\bW w w',
  ⟨_,0,by omega,rfl,rfl,c2,cv,cn,c3⟩,?_⟩
 intro m i;refine aP.of ?_ _;rintro aj ⟨k,dc,rfl,rfl,bu,bt,cp,a0⟩;refine ab.of (λh=>?_) (λh=>?_)<;>simp only[dTx,dFx]at h
 ·have dg:k<8:=by omega
  have c9:=Y y[k] (getElem_mem (by omega));have ch:i64.wrap (2*(k:Int))=((2*k:Nat):Int):=by rw[wrJ];omega
  have cl:i64.wrap (((2*k:Nat):Int)+1)=((2*k+1:Nat):Int):=by rw[wrJ];omega
  rw[ch,cl,iC,iC,iC];simp only[Nat.zero_add];have b3:(0 <=(k:Int)/\(k:Int)<((8:Nat):Int))/\True:=⟨⟨by omega,by omega⟩,trivial⟩
  have b4:(0 <=((2*k:Nat):Int)/\((2*k:Nat):Int)<((16:Nat):Int))/\True:=⟨⟨by omega,by omega⟩,trivial⟩
  have bl:(0 <=((2*k+1:Nat):Int)/\((2*k+1:Nat):Int)<((16:Nat):Int))/\True:=⟨⟨by omega,by omega⟩,trivial⟩
  have c4:bW w (drew aj):=ae a0 (sK rfl rfl rfl (Nat.le_refl _) (λ_ _=>rfl)) a0.size;have cf:aB (drew aj) k3 az (adC (MB y k)):=bu;have cd:aB (drew aj) ad az (adC ad0):=bt;have E:aB (drew aj) D ba (i16 (y.map λg:Nat=>(g:Int))):=cp;have c8:(i16 (y.map λg:Nat=>(g:Int)))[k]? =some (.int .u16 ((y[k]'(by omega):Nat):Int)):=by
   unfold i16;rw[List.getElem?_map,List.getElem?_map,List.getElem?_eq_getElem (by omega)];rfl
  have V:∀{wx:World},aB wx D ba (i16 (y.map λg:Nat=>(g:Int)))->(Instr.loadAt gk (.pointer (some ⟨D,k,none⟩))).run prog wx=.ok (.int .u16 ((y[k]'(by omega):Nat):Int)) wx:=λdj=>dj.load1 CS rfl c8;have U:=zY Z dc;obtain⟨bp,aa,bw,be⟩:=cf.put (P:=prog) gT (i:=2*k) (v:=.int .u8 (((UInt8.ofNat (y[k]/256)).toNat:Nat):Int)) (by rw[dC,U];omega) rfl rfl;rw[uo]at bw;have bq:=E.grown be (fM (by omega));obtain⟨w9,ac,b0,bk⟩:=bw.put (P:=prog) gT (i:=2*k+1) (v:=.int .u8 (((UInt8.ofNat (y[k]%256)).toNat:Nat):Int)) (by rw[dC,List.length_set,U];omega) rfl rfl;rw[uo,Ln Z dg]at b0;have bb:∃b9:Nat,b9<8-k/\∃k':Nat,k' <=8/\i64.wrap ((k:Int)+1)=(k':Int)/\b9=8-k'/\aB w9 k3 az (adC (MB y k'))/\aB w9 ad az (adC ad0)/\aB w9 D ba (i16 (y.map λg:Nat=>(g:Int)))/\bW w w9:=
   ⟨8-(k+1),by omega,k+1,by omega,by rw[wrJ];omega,rfl,b0,(cd.grown be (fM (by omega))).grown bk (fM (by omega)),bq.grown bk (fM (by omega)),Below.put (Below.put c4 be b5) bk b5⟩
  rw[<- Zx c9]at aa;rw[<- KM]at ac;refine⟨b3,b3,⟨_,V E,by decide,b4,⟨_,V E,bp,aa,bl,w9,ac,bb⟩,bp,aa,_,V bq,bl,w9,ac,bb⟩,_,V E,_,V E,by decide,b4,bp,aa,bl,w9,ac,bb⟩
 ·have:k=8:=by omega
  subst this;have U:(adC (MB y 8)).length=16:=by rw[dC,zY Z (by omega)]
  refine⟨_,cE.load0 bu U,?_⟩;exact cE.fin (K:=λdk cc=>dk=adV (mL y)/\bW w cc) U (fI _) bt rfl a0 (by omega) λcc Y=>⟨by rw[To Z];rfl,Y⟩
theorem yy:Whl prog ba 8:=⟨⟨_,_,EH⟩,by kernel_rfl⟩
theorem Mn (s:lU)(ek:s.length<4294967281)(w:World)(a0:Env w):Cf AY #[vS s] w (Ret λv w'=>v=adT (v6A s)/\bW w w'):=by
 apply Kw;intro c3 H d8 cv;have af:=(cv▸ar w _:bW w H)
 have F:aB H c3 az (adC ad0):=aB.new d8 cv;obtain⟨m,d9⟩:=(a0.step af).max;refine(Tryz.strings_Cut (mkS s) (mkS [58,58]) m H ek d9).mono ?_;rintro _ fl ⟨rfl,q,rfl⟩;have b1:bW H (H.drewN q):=sK rfl rfl rfl (Nat.le_refl _) (λ_ _=>rfl);have ag:=ae af b1 af.size;have du:=F.below b1;have be:(Lib.cut s [58,58]).1.length <=s.length/\(Lib.cut s [58,58]).2.1.length <=s.length:=by
  rcases vx s with⟨h1,-⟩|⟨p,h1,-⟩<;>rw[h1]
  ·exact⟨Nat.le_refl _,Nat.zero_le _⟩
  ·exact⟨by rw[length_take];omega,by rw[length_drop];omega⟩
 have cn:v6A s=(if J9 (Lib.cut s [58,58]).2.2 (ey (Lib.cut s [58,58]).1) (ey (Lib.cut s [58,58]).2.1)=true then some (v6L (ey (Lib.cut s [58,58]).1) (ey (Lib.cut s [58,58]).2.1))else none).map mL:=rfl;show ∃(et:lU) (eu:lU) (c9:Bool),(Ending.returned (.tuple #[.string (mkS (Lib.cut s [58,58]).1),.string (mkS (Lib.cut s [58,58]).2.1),.bool (Lib.cut s [58,58]).2.2]):Ending)=.returned (.tuple #[vS et,vS eu,.bool c9])/\_;generalize Lib.cut s [58,58]=C at*;obtain⟨f,b,g⟩:=C;refine⟨f,b,g,rfl,?_⟩;have e6:f.length <=s.length:=be.1;have e4:b.length <=s.length:=be.2;have cl:v6A s=(if J9 g (ey f) (ey b)=true then some (v6L (ey f) (ey b))else none).map mL:=cn;clear cn be;refine aK (Az f (by omega) _ (a0.step ag)) ?_;rintro _ ev ⟨a4,ep,ex,rfl,cc,e7,b2⟩;have aj:=ae ag b2 ag.size;refine⟨_,_,_,_,rfl,?_⟩;refine aK (Az b (by omega) ev (a0.step aj)) ?_;rintro _ aa ⟨a5,eq,c5,rfl,cd,e9,Y⟩;have U:=ae aj Y aj.size;have ad:=(du.below b2).below Y;refine⟨_,_,_,_,rfl,?_⟩;have ch:∀t:lU,(ey t).length <=t.length+1:=λt=>by
  unfold ey;split
  ·simp
  ·exact dK 58 t []
 have D:∀t:lU,(Fc t).length=(ey t).length:=λt=>by simp[Fc]
 have fb:=ch f;have fa:=ch b;have ea:(ey f).all eK=true->ep=(ey f).length:=λh=>by rw[<- D];exact(cc h).1.len
 have bk:(ey b).all eK=true->eq=(ey b).length:=λh=>by rw[<- D];exact(cd h).1.len
 have er:∀{bq:World},J9 g (ey f) (ey b)=false->aB bq c3 az (adC ad0)->bW w bq->_:=fun{bq} d6 d1 d4=>cE.fin (K:=λbp I=>(.tuple #[bp,.bool false]:Value)=adT (v6A s)/\bW w I) (cs:=adC ad0) rfl (fI _) d1 rfl d4 (by omega) λI av=>⟨by rw[cl,d6];rfl,av⟩
 refine jE (w:=aa) (J9 g (ey f) (ey b)=true) ?_ (λb5=>?_)
 ·refine⟨λx w'=>w'=aa/\x= !(J9 g (ey f) (ey b)),?_,?_⟩
  ·refine ab.of (λh1=>⟨rfl,?_⟩) (λh1=>?_)
   ·have M:(ey f).all eK=false:=by simpa only[Bool.not_eq_true']using h1
    unfold J9;rw[M,Bool.false_and,Bool.false_and];rfl
   have M:(ey f).all eK=true:=by simpa only[Bool.not_eq_false']using h1
   refine ab.of (λF=>⟨rfl,?_⟩) (λF=>?_)
   ·have R:(ey b).all eK=false:=by simpa only[Bool.not_eq_true']using F
    unfold J9;rw[R,Bool.and_false,Bool.false_and];rfl
   have R:(ey b).all eK=true:=by simpa only[Bool.not_eq_false']using F
   have dd:J9 g (ey f) (ey b)=if g then decide ((ey f).length+(ey b).length<8)else decide ((ey f).length+(ey b).length=8):=by unfold J9;rw[M,R,Bool.and_self,Bool.true_and]
   rw[dd,ea M,bk R,wrJ];cases g with
   |true=>
    refine ab.yes rfl (ab.of (λbw=>⟨rfl,?_⟩) (λbw=>ab.no rfl ⟨rfl,?_⟩))<;>simp at bw ⊢<;>omega
   |false=>
    refine ab.no rfl (ab.yes rfl ⟨rfl,?_⟩);rw[Bool.eq_iff_iff];simp;omega
  ·intro x;refine aP.of ?_ _;rintro fo ⟨c2,y⟩;rw[c2,y];clear c2 y;exact ab.of (λh1=>er (by simpa only[Bool.not_eq_true']using h1) ad U) (λh1=>⟨rfl,by simpa only[Bool.not_eq_false']using h1⟩)
 ·have a8:=b5;unfold J9 at a8;rw[Bool.and_eq_true,Bool.and_eq_true]at a8;obtain⟨⟨bu,J⟩,ac⟩:=a8;have e2:(ey f).length+(ey b).length <=8:=by
   split at ac
   ·have:=of_decide_eq_true ac;omega
   ·have:=of_decide_eq_true ac;omega
  obtain⟨b9,e0,en⟩:=cc bu;obtain⟨cb,e1,eo⟩:=cd J;rw[bk J];intro k12 c4 d7 cp;have V:=(cp▸ar aa _:bW aa c4)
  have d2:=ae U V U.size;have dr:aB c4 k12 ba (i16 [0,0,0,0,0,0,0,0]):=aB.new d7 cp;have ed:=(b9.below Y).below V;have ef:=cb.below V;have fe:∀g,fm a4=some g->g≠k12:=λg a9 e=>by have:=b9.lt g a9;have:=Y.size;omega
  have es:∀g,fm a5=some g->g≠k12:=λg a9 e=>by have:=cb.lt g a9;omega
  have b7:w.heap.size <=k12:=by have:=U.size;omega
  have fd:=ad.lt;obtain⟨ew,ei,ds,bb⟩:=Lh (P:=prog) (sT:=eP) (ty:=co) (dLen:=8) (dCap:=8) (o:=0) (A:=⟨k12,0,none⟩) rY (by kernel_rfl) dr ed en (λ_=>rfl) (by rw[D];omega) (by rw[D];simp[i16];omega);have e5:Int.toNat (i64.wrap ((8:Int)-(((ey b).length:Nat):Int)))=8-(ey b).length:=by rw[wrJ];omega
  have bt:i64.wrap ((8:Int)-(((ey b).length:Nat):Int))=((8-(ey b).length:Nat):Int):=by rw[wrJ];omega
  refine⟨trivial,ew,_,ei,⟨by rw[bt];omega,by rw[bt];omega⟩,?_⟩;rw[e5];have eg:=ef.put es bb;have b8:(List.take 0 (i16 [0,0,0,0,0,0,0,0])++i16 (Fc f)++List.drop (0+(Fc f).length) (i16 [0,0,0,0,0,0,0,0])).length=8:=by
   have:=D f;simp[i16];omega
  obtain⟨c8,cf,O,b6⟩:=Lh (P:=prog) (sT:=eP) (ty:=co) (dLen:=8-(8-(ey b).length)) (dCap:=8-(8-(ey b).length)) (o:=8-(ey b).length) (A:=if 8=8-(ey b).length then⟨k12,0,none⟩ else Addr.add ⟨k12,0,none⟩ ((8-(ey b).length)*1)) rY (by kernel_rfl) ds eg eo
   (λeb=>by
    have:(ey b).length≠0:=λe=>eb (List.length_eq_zero_iff.1 (by rw[D];exact e));rw[if_neg (by omega)];unfold Addr.add;split<;>simp_all) (by rw[D];omega) (by rw[D,b8];omega)
  rw[bk J]at cf;refine⟨c8,_,cf,?_⟩;obtain⟨E,G⟩:∃E,E=v6L (ey f) (ey b):=⟨_,rfl⟩
  have d5:E.length=8:=by rw[G];simp[v6L];omega
  have an:∀x∈E,x<65536:=λx y=>by
   rw[G]at y;unfold v6L at y;rcases List.mem_append.1 y with y|y
   ·rcases List.mem_append.1 y with y|y
    ·obtain⟨bs,bl,rfl⟩:=List.mem_map.1 y;exact Tp (List.all_eq_true.1 bu bs bl)
    ·rw[(List.mem_replicate.1 y).2];decide
   ·obtain⟨bs,bl,rfl⟩:=List.mem_map.1 y;exact Tp (List.all_eq_true.1 J bs bl)
  have b4:(List.take 0 (i16 [0,0,0,0,0,0,0,0])++i16 (Fc f)++List.drop (0+(Fc f).length) (i16 [0,0,0,0,0,0,0,0])).take (8-(ey b).length)++i16 (Fc b)++(List.take 0 (i16 [0,0,0,0,0,0,0,0])++i16 (Fc f)++List.drop (0+(Fc f).length) (i16 [0,0,0,0,0,0,0,0])).drop (8-(ey b).length+(Fc b).length)=i16 (E.map λx:Nat=>(x:Int)):=by
   have em:i16 [0,0,0,0,0,0,0,0]=replicate 8 (Value.int .u16 0):=rfl;rw[em,List.take_zero,nil_append,List.drop_replicate,D,D,Nat.zero_add,G];rw[show 8-(ey b).length+(ey b).length=8 by omega,drop_eq_nil_of_le (by simp[i16,Fc];omega),append_nil];rw[List.take_append,take_of_length_le (by simp[i16,Fc];omega),List.take_replicate];have dc:min (8-(ey b).length-(i16 (Fc f)).length) (8-(ey f).length)=8-(ey f).length-(ey b).length:=by
    have:(i16 (Fc f)).length=(ey f).length:=by simp[i16,Fc]
    omega
   rw[dc];unfold v6L i16 Fc;simp;rfl
  rw[b4]at O;have b0:=Below.put (Below.put d2 bb b7) b6 b7;have dv:=((ad.below V).grown bb (fM (by omega))).grown b6 (fM (by omega));have Z:v6A s=some (mL E):=by rw[cl,b5,G];rfl
  clear G b4 b8
  match E,d5,an,O,Z with
  |[de,df,dg,dj,dk,dl,dm,dn],_,an,O,Z=>
   refine⟨_,_,_,_,_,_,_,_,yy.load0 O rfl,?_⟩;refine aK (HG de df dg dj dk dl dm dn an c8) ?_;rintro _ fn ⟨rfl,b3⟩;have d3:=ae b0 b3 b0.size;refine⟨_,rfl,?_⟩;exact cE.fin (K:=λbp I=>(.tuple #[bp,.bool true]:Value)=adT (v6A s)/\bW w I) (by rw[dC];exact QR s _ Z) (fI _) (dv.below b3) rfl d3 (by omega) λI av=>⟨by rw[Z];rfl,av⟩
end Go.Pk
