/- What the laws lean on: Shelf, DateE, DateF, DateG, DateH, DateI, DateJ, DateK, DateL, DateM, DateN, DateO, DateR, DateS, DateT, HdrA, HdrB, HdrC, Big; what is used. Its conditions: none. -/
import Derived.Test.YtlfolncaghkmcaaGreatDoorKC
import Derived.Shelf.Strings.SlTrimAscii
import Derived.Shelf.Strings.Builder1
import Derived.Shelf.Strings.Builder2
import Derived.Shelf.Strings.OnBuilder
import Derived.Shelf.Strings.Trim
import Derived.Shelf.Small.Utf8
import Derived.Shelf.Small.Bits
import Derived.Shelf.Small.Strs
import Derived.Shelf.Small.Wraps
import Derived.Shelf.Strings.BuilderF
import Derived.Shelf.Strings.BuilderK
import Derived.Shelf.Utf8.RuneCount
import Derived.Shelf.Strings.Builder2Cap
import Derived.Shelf.Strconv.Atoi
import Derived.Shelf.Strconv.Itoa0
import Derived.Shelf.Strconv.Itoa1
import Derived.Shelf.LaysM
import Derived.Shelf.Strconv.Itoa2
import Derived.Shelf.Strconv.Itoa3
import Derived.Shelf.Strconv.AtoiErrFast
import Derived.Shelf.Strconv.ParseIntEmpty
import Derived.Shelf.Strconv.AtoiFail
import Derived.Shelf.Strconv.Clone
import Derived.Shelf.Strconv.SyntaxError
import Derived.Shelf.Strconv.Lower
import Derived.Shelf.Strconv.ParseUint10
import Derived.Shelf.Strconv.ParseUint10Empty
import Derived.Shelf.Strconv.RangeError
import Derived.Shelf.Strconv.ParseUintEmpty
import Derived.Shelf.Strconv.ParseUint10b64
import Derived.Shelf.Strconv.ParseUint10b32
import Derived.Shelf.Strconv.ParseUint10b16
import Derived.Shelf.Strconv.ParseUint10b8
import Derived.Shelf.Strings.Search1
import Derived.Shelf.Strings.Search2
import Derived.Shelf.Strings.Search3
import Derived.Shelf.Strings.Cut
import Derived.Shelf.Strings.Count
import Derived.Shelf.Strings.Shaped
import Derived.Shelf.Strings.LastIndex
import Derived.Shelf.Strings.Prefix
import Derived.Shelf.Strings.Split
import Derived.Shelf.Strings.SplitShaped
import Derived.Shelf.Unicode.Decode
import Derived.Shelf.Strings.Runes
import Derived.Shelf.Strings.RuneCount
import Derived.Shelf.Strings.IndexAny
import Derived.Shelf.Strings.AsciiSet
import Derived.Shelf.Strings.IndexAnyAll
import Derived.Shelf.Strings.Explode
import Derived.Shelf.Bits.Mul64
import Derived.Shelf.Strings.Repeat
import Derived.Shelf.Unicode.DecodeSlow
import Derived.Shelf.Unicode.DecodeAny
import Derived.Shelf.Unicode.DecodeLast
variable {n m i k:Nat}{w:Go.World}{t:Go.TypeId}{s:List UInt8}{P:Go.Program}
open Go.IntKind (i64)
open Go.Proofs.Tryz
namespace Go.Pk
open Go.RowKit (Below)
open Go.Proofs
end Go.Pk
namespace Go.Proofs
open Go.Pk (Cf vS vI bW)
open Go.Shelf
open Go.RowKit in
def Tryz.lays156_ren:Go.Shelf.Ren:=⟨fun|156=>49|165=>98|166=>99|169=>100|240=>166|241=>167|276=>222|277=>223|n=>n,fun|31=>104|9=>9|3=>3|4=>4|0=>0|20=>20|72=>170|76=>174|70=>168|37=>43|75=>173|127=>229|164=>263|5=>5|80=>176|n=>n,fun|n=>n⟩
theorem Tryz.lays156:Go.Proofs.Lays.n156 prog Tryz.lays156_ren:=by constructor <;> intros <;> kernel_rfl
theorem Tryz.Builder_Extra_156:Builder.Extra prog Tryz.lays156_ren:= {
 sizeBuilder:=by kernel_rfl
 liesBuilder:=by kernel_rfl
 t5:=Tryz.underlying5
 a5:=Tryz.isAgg5
 z5:=Tryz.sizeOf5
 v5:=Tryz.zeroValue5
 infoByte:=by kernel_rfl
 cellsByte:=by kernel_rfl
 sizeByte:=by kernel_rfl
 neB5:=by decide }
open Go.RowKit in
theorem Tryz.strings_Join_none (a:Option Addr)(c:Nat)(sep:ByteArray)(w:World):
 Cf 49 #[.slice a 0 c,.string sep] w λe w'=>e=.returned (.string ⟨#[]⟩)/\w'=w:=Any.strings_Join_none Tryz.lays156 Tryz.Builder_Extra_156 a c sep w
open Go.RowKit in
theorem Tryz.strings_Join (e o c:Nat)(xs:List ByteArray)(sep:ByteArray)(w:World)(H:∀(j:Nat) x,xs[j]? =some x->w.cell? ⟨e,o+j,none⟩=some (.string x))(E:e<w.heap.size)(D:xs.length <=140737488355328)(G:xs.length <=c)(I:(Lib.join (xs.map (·.data.toList)) sep.data.toList).length <=140737488355328):
 Cf 49 #[.slice (some ⟨e,o,none⟩) xs.length c,.string sep] w λq w'=>q=.returned (.string ⟨(Lib.join (xs.map (·.data.toList)) sep.data.toList).toArray⟩)/\bW w w':=Any.strings_Join Tryz.lays156 Tryz.Builder_Extra_156 e o c xs sep w H E D G I
open Go.RowKit in
def Tryz.lays161_ren:Go.Shelf.Ren:=⟨fun|161=>194|231=>170|227=>107|233=>172|235=>174|228=>108|197=>226|151=>227|260=>264|152=>105|137=>176|119=>177|224=>178|225=>179|217=>229|266=>266|n=>n,fun|9=>9|4=>4|3=>3|5=>5|117=>182|116=>181|0=>0|124=>232|105=>266|21=>21|119=>299|46=>167|139=>302|138=>301|n=>n,fun|3=>1|4=>2|n=>n⟩
theorem Tryz.lays161:Go.Proofs.Lays.n161 prog Tryz.lays161_ren:=by constructor <;> intros <;> kernel_rfl
open Go.RowKit in
theorem Tryz.strings_TrimLeft_one (s:ByteArray)(c:UInt8)(q:c.toNat<128)(w:World):
 Cf 194 #[.string s,.string ⟨#[c]⟩] w λe w'=>e=.returned (.string ⟨(Lib.trimLeftB s.data.toList c).toArray⟩)/\w'=w:=Any.strings_TrimLeft_one Tryz.lays161 s c q w
def Tryz.lays160_ren:Go.Shelf.Ren:=⟨fun|160=>103|232=>171|231=>170|227=>107|234=>173|233=>172|236=>175|235=>174|228=>108|271=>228|151=>227|197=>226|120=>265|152=>105|260=>264|137=>176|119=>177|224=>178|225=>179|217=>229|266=>266|n=>n,fun|9=>9|4=>4|3=>3|5=>5|117=>182|116=>181|0=>0|124=>232|21=>21|105=>266|46=>167|119=>299|139=>302|138=>301|n=>n,fun|3=>1|4=>2|n=>n⟩
theorem Tryz.lays160:Go.Proofs.Lays.n160 prog Tryz.lays160_ren:=by constructor <;> intros <;> kernel_rfl
open Go.RowKit in
theorem Tryz.strings_Trim_one (s:ByteArray)(c:UInt8)(q:c.toNat<128)(w:World)(D:s.size <=9223372036854775807):
 Cf 103 #[.string s,.string ⟨#[c]⟩] w λe w'=>e=.returned (.string ⟨(Lib.trimB s.data.toList c).toArray⟩)/\(w'=w\/w'=w.drew):=Any.strings_Trim_one Tryz.lays160 s c q w D
def Tryz.lays119_ren:Go.Shelf.Ren:=⟨fun|119=>177|n=>n,fun|21=>21|4=>4|n=>n,fun|n=>n⟩
theorem Tryz.lays119:Go.Proofs.Lays.n119 prog Tryz.lays119_ren:=by constructor <;> intros <;> kernel_rfl
theorem Tryz.utf8_ValidRune (r:Int)(w:World):
 Cf 177 #[.int .i32 r] w λe w'=>e=.returned (.bool (Lib.validRune r))/\w'=w:=Any.utf8_ValidRune Tryz.lays119 r w
def Tryz.lays137_ren:Go.Shelf.Ren:=⟨fun|137=>176|217=>229|266=>266|n=>n,fun|9=>9|5=>5|3=>3|n=>n,fun|n=>n⟩
theorem Tryz.lays137:Go.Proofs.Lays.n137 prog Tryz.lays137_ren:=by constructor <;> intros <;> kernel_rfl
open Go.RowKit in
theorem Tryz.strings_IndexByte (s:ByteArray)(c:Int)(w:World):
 Cf 176 #[.string s,.int .u8 c] w λe w'=>e=.returned (vI (Lib.indexByte s.data.toList c.toNat.toUInt8))/\w'=w:=Any.strings_IndexByte Tryz.lays137 s c w
open Go.RowKit in
def Tryz.lays103_ren:Go.Shelf.Ren:=⟨fun|103=>109|210=>180|206=>104|n=>n,fun|9=>9|4=>4|24=>186|3=>3|n=>n,fun|n=>n⟩
theorem Tryz.lays103:Go.Proofs.Lays.n103 prog Tryz.lays103_ren:=by constructor <;> intros <;> kernel_rfl
open Go.RowKit in
theorem Tryz.strings_CutPrefix (s p:ByteArray)(w:World):
 Cf 109 #[.string s,.string p] w λe w'=>e=.returned (.tuple #[.string ⟨(Lib.trimPrefix s.data.toList p.data.toList).toArray⟩,.bool (Lib.hasPrefix s.data.toList p.data.toList)])/\w'=w:=Any.strings_CutPrefix Tryz.lays103 s p w
open Go.RowKit in
def Tryz.lays104_ren:Go.Shelf.Ren:=⟨fun|104=>110|211=>181|207=>198|n=>n,fun|9=>9|4=>4|24=>186|3=>3|n=>n,fun|n=>n⟩
theorem Tryz.lays104:Go.Proofs.Lays.n104 prog Tryz.lays104_ren:=by constructor <;> intros <;> kernel_rfl
open Go.RowKit in
theorem Tryz.strings_CutSuffix (s p:ByteArray)(w:World)(q:s.size <=9223372036854775807):
 Cf 110 #[.string s,.string p] w λe w'=>e=.returned (.tuple #[.string ⟨(Lib.trimSuffix s.data.toList p.data.toList).toArray⟩,.bool (Lib.hasSuffix s.data.toList p.data.toList)])/\w'=w:=Any.strings_CutSuffix Tryz.lays104 s p w q
open Go.RowKit in
def Tryz.lays172_ren:Go.Shelf.Ren:=⟨fun|172=>270|244=>283|245=>284|247=>293|279=>294|280=>295|281=>296|282=>297|287=>305|316=>306|171=>199|205=>307|321=>312|322=>313|243=>244|246=>274|283=>286|284=>287|285=>288|286=>289|129=>165|317=>300|318=>301|319=>302|320=>303|337=>310|338=>311|n=>n,fun|9=>9|3=>3|75=>173|76=>174|4=>4|5=>5|167=>313|37=>43|0=>0|85=>314|2=>2|168=>316|53=>228|175=>324|46=>167|210=>327|127=>229|145=>335|143=>333|21=>21|171=>307|173=>309|212=>322|51=>226|20=>20|213=>323|232=>336|233=>337|80=>176|n=>n,fun|15=>4|16=>5|17=>3|18=>6|19=>7|n=>n⟩
theorem Tryz.lays172:Go.Proofs.Lays.n172 prog Tryz.lays172_ren:=by constructor <;> intros <;> kernel_rfl
open Go.RowKit in
theorem Tryz.strconv_Atoi (s:ByteArray)(n:Int)(q:s.size <=18)(h:Lib.atoi s.data.toList=some n)(w:World):
 Cf 270 #[.string s] w λe w'=>e=.returned (.tuple #[vI n,.nilIface])/\∃t,w'=Lib.bytesWorld w 5 t:=Any.strconv_Atoi Tryz.lays172 s n q h w
open Go.Lib in
open Go.RowKit Go.Sort Go.Lib in
def Tryz.laysM246_ren:Go.Shelf.Ren:=⟨fun|246=>274|283=>286|284=>287|285=>288|286=>289|129=>165|317=>300|318=>301|319=>302|320=>303|337=>310|338=>311|n=>n,fun|2=>2|3=>3|9=>9|4=>4|171=>307|0=>0|53=>228|37=>43|5=>5|173=>309|212=>322|51=>226|20=>20|213=>323|46=>167|232=>336|233=>337|n=>n,fun|17=>3|18=>6|19=>7|n=>n⟩
theorem Tryz.laysM246:Go.Proofs.LaysM.n246 prog Tryz.laysM246_ren:=by constructor <;> first|(intros;kernel_rfl)|(constructor <;> intros <;> kernel_rfl)
open Go.RowKit Go.Sort Go.Lib in
theorem Tryz.internal_strconv_FormatInt_10 (n:Int)(q: -9223372036854775808 <=n)(h1:n <=9223372036854775807)(w:World)(D:Lib.TabIs prog w "internal/strconv.uint64pow10" .u64 Lib.pow10Tab):
 Cf 274 #[vI n,vI 10] w λe w'=>e=.returned (.string ⟨(Lib.itoa n).toArray⟩)/\∃k os,w'=grow (w.drewN k) os:=Any.internal_strconv_FormatInt_10 Tryz.laysM246 n q h1 w D
open Go.RowKit Go.Sort Go.Lib in
def Tryz.laysM171_ren:Go.Shelf.Ren:=⟨fun|171=>199|243=>244|246=>274|283=>286|284=>287|285=>288|286=>289|129=>165|317=>300|318=>301|319=>302|320=>303|337=>310|338=>311|n=>n,fun|3=>3|9=>9|2=>2|4=>4|171=>307|0=>0|53=>228|37=>43|5=>5|173=>309|212=>322|51=>226|20=>20|213=>323|46=>167|232=>336|233=>337|n=>n,fun|17=>3|18=>6|19=>7|n=>n⟩
theorem Tryz.laysM171:Go.Proofs.LaysM.n171 prog Tryz.laysM171_ren:=by constructor <;> first|(intros;kernel_rfl)|(constructor <;> intros <;> kernel_rfl)
open Go.RowKit Go.Sort Go.Lib in
theorem Tryz.strconv_Itoa (n:Int)(q: -9223372036854775808 <=n)(h1:n <=9223372036854775807)(w:World)(D:Lib.TabIs prog w "internal/strconv.uint64pow10" .u64 Lib.pow10Tab):
 Cf 199 #[vI n] w λe w'=>e=.returned (.string ⟨(Lib.itoa n).toArray⟩)/\∃k os,w'=grow (w.drewN k) os:=Any.strconv_Itoa Tryz.laysM171 n q h1 w D
def Tryz.lays171_ren:Go.Shelf.Ren:=⟨fun|171=>199|243=>244|246=>274|283=>286|284=>287|285=>288|286=>289|129=>165|317=>300|318=>301|319=>302|320=>303|337=>310|338=>311|n=>n,fun|3=>3|9=>9|2=>2|4=>4|171=>307|0=>0|53=>228|37=>43|5=>5|173=>309|212=>322|51=>226|20=>20|213=>323|46=>167|232=>336|233=>337|n=>n,fun|17=>3|18=>6|19=>7|n=>n⟩
theorem Tryz.lays171:Go.Proofs.Lays.n171 prog Tryz.lays171_ren:=by constructor <;> intros <;> kernel_rfl
open Go.RowKit Go.Sort Go.Lib in
theorem Tryz.strconv_Itoa_small (i:Nat)(q:i<100)(w:World):
 Cf 199 #[vI i] w λe w'=>e=.returned (.string ⟨(Lib.decDigits i).toArray⟩)/\w'=w:=Any.strconv_Itoa_small Tryz.lays171 i q w
open Go.RowKit in
open Go.RowKit Go.Lib in
def Tryz.lays145_ren:Go.Shelf.Ren:=⟨fun|145=>119|220=>190|219=>235|217=>229|225=>179|224=>178|267=>269|266=>266|314=>282|n=>n,fun|9=>9|4=>4|59=>128|3=>3|5=>5|46=>167|146=>303|51=>226|n=>n,fun|1=>0|n=>n⟩
theorem Tryz.lays145:Go.Proofs.Lays.n145 prog Tryz.lays145_ren:=by constructor <;> intros <;> kernel_rfl
open Go.RowKit Go.Lib in
theorem Tryz.strings_Cut (s sep:ByteArray)(m:Int)(w:World)(D:s.size<4294967281)(q:w.cell? ⟨0,0,none⟩=some (vI m)):
 Cf 119 #[.string s,.string sep] w λe w'=>e=.returned (.tuple #[.string ⟨(Lib.cut s.data.toList sep.data.toList).1.toArray⟩,.string ⟨(Lib.cut s.data.toList sep.data.toList).2.1.toArray⟩,.bool (Lib.cut s.data.toList sep.data.toList).2.2])/\∃n,w'=w.drewN n:=Any.strings_Cut Tryz.lays145 s sep m w D q
open Go.RowKit Go.Lib in
def Tryz.lays149_ren:Go.Shelf.Ren:=⟨fun|149=>128|222=>197|n=>n,fun|9=>9|5=>5|3=>3|4=>4|n=>n,fun|n=>n⟩
theorem Tryz.lays149:Go.Proofs.Lays.n149 prog Tryz.lays149_ren:=by constructor <;> intros <;> kernel_rfl
open Go.RowKit Go.Lib in
theorem Tryz.strings_LastIndexByte (s:ByteArray)(c:Int)(q:s.size<4611686018427387904)(w:World):
 Cf 128 #[.string s,.int .u8 c] w λe w'=>e=.returned (vI (Lib.lastIndexByte s c))/\w'=w:=Any.strings_LastIndexByte Tryz.lays149 s c q w
open Go.RowKit Go.Lib in
def Tryz.lays99_ren:Go.Shelf.Ren:=⟨fun|99=>53|206=>104|n=>n,fun|9=>9|4=>4|3=>3|n=>n,fun|n=>n⟩
theorem Tryz.lays99:Go.Proofs.Lays.n99 prog Tryz.lays99_ren:=by constructor <;> intros <;> kernel_rfl
open Go.RowKit Go.Lib in
theorem Tryz.strings_HasPrefix (s p:ByteArray)(w:World):
 Cf 53 #[.string s,.string p] w λe w'=>e=.returned (.bool (Lib.hasPrefix s.data.toList p.data.toList))/\w'=w:=Any.strings_HasPrefix Tryz.lays99 s p w
open Go.RowKit Go.Lib in
def Tryz.lays100_ren:Go.Shelf.Ren:=⟨fun|100=>130|207=>198|n=>n,fun|9=>9|4=>4|3=>3|n=>n,fun|n=>n⟩
theorem Tryz.lays100:Go.Proofs.Lays.n100 prog Tryz.lays100_ren:=by constructor <;> intros <;> kernel_rfl
open Go.RowKit Go.Lib in
theorem Tryz.strings_HasSuffix (s p:ByteArray)(w:World)(q:s.size <=9223372036854775807):
 Cf 130 #[.string s,.string p] w λe w'=>e=.returned (.bool (Lib.hasSuffix s.data.toList p.data.toList))/\w'=w:=Any.strings_HasSuffix Tryz.lays100 s p w q
open Go.RowKit Go.Lib in
def Tryz.lays101_ren:Go.Shelf.Ren:=⟨fun|101=>122|208=>195|206=>104|n=>n,fun|9=>9|4=>4|3=>3|n=>n,fun|n=>n⟩
theorem Tryz.lays101:Go.Proofs.Lays.n101 prog Tryz.lays101_ren:=by constructor <;> intros <;> kernel_rfl
open Go.RowKit Go.Lib in
theorem Tryz.strings_TrimPrefix (s p:ByteArray)(w:World):
 Cf 122 #[.string s,.string p] w λe w'=>e=.returned (.string ⟨(Lib.trimPrefix s.data.toList p.data.toList).toArray⟩)/\w'=w:=Any.strings_TrimPrefix Tryz.lays101 s p w
open Go.RowKit Go.Lib in
def Tryz.lays146_ren:Go.Shelf.Ren:=⟨fun|146=>118|221=>189|268=>232|138=>233|143=>234|195=>267|197=>226|218=>268|219=>235|260=>264|217=>229|225=>179|224=>178|267=>269|266=>266|314=>282|n=>n,fun|9=>9|31=>104|3=>3|4=>4|0=>0|105=>266|21=>21|5=>5|46=>167|119=>299|139=>302|138=>301|146=>303|51=>226|n=>n,fun|1=>0|3=>1|4=>2|n=>n⟩
theorem Tryz.lays146:Go.Proofs.Lays.n146 prog Tryz.lays146_ren:=by constructor <;> intros <;> kernel_rfl
open Go.RowKit Go.Lib in
theorem Tryz.strings_Split (s sep:ByteArray)(m:Int)(w:World)(D:s.size<4294967281)(q:w.cell? ⟨0,0,none⟩=some (vI m))(h1:1 <=sep.size):
 Cf 118 #[.string s,.string sep] w λe w'=>
  e=.returned (.slice (some ⟨w.heap.size,0,none⟩) (Lib.countB s sep+1) (Lib.countB s sep+1))/\w'=w.alloc (.cells ((Lib.splitB sep 0 (Lib.countB s sep) s).map Value.string).toArray 9):=Any.strings_Split Tryz.lays146 (by kernel_rfl) s sep m w D q h1
open Go.RowKit Go.Lib in
def Tryz.lays152_ren:Go.Shelf.Ren:=⟨fun|152=>105|137=>176|119=>177|224=>178|225=>179|217=>229|266=>266|n=>n,fun|9=>9|21=>21|3=>3|4=>4|5=>5|0=>0|46=>167|n=>n,fun|n=>n⟩
theorem Tryz.lays152:Go.Proofs.Lays.n152 prog Tryz.lays152_ren:=by constructor <;> intros <;> kernel_rfl
open Go.RowKit Go.Lib in
theorem Tryz.strings_IndexRune_ascii (s:ByteArray)(r:Int)(w:World)(q:0 <=r)(h1:r<128):
 Cf 105 #[.string s,.int .i32 r] w λe w'=>e=.returned (vI (Lib.indexByte s.data.toList r.toNat.toUInt8))/\w'=w:=Any.strings_IndexRune_ascii Tryz.lays152 s r w q h1
open Go.RowKit Go.Lib in
def Tryz.lays226_ren:Go.Shelf.Ren:=⟨fun|226=>106|n=>n,fun|3=>3|4=>4|n=>n,fun|n=>n⟩
theorem Tryz.lays226:Go.Proofs.Lays.n226 prog Tryz.lays226_ren:=by constructor <;> intros <;> kernel_rfl
open Go.RowKit Go.Lib in
theorem Tryz.strings_shouldUseASCIISet (n:Int)(w:World):
 Cf 106 #[vI n] w λe w'=>e=.returned (.bool (decide (8<n)))/\w'=w:=Any.strings_shouldUseASCIISet Tryz.lays226 n w
def Tryz.lays153_ren:Go.Shelf.Ren:=⟨fun|153=>54|152=>105|226=>106|227=>107|228=>108|137=>176|119=>177|224=>178|225=>179|217=>229|266=>266|n=>n,fun|9=>9|3=>3|4=>4|5=>5|21=>21|117=>182|116=>181|0=>0|46=>167|124=>232|n=>n,fun|n=>n⟩
theorem Tryz.lays153:Go.Proofs.Lays.n153 prog Tryz.lays153_ren:=by constructor <;> intros <;> kernel_rfl
open Go.RowKit Go.Lib in
theorem Tryz.strings_IndexAny_long (M:∀w,(zeroValue 181).run prog w=.ok (.agg (Array.replicate 256 (.bool false))) w)(s e:ByteArray)(w:World)(D:2 <=e.size)(E:8<s.size)(I:s.size<4294967281)(H:e.size<4294967281)(G:∀(j:Nat) b,e.data.toList[j]? =some b->b.toNat<128):
 Cf 54 #[.string s,.string e] w λq w'=>q=.returned (vI (Lib.indexAny s.data.toList e.data.toList))/\w'=((w.alloc (.cells (Lib.setCells e.data.toList) 181)).alloc (.cells (Lib.setCells e.data.toList) 181)):=Any.strings_IndexAny_long Tryz.lays153 M (by kernel_rfl) s e w D E I H G
open Go.RowKit Go.Lib in
def Tryz.lays105_ren:Go.Shelf.Ren:=⟨fun|105=>285|212=>298|99=>53|165=>98|166=>99|170=>299|169=>100|263=>308|264=>309|206=>104|240=>166|241=>167|276=>222|277=>223|n=>n,fun|9=>9|3=>3|4=>4|20=>20|0=>0|46=>167|109=>319|5=>5|72=>170|76=>174|51=>226|146=>303|53=>228|148=>330|70=>168|37=>43|75=>173|127=>229|164=>263|80=>176|n=>n,fun|n=>n⟩
theorem Tryz.lays105:Go.Proofs.Lays.n105 prog Tryz.lays105_ren:=by constructor <;> intros <;> kernel_rfl
theorem Tryz.Builder_Extra_105:Builder.Extra prog Tryz.lays105_ren:= {
 sizeBuilder:=by kernel_rfl
 liesBuilder:=by kernel_rfl
 t5:=Tryz.underlying5
 a5:=Tryz.isAgg5
 z5:=Tryz.sizeOf5
 v5:=Tryz.zeroValue5
 infoByte:=by kernel_rfl
 cellsByte:=by kernel_rfl
 sizeByte:=by kernel_rfl
 neB5:=by decide }
open Go.RowKit Go.Lib in
theorem Tryz.strings_Repeat (s:ByteArray)(c:Nat)(w:World)(q:c <=9223372036854775807)(D:s.size*c <=140737488355328):
 Cf 285 #[.string s,vI c] w λe w'=>e=.returned (.string ⟨(Lib.repeatL s.data.toList c).toArray⟩)/\bW w w':=Any.strings_Repeat Tryz.lays105 Tryz.Builder_Extra_105 s c w q D
open Go.RowKit Go.Lib in
open Go.RowKit in
theorem Tryz.strings_TrimLeft_laid (s e:ByteArray)(w:World)(E:e.size<4294967281)(D:∀(j:Nat) b,e.data.toList[j]? =some b->b.toNat<128):
 Cf 194 #[.string s,.string e] w λq w'=>q=.returned (.string ⟨(Lib.trimLeftS s.data.toList e.data.toList).toArray⟩)/\bW w w':=
 Any.strings_TrimLeft_laid Tryz.lays161 (by kernel_rfl) s e w E D
open Go.RowKit in
theorem Tryz.strings_Trim_laid (s e:ByteArray)(w:World)(G:s.size <=9223372036854775807)(E:e.size<4294967281)(D:∀(j:Nat) b,e.data.toList[j]? =some b->b.toNat<128):
 Cf 103 #[.string s,.string e] w λq w'=>q=.returned (.string ⟨(Lib.trimS s.data.toList e.data.toList).toArray⟩)/\bW w w':=
 Any.strings_Trim_laid Tryz.lays160 (by kernel_rfl) s e w G E D
end Go.Proofs
namespace Go.Pk
open Go.RowKit (Below)
open Go.Proofs
set_option linter.unusedVariables false
set_option linter.unusedSimpArgs false
set_option maxRecDepth 20000
def xP (n:Int):Prop:=n=9\/(32 <=n/\n <=47)\/(59 <=n/\n <=64)\/(91 <=n/\n <=96)\/(123 <=n/\n <=126)
instance  (n:Int):Decidable (xP n):=by unfold xP;infer_instance
theorem MU (n:Int)(w:World):Cf CV #[.int .u8 n] w (Ret λv w'=>v=.bool (decide (xP n))/\w'=w):=by
 apply Lu
 repeat' (refine ai.of (λh=>?_) (λh=>?_))
 all_goals
  refine⟨?_,rfl⟩
  congr 1
  rw[Bool.eq_iff_iff]
  simp only[dTx]
  simp only[xP,beq_iff_eq,beq_eq_false_iff_ne,ge_iff_le,dTx,dFx,true_iff,false_iff,iff_true,reduceCtorEq,Bool.false_eq_true]at*
  omega
def gO (c:UInt8):Bool:=decide (48 <=c)&&decide (c <=57)
def fI (s:List UInt8):List UInt8:=s.takeWhile gO
def jT (l:List UInt8):Int:=l.foldl (λn c=>n*10+((c.toNat:Int)-48)) 0
theorem Pd:∀n,n<256->([48,49,50,51,52,53,54,55,56,57]:List UInt8).contains (UInt8.ofNat n)=gO (UInt8.ofNat n):=by decide+kernel
theorem Sc (c:UInt8):([48,49,50,51,52,53,54,55,56,57]:List UInt8).contains c=gO c:=by
 have:=Pd c.toNat (by have:=c.toNat_lt;omega)
 rwa [UInt8.ofNat_toNat]at this
theorem UQ (s:List UInt8):Lib.trimLeftS s [48,49,50,51,52,53,54,55,56,57]=s.dropWhile gO:=by
 unfold Lib.trimLeftS
 congr 1
 funext c
 exact Sc c
theorem N8 (s:List UInt8):fI s++s.dropWhile gO=s:=List.takeWhile_append_dropWhile
theorem VM (s:List UInt8):(s.dropWhile gO).length+(fI s).length=s.length:=by
 have:=congrArg List.length (N8 s)
 rw[List.length_append]at this;omega
theorem rB (s:List UInt8):s.take (fI s).length=fI s:=by
 have h:(fI s++s.dropWhile gO).take (fI s).length=fI s:=List.take_left' rfl
 rwa [N8]at h
theorem qu:∀c∈fI s,gO c=true:=λc e=>List.all_eq_true.1 (List.all_takeWhile (p:=gO) (l:=s)) c e
theorem nu {c:UInt8} :gO c=true ↔ 48 <=c.toNat/\c.toNat <=57:=by
 unfold gO
 rw[Bool.and_eq_true,dTx,dTx,UInt8.le_iff_toNat_le,UInt8.le_iff_toNat_le]
 exact Iff.rfl
theorem Qf:∀(l:List UInt8) (e:Nat),(∀c∈l,gO c=true)->∃n:Nat,Lib.decFrom e l=some n/\(n:Int)=l.foldl (λn c=>n*10+((c.toNat:Int)-48)) (e:Int)
 |[],e,_=>⟨e,rfl,rfl⟩
 |c::l,e,h=>by
  have D:=nu.1 (h c List.mem_cons_self)
  obtain⟨n,h1,q⟩:=Qf l (e*10+(c.toNat-48)) λx E=>h x (List.mem_cons_of_mem _ E)
  refine⟨n,?_,?_⟩
  ·unfold Lib.decFrom Lib.digitVal
   rw[if_pos D];exact h1
  ·rw[q,List.foldl_cons]
   congr 1
   omega
theorem T7 {l:List UInt8}(H:l≠[])(h:∀c∈l,gO c=true):Lib.atoi l=some (jT l):=by
 match l,H with
 |c::r,_=>
  have q:=nu.1 (h c List.mem_cons_self)
  unfold Lib.atoi
  have h1:(c==45)=false:=by rw[beq_eq_false_iff_ne];intro e;subst e;simp at q
  have G:(c==43)=false:=by rw[beq_eq_false_iff_ne];intro e;subst e;simp at q
  obtain⟨n,D,E⟩:=Qf (c::r) 0 h
  simp only[h1,G,Bool.false_eq_true,if_false]
  unfold Lib.decNat
  simp only[List.isEmpty_cons,Bool.false_eq_true,if_false,D,Option.map_some]
  rw[E];rfl
def Tm (s:List UInt8)(least most:Int):Value:=if least <=((fI s).length:Int)/\((fI s).length:Int) <=most then .tuple #[vI (jT (fI s)),vS (s.drop (fI s).length),.bool true]else .tuple #[vI 0,vS s,.bool false]
theorem O6 (w:World)(e:TypeId)(s:ByteArray):bW w (Lib.bytesWorld w e s):=by
 unfold Lib.bytesWorld
 refine uE rfl rfl rfl (by simp[World.freeze]) λk q=>?_
 simp only[World.freeze,if_neg (show ¬ (1:Nat)=0 by decide),Array.getElem?_modify]
 rw[if_neg (show ¬ w.heap.size=k by omega)]
 exact(Below.refl w.drew.heap.size w.drew |>.alloc (Nat.le_refl _) _).block k q
theorem Ae (s:List UInt8)(D E:Int)(h1:1 <=D)(Y:E <=18)(ac:s.length <=9223372036854775807)(w:World):
 Cf vu #[vS s,vI D,vI E] w (Ret λv w'=>v=Tm s D E/\bW w w'):=by
 apply J7
 refine(Tryz.strings_TrimLeft_laid (mkS s) (mkS [48,49,50,51,52,53,54,55,56,57]) w (by decide) (ascii_of_all (by decide))).mono ?_
 rintro _ G ⟨rfl,q⟩
 have H:(mkS s).data.toList=s:=rfl
 have M:(mkS [48,49,50,51,52,53,54,55,56,57]).data.toList=[48,49,50,51,52,53,54,55,56,57]:=rfl
 rw[H,M,UQ]
 refine⟨s.dropWhile gO,rfl,?_⟩
 have Z:=VM s
 have O:i64.wrap ((s.length:Int)-((s.dropWhile gO).length:Int))=((fI s).length:Int):=by rw[wrap_i64 (by omega) (by omega)];omega
 try dsimp only
 rw[O]
 refine⟨λw'=>w'=G/\D <=((fI s).length:Int)/\((fI s).length:Int) <=E,?_,?_⟩
 ·refine ai.of (λh=>?_) (λh=>?_) <;> simp only[dTx,dFx]at h
  ·exact⟨by unfold Tm;rw[if_neg (by omega)],q⟩
  ·refine ai.of (λe=>?_) (λe=>?_) <;> simp only[gt_iff_lt,dTx,dFx]at e
   ·exact⟨by unfold Tm;rw[if_neg (by omega)],q⟩
   ·exact⟨rfl,by omega,by omega⟩
 ·refine aP.of ?_ _
  rintro G ⟨rfl,e,U⟩
  refine⟨⟨by omega,by omega⟩,?_⟩
  rintro _ rfl
  simp only[Int.toNat_natCast]
  rw[rB]
  have V:fI s≠[]:=λH=>by rw[H]at e;simp at e;omega
  refine(Tryz.strconv_Atoi (mkS (fI s)) (jT (fI s)) (by show(fI s).length <=18;omega) (T7 V qu) G).mono ?_
  rintro _ _ ⟨rfl,t,rfl⟩
  refine⟨_,_,rfl,⟨by omega,by omega⟩,?_⟩
  rintro _ rfl ad X
  have I:=O6 G 5 t
  refine⟨by unfold Tm;rw[if_pos ⟨e,U⟩],ah (ah q I q.size) X (ah q I q.size).size⟩
def Px:List UInt8:=[74,97,110,70,101,98,77,97,114,65,112,114,77,97,121,74,117,110,74,117,108,65,117,103,83,101,112,79,99,116,78,111,118,68,101,99]
def xM (k:Nat):List UInt8:=cN ((Px.take (3*k+3)).drop (3*k))
def lO (s:List UInt8):Nat->Nat->Int
 |0,_=>0
 |f+1,k=>if 3 <=s.length/\cN (s.take 3)=xM k then(k:Int)+1 else lO s f (k+1)
def ny (s:List UInt8):Int:=lO s 12 0
theorem iZ (h: ¬ 3 <=s.length):∀f k,lO s f k=0
 |0,_=>rfl
 |f+1,k=>by unfold lO;rw[if_neg (λe=>h e.1)];exact iZ h f (k+1)
theorem MT (s:List UInt8)(ac:s.length <=9223372036854775800)(w:World):Cf CU #[vS s] w (Ret λv w'=>v=vI (ny s)/\bW w w'):=by
 apply Lt
 refine⟨λm i w'=>∃k:Nat,k <=12/\i=(k:Int)/\m=12-k/\ny s=lO s (12-k) k/\bW w w',⟨_,0,by omega,rfl,rfl,rfl,Below.refl _ _⟩,?_⟩
 intro m i
 refine aP.of ?_ _
 rintro H ⟨k,Z,rfl,rfl,e,q⟩
 refine⟨λw'=>w'=H/\k<12/\3 <=s.length,?_,?_⟩
 ·refine ai.of (λh=>?_) (λh=>?_) <;> simp only[dTx,dFx]at h
  ·refine ai.of (λD=>?_) (λD=>?_) <;> simp only[ge_iff_le,dTx,dFx]at D
   ·exact⟨rfl,by omega,by omega⟩
   ·exact⟨by rw[e,iZ (by omega)],q⟩
  ·have:k=12:=by omega
   subst this
   exact⟨by rw[e];rfl,q⟩
 ·refine aP.of ?_ _
  rintro H ⟨rfl,h1,D⟩
  rw[wrap_i64 (n:=3*(k:Int)) (by omega) (by omega),wrap_i64 (n:=3*(k:Int)+3) (by omega) (by omega)]
  refine⟨⟨by omega,by omega⟩,?_⟩
  rintro _ rfl
  refine⟨⟨⟨by omega,by simp;omega⟩,by omega,by omega⟩,?_⟩
  rintro _ rfl
  have M:Int.toNat (3*(k:Int))=3*k:=by omega
  have O:Int.toNat (3*(k:Int)+3)=3*k+3:=by omega
  have U:Int.toNat (3:Int)=3:=rfl
  rw[M,O,U]
  refine⟨cN (s.take 3)==xM k,λu Y=>?_,?_⟩
  ·refine(Gn (s.take 3) ((Px.take (3*k+3)).drop (3*k)) (by simp;omega) (by simp[Px];omega) u).mono ?_
   rintro _ ad ⟨_,rfl,rfl,X⟩
   exact⟨rfl,X.mono Y.size⟩
  ·intro ag G
   have V:12-k=(12-(k+1))+1:=by omega
   rw[V]at e
   unfold lO at e
   have E:i64.wrap ((k:Int)+1)=(k:Int)+1:=by rw[wrap_i64 (by omega) (by omega)]
   refine ai.of (λh=>?_) (λh=>?_)
   ·rw[beq_iff_eq]at h
    rw[if_pos ⟨D,h⟩]at e
    exact⟨by rw[E,e],ah q G q.size⟩
   ·rw[beq_eq_false_iff_ne]at h
    rw[if_neg (λI=>h I.2)]at e
    exact⟨12-(k+1),by omega,k+1,by omega,by rw[E];omega,rfl,e,ah q G q.size⟩
def xm (i:Nat)(s:List UInt8):Option (List UInt8):=if i=0 then some s else if s.head?=some 58 then some (s.drop 1)else none
def IK (i:Nat)(s:List UInt8):Option (Int×List UInt8):=(xm i s).bind λt=>if 1 <=(fI t).length/\(fI t).length <=2 then some (jT (fI t),t.drop (fI t).length)else none
def gM:Nat->Nat->List UInt8->Option (List Int)
 |0,_,_=>some []
 |f+1,i,s=>(IK i s).bind λp=>(gM f (i+1) p.2).map (p.1:: ·)
def kj (s:List UInt8):Option (List Int):=gM 3 0 s
theorem R6 (s:List UInt8):Lib.hasPrefix s [58]=decide (s.head?=some 58)/\(s.head?=some 58->Lib.trimPrefix s [58]=s.drop 1):=by
 cases s with
 |nil=>exact⟨by decide,λh=>by cases h⟩
 |cons c s=>
  have e:Lib.hasPrefix (58::s) [58]=true:=rfl
  by_cases h:c=58
  ·subst h
   refine⟨by rw[e];simp,λ_=>?_⟩
   unfold Lib.trimPrefix;rw[e];rfl
  ·have D:Lib.hasPrefix (c::s) [58]=false:=by
    show((58==c)&&_)=false
    rw[beq_eq_false_iff_ne.2 (Ne.symm h)];rfl
   refine⟨by rw[D];simp[h],λq=>absurd (by simpa using q) h⟩
theorem ML (l:List Int):∀c∈(Value.agg (l.map λn=>vI n).toArray).cells.toList,c.oneCell'=true:=by
 intro c e
 obtain⟨n,_,rfl⟩:∃n,n∈l/\vI n=c:=by simpa[Value.cells]using e
 rfl
theorem N2 (s:List UInt8)(w:World):Cf jU #[vS s,vS [58]] w (Ret λv w'=>v=.tuple #[vS (if s.head?=some 58 then s.drop 1 else s),.bool (decide (s.head?=some 58))]/\w'=w):=by
 refine(Tryz.strings_CutPrefix (mkS s) (mkS [58]) w).mono ?_
 rintro _ _ ⟨rfl,rfl⟩
 refine⟨_,rfl,?_,rfl⟩
 have h:=R6 s
 have q:(mkS s).data.toList=s:=rfl
 have D:(mkS [58]).data.toList=[58]:=rfl
 rw[q,D,h.1]
 by_cases e:s.head?=some 58
 ·rw[if_pos e,h.2 e];rfl
 ·rw[if_neg e]
  have:Lib.trimPrefix s [58]=s:=by unfold Lib.trimPrefix;rw[if_neg (by rw[h.1];simpa using e)]
  rw[this];rfl
def Jb (l:List Int):List Value:=l.map λn=>vI n
def I4 (s:List UInt8)(w:World)(v:Value)(w':World):Prop:=
 (∃a b c b',v=.tuple #[.agg #[vI a,vI b,vI c],.bool b']/\(kj s=none/\b'=false\/kj s=some [a,b,c]/\b'=true))/\bW w w'
theorem three {α:Type}{l:List α}(h:l.length=3):∃a b c,l=[a,b,c]:=by
 match l,h with
 |[a,b,c],_=>exact⟨a,b,c,rfl⟩
theorem NY {w w':World}{out us:List Int}{K:Value->World->Prop}{bo:Bool}(V:av w' n ez (Jb us))(Y:av w' m ez (Jb out))(aj:out.length=3)(an:us.length=3)
 (q:bW w w') (ag:w.heap.size <=n)
 (Z:∀a b c wx,out=[a,b,c]->bW w wx->K (.tuple #[.agg #[vI a,vI b,vI c],.bool bo]) wx):
 ∃(G:Int) (H:Int) (I:Int),(Instr.loadAt ez (.pointer (some ⟨m,0,none⟩))).run prog w'=.ok (.agg #[vI G,vI H,vI I]) w'/\
  ∃(wx:World),(Instr.storeAt ez (.pointer (some ⟨n,0,none⟩)) (.agg #[vI G,vI H,vI I])).run prog w'=.ok () wx/\
  ∃(M:Int) (O:Int) (U:Int),(aI ez (.pointer (some ⟨n,0,none⟩))).run prog wx=.ok (.agg #[vI M,vI O,vI U]) wx/\
  K (.tuple #[.agg #[vI M,vI O,vI U],.bool bo]) wx:=by
 obtain⟨a,b,c,rfl⟩:=three aj
 obtain⟨d,e,f,rfl⟩:=three an
 obtain⟨ar,E,D,_,_⟩:=zv.info
 refine⟨a,b,c,Y.loadA FK rfl E (us:=Jb [a,b,c]) (i:=0) (by rw[D];rfl) (λj ad=>by rw[Nat.zero_add]),?_⟩
 obtain⟨wx,al,X,ac⟩:=V.store (P:=prog) zv (i:=0) (v:=.agg #[vI a,vI b,vI c]) rfl (by simp[Jb]) (ML [a,b,c])
 refine⟨wx,al,a,b,c,?_,Z a b c wx rfl (q.grown ac q.size (λx e=>by cases e;exact ag))⟩
 exact av.res (av.loadA FK rfl E X (us:=Jb [a,b,c]) (i:=0) (by rw[D];rfl) (λj ad=>by simp[Jb,Value.cells]))
theorem JW (n:Int):∀c∈(vI n).cells.toList,c.oneCell'=true:=by
 intro c e
 have:c=vI n:=by simpa[Value.cells]using e
 subst this;rfl
theorem MS (s:List UInt8)(b8:s.length <=9223372036854775000)(w:World):Cf CT #[vS s] w (Ret (I4 s w)):=by
 apply Ls
 intro k2 w2 b0 Y k4 w4 b1 a8
 have aj:bW w w2:=Y▸au _ _
 have al:bW w2 w4:=a8▸au _ _
 have bj:bW w w4:=ah aj al aj.size
 have bk:av w4 k2 ez (Jb [0,0,0]):=(av.new (vs:=Jb [0,0,0]) b0 Y).below al
 have bp:av w4 k4 ez (Jb [0,0,0]):=av.new b1 a8
 have b9:w2.heap.size=w.heap.size+1:=by rw[Y];simp
 have b2:k2≠k4:=by omega
 have a0:w.heap.size <=k2:=by omega
 have bz:w.heap.size <=k4:=by omega
 refine⟨λm t i w'=>∃(k:Nat) (out:List Int),k <=3/\i=(k:Int)/\m=3-k/\out.length=3/\t.length <=s.length/\kj s=(gM (3-k) k t).map (out.take k++ ·)/\
  av w' k2 ez (Jb [0,0,0])/\av w' k4 ez (Jb out)/\bW w w',
  ⟨_,0,[0,0,0],by omega,rfl,rfl,rfl,Nat.le_refl _,by unfold kj;cases gM 3 0 s <;> rfl,bk,bp,bj⟩,?_⟩
 intro m t i
 refine aP.of ?_ _
 rintro I ⟨k,out,b7,rfl,rfl,M,b4,H,E,G,q⟩
 refine ai.of (λh=>?_) (λh=>?_) <;> simp only[dTx,dFx]at h
 ·have bc:3-k=(3-(k+1))+1:=by omega
  rw[bc]at H
  unfold gM at H
  have Z:∀{w':World},IK k t=none->av w' k2 ez (Jb [0,0,0])->av w' k4 ez (Jb out)->bW w w'->_:=fun{w'} bs E G q=>
   NY (K:=I4 s w) (bo:=false) E G M rfl q a0 (λa b c b6 _ X=>⟨⟨a,b,c,false,rfl,.inl ⟨by rw[H,bs];rfl,rfl⟩⟩,X⟩)
  refine⟨λu w'=>w'=I/\xm k t=some u/\u.length <=s.length,?_,?_⟩
  ·refine ai.of (λag=>?_) (λag=>?_) <;> simp only[gt_iff_lt,dTx,dFx]at ag
   ·refine az (N2 t I) ?_
    rintro _ I ⟨rfl,rfl⟩
    refine⟨_,_,rfl,?_⟩
    refine ai.of (λe=>?_) (λe=>?_) <;> simp only[Bool.not_eq_true',Bool.not_eq_false',dTx,dFx]at e
    ·exact Z (by unfold IK xm;rw[if_neg (by omega),if_neg e];rfl) E G q
    ·exact⟨rfl,by unfold xm;rw[if_neg (by omega),if_pos e,if_pos e],by rw[if_pos e];simp;omega⟩
   ·exact⟨rfl,by unfold xm;rw[if_pos (by omega)],b4⟩
  ·intro u
   refine aP.of ?_ _
   rintro I ⟨rfl,bq,cb⟩
   have O:IK k t=if 1 <=(fI u).length/\(fI u).length <=2 then some (jT (fI u),u.drop (fI u).length)else none:=by unfold IK;rw[bq];rfl
   refine az (Ae u 1 2 (by omega) (by omega) (by omega) I) ?_
   rintro _ cc ⟨rfl,V⟩
   have ac:=E.below V
   have ad:=G.below V
   have U:=ah q V q.size
   unfold Tm
   by_cases an:1 <=(fI u).length/\(fI u).length <=2
   ·rw[if_pos (by omega)]
    rw[if_pos an]at O
    refine⟨_,_,_,rfl,ai.no rfl ?_⟩
    refine⟨⟨⟨by omega,by omega⟩,rfl⟩,?_⟩
    rw[qZ,Nat.zero_add,Nat.mul_one,Int.toNat_natCast]
    obtain⟨b5,b3,e,ar⟩:=ad.store (P:=prog) (n:=1) (bytes:=8) (z:=vI 0) fk (i:=k) (v:=vI (jT (fI u))) rfl (by simp[Jb,M];omega) (JW _)
    refine⟨b5,b3,3-(k+1),by omega,k+1,out.set k (jT (fI u)),by omega,?_,rfl,by simpa using M,by simp;omega,?_,ac.grown ar (λD=>b2 (Option.some.inj D)),?_,U.grown ar U.size (λx D=>by cases D;exact bz)⟩
    ·rw[wrap_i64 (by omega) (by omega)];omega
    ·rw[H,O]
     have a9:(out.set k (jT (fI u))).take (k+1)=out.take k++[jT (fI u)]:=by
      rw[List.take_succ_eq_append_getElem (by simp;omega),List.getElem_set_self,List.take_set_of_le (Nat.le_refl _)]
     rw[a9]
     show((gM (3-(k+1)) (k+1) (u.drop (fI u).length)).map _).map _=_
     rw[Option.map_map]
     congr 1
     funext x
     simp
    ·have bb:Jb (out.set k (jT (fI u)))=(Jb out).take k++[vI (jT (fI u))]++(Jb out).drop (k+1):=by
      unfold Jb
      rw[List.map_set,List.set_eq_take_append_cons_drop,if_pos (by simp;omega)]
      simp
     rw[bb];exact e
   ·rw[if_neg (by omega)]
    rw[if_neg an]at O
    refine⟨_,_,_,rfl,ai.yes rfl ?_⟩
    exact Z O ac ad U
 ·have:k=3:=by omega
  subst this
  exact NY (K:=I4 s w) (bo:=true) E G M rfl q a0 (λa b c b6 D X=>⟨⟨a,b,c,true,rfl,.inr ⟨by rw[H,D];rfl,rfl⟩⟩,X⟩)
structure Fnd where
 time:Bool
 day:Bool
 month:Bool
 year:Bool
 s0:Int
 s1:Int
 s2:Int
 y:Int
 m:Int
 d:Int
def Fnd.cells (f:Fnd):List Value:=[.bool f.time,.bool f.day,.bool f.month,.bool f.year,vI f.s0,vI f.s1,vI f.s2,vI f.y,vI f.m,vI f.d]
def oX (s:List UInt8)(least most:Int):Bool:=decide (least <=((fI s).length:Int)/\((fI s).length:Int) <=most)
def xa (f:Fnd)(s:List UInt8):Fnd:=
 match kj s,f.time with
 |some [a,b,c],false=> { f with s0:=a,s1:=b,s2:=c,time:=true }
 |_,_=>if oX s 1 2=true/\f.day=false then{ f with d:=jT (fI s),day:=true }
  else if 0<ny s/\f.month=false then{ f with m:=ny s,month:=true }
  else if oX s 2 4=true/\f.year=false then{ f with y:=jT (fI s),year:=true } else f
theorem Rh (w:World)(r:Option Nat):w.grownBy w r:=⟨rfl,rfl,rfl,Nat.le_refl _,λ_ _ _=>rfl⟩
theorem gF {a b c:World}{r:Option Nat}(h:a.grownBy b r)(k:b.grownBy c r):a.grownBy c r:=
 ⟨k.os.trans h.os,k.tape.trans h.tape,k.output.trans h.output,Nat.le_trans h.size k.size,λD q e=>(k.block D (Nat.lt_of_lt_of_le q h.size) e).trans (h.block D q e)⟩
theorem nC {a b:World}(h:bW a b)(r:Option Nat):a.grownBy b r:=⟨h.os,h.tape,h.output,h.size,λq e _=>h.block q e⟩
theorem Ad (k o:Nat):Option.map (fun(x:Addr)=>x.add o) (some ⟨k,0,none⟩)=some ⟨k,o,none⟩:=by
 simp[dF]
theorem IQ (b:Bool):∀c∈(Value.bool b).cells.toList,c.oneCell'=true:=by
 intro c e
 have:c=.bool b:=by simpa[Value.cells]using e
 subst this;rfl
def Vq (k:Nat)(f:Fnd)(s:List UInt8)(w:World)(v:Value)(w':World):Prop:=v=.tuple #[]/\av w' k mY (xa f s).cells/\w.grownBy w' (some k)
theorem Tn {l m:Int}(h:oX s l m=true):Tm s l m=.tuple #[vI (jT (fI s)),vS (s.drop (fI s).length),.bool true]:=by
 unfold oX at h;unfold Tm;rw[if_pos (by simpa using h)]
theorem Qz {l m:Int}(h:oX s l m=false):Tm s l m=.tuple #[vI 0,vS s,.bool false]:=by
 unfold oX at h;unfold Tm;rw[if_neg (by simpa using h)]
theorem zw {f:Fnd}{a b c:Int}(h:kj s=some [a,b,c])(e:f.time=false):xa f s= { f with s0:=a,s1:=b,s2:=c,time:=true } :=by
 unfold xa;rw[h,e]
theorem AP {f:Fnd}(h:kj s=none\/f.time=true):xa f s=if oX s 1 2=true/\f.day=false then{ f with d:=jT (fI s),day:=true }
 else if 0<ny s/\f.month=false then{ f with m:=ny s,month:=true }
 else if oX s 2 4=true/\f.year=false then{ f with y:=jT (fI s),year:=true } else f:=by
 unfold xa
 rcases h with h|h
 ·rw[h]
 ·rw[h]
  split
  ·rename_i h1 e;cases e
  ·rfl
theorem MV (k:Nat)(f:Fnd)(s:List UInt8)(ck:s.length <=9223372036854775000)(w:World)(b1:av w k mY f.cells):
 Cf vq #[.pointer (some ⟨k,0,none⟩),vS s] w (Ret (Vq k f s w)):=by
 apply Ep
 simp only[Ad]
 have e:Option.isSome (some (⟨k,0,none⟩:Addr))=true:=rfl
 obtain⟨cu,cp,cn,_,_⟩:=zv.info
 refine⟨λw'=>w.grownBy w' (some k)/\av w' k mY f.cells/\(kj s=none\/f.time=true),?_,?_⟩
 ·refine az (MS s ck w) ?_
  rintro _ b4 ⟨⟨a,b,c,bo,rfl,b0⟩,ag⟩
  refine⟨a,b,c,bo,rfl,?_⟩
  intro bk w4 ce b3
  have bp:bW w w4:=ah ag (b3▸au _ _) ag.size
  have b5:av w4 bk ez (Jb [0,0,0]):=av.new ce b3
  have ct:=b1.lt
  have an:bk≠k:=by have:=ag.size;omega
  obtain⟨w5,cl,b6,cc⟩:=b5.store (P:=prog) zv (i:=0) (v:=.agg #[vI a,vI b,vI c]) rfl (by simp[Jb]) (ML [a,b,c])
  have a8:bW w w5:=bp.grown cc bp.size (λx q=>by cases q;have:=ag.size;omega)
  have bb:=b1.below a8
  have b7:av w5 bk ez (Jb [a,b,c]):=by simpa[Jb,Value.cells]using b6
  refine⟨w5,cl,λD w'=>w'=w5/\D=(bo && !f.time),?_,?_⟩
  ·refine ai.of (λh=>?_) (λh=>?_)
   ·refine⟨e,e,f.time,bb.load1 bA rfl rfl,rfl,by rw[h];rfl⟩
   ·exact⟨rfl,by rw[h];rfl⟩
  ·intro D
   refine aP.of ?_ _
   rintro w5 ⟨rfl,rfl⟩
   refine ai.of (λh=>?_) (λh=>?_)
   ·rw[Bool.and_eq_true,Bool.not_eq_true']at h
    have b8:kj s=some [a,b,c]:=by
     rcases b0 with⟨_,q⟩|⟨q,_⟩
     ·rw[q]at h;cases h.1
     ·exact q
    refine⟨a,b,c,b7.loadA FK rfl cp (us:=Jb [a,b,c]) (i:=0) (by rw[cn];rfl) (λj cr=>by rw[Nat.zero_add]),e,e,?_⟩
    obtain⟨V,O,G,I⟩:=bb.store (P:=prog) zv (i:=4) (v:=.agg #[vI a,vI b,vI c]) rfl (by simp[Fnd.cells]) (ML [a,b,c])
    refine⟨V,O,e,e,?_⟩
    obtain⟨X,U,H,M⟩:=G.store (P:=prog) jY (i:=0) (v:=.bool true) rfl (by simp[Fnd.cells,Value.cells]) (IQ true)
    refine⟨X,U,rfl,?_,gF (gF (nC a8 _) I) M⟩
    rw[zw b8 h.2]
    simpa[Fnd.cells,Value.cells]using H
   ·refine⟨nC a8 _,bb,?_⟩
    rcases b0 with⟨q,_⟩|⟨_,q⟩
    ·exact .inl q
    ·rw[q]at h;right;simpa using h
 ·refine aP.of ?_ _
  rintro b4 ⟨cb,b9,cf⟩
  have Y:=AP cf
  refine⟨λw'=>w.grownBy w' (some k)/\av w' k mY f.cells/\ ¬ (oX s 1 2=true/\f.day=false),?_,?_⟩
  ·refine az (Ae s 1 2 (by omega) (by omega) (by omega) b4) ?_
   rintro _ ar ⟨rfl,bq⟩
   have Z:=b9.below bq
   have aj:=gF cb (nC bq (some k))
   have bc:∃(n:Int) (r:List UInt8),Tm s 1 2=.tuple #[vI n,vS r,.bool (oX s 1 2)]/\(oX s 1 2=true->n=jT (fI s)):=by
    cases ad:oX s 1 2
    ·exact⟨_,_,Qz ad,λq=>by cases q⟩
    ·exact⟨_,_,Tn ad,λ_=>rfl⟩
   obtain⟨n,r,an,bj⟩:=bc
   refine⟨n,r,oX s 1 2,by rw[an],λD w'=>w'=ar/\D=(oX s 1 2 && !f.day),?_,?_⟩
   ·refine ai.of (λh=>?_) (λh=>?_)
    ·exact⟨e,e,f.day,Z.load1 bA rfl rfl,rfl,by rw[h];rfl⟩
    ·exact⟨rfl,by rw[h];rfl⟩
   ·intro D
    refine aP.of ?_ _
    rintro ar ⟨rfl,rfl⟩
    refine ai.of (λh=>?_) (λh=>?_)
    ·rw[Bool.and_eq_true,Bool.not_eq_true']at h
     refine⟨e,e,?_⟩
     obtain⟨V,O,G,I⟩:=Z.store (P:=prog) fk (i:=9) (v:=vI n) rfl (by simp[Fnd.cells]) (JW n)
     refine⟨V,O,e,e,?_⟩
     obtain⟨X,U,H,M⟩:=G.store (P:=prog) jY (i:=1) (v:=.bool true) rfl (by simp[Fnd.cells,Value.cells]) (IQ true)
     refine⟨X,U,rfl,?_,gF (gF aj I) M⟩
     rw[Y,if_pos h,<- bj h.1]
     simpa[Fnd.cells,Value.cells]using H
    ·refine⟨aj,Z,λE=>?_⟩
     rw[E.1,E.2]at h;cases h
  ·refine aP.of ?_ _
   rintro ar ⟨aj,Z,ch⟩
   rw[if_neg ch]at Y
   refine⟨λw'=>w.grownBy w' (some k)/\av w' k mY f.cells/\ ¬ (0<ny s/\f.month=false),?_,?_⟩
   ·refine az (MT s (by omega) ar) ?_
    rintro _ a0 ⟨rfl,bs⟩
    have ac:=Z.below bs
    have al:=gF aj (nC bs (some k))
    refine⟨_,rfl,λD w'=>w'=a0/\D=(decide (0<ny s) && !f.month),?_,?_⟩
    ·refine ai.of (λh=>?_) (λh=>?_)
     ·exact⟨e,e,f.month,ac.load1 bA rfl rfl,rfl,by rw[show decide (0<ny s)=true from h];rfl⟩
     ·exact⟨rfl,by rw[show decide (0<ny s)=false from h];rfl⟩
    ·intro D
     refine aP.of ?_ _
     rintro a0 ⟨rfl,rfl⟩
     refine ai.of (λh=>?_) (λh=>?_)
     ·rw[Bool.and_eq_true,Bool.not_eq_true',dTx]at h
      refine⟨e,e,?_⟩
      obtain⟨V,O,G,I⟩:=ac.store (P:=prog) fk (i:=8) (v:=vI (ny s)) rfl (by simp[Fnd.cells]) (JW _)
      refine⟨V,O,e,e,?_⟩
      obtain⟨X,U,H,M⟩:=G.store (P:=prog) jY (i:=2) (v:=.bool true) rfl (by simp[Fnd.cells,Value.cells]) (IQ true)
      refine⟨X,U,rfl,?_,gF (gF al I) M⟩
      rw[Y,if_pos h]
      simpa[Fnd.cells,Value.cells]using H
     ·refine⟨al,ac,λE=>?_⟩
      rw[decide_eq_true E.1,E.2]at h;cases h
   ·refine aP.of ?_ _
    rintro a0 ⟨al,ac,cj⟩
    rw[if_neg cj]at Y
    refine az (Ae s 2 4 (by omega) (by omega) (by omega) a0) ?_
    rintro _ w4 ⟨rfl,bz⟩
    have a9:=ac.below bz
    have b2:=gF al (nC bz (some k))
    have bc:∃(n:Int) (r:List UInt8),Tm s 2 4=.tuple #[vI n,vS r,.bool (oX s 2 4)]/\(oX s 2 4=true->n=jT (fI s)):=by
     cases ad:oX s 2 4
     ·exact⟨_,_,Qz ad,λq=>by cases q⟩
     ·exact⟨_,_,Tn ad,λ_=>rfl⟩
    obtain⟨n,r,an,bj⟩:=bc
    refine⟨n,r,oX s 2 4,by rw[an],λD w'=>w'=w4/\D=(oX s 2 4 && !f.year),?_,?_⟩
    ·refine ai.of (λh=>?_) (λh=>?_)
     ·exact⟨e,e,f.year,a9.load1 bA rfl rfl,rfl,by rw[h];rfl⟩
     ·exact⟨rfl,by rw[h];rfl⟩
    ·intro D
     refine aP.of ?_ _
     rintro w4 ⟨rfl,rfl⟩
     refine ai.of (λh=>?_) (λh=>?_)
     ·rw[Bool.and_eq_true,Bool.not_eq_true']at h
      refine⟨e,e,?_⟩
      obtain⟨V,O,G,I⟩:=a9.store (P:=prog) fk (i:=7) (v:=vI n) rfl (by simp[Fnd.cells]) (JW n)
      refine⟨V,O,e,e,?_⟩
      obtain⟨X,U,H,M⟩:=G.store (P:=prog) jY (i:=3) (v:=.bool true) rfl (by simp[Fnd.cells,Value.cells]) (IQ true)
      refine⟨X,U,rfl,?_,gF (gF b2 I) M⟩
      rw[Y,if_pos h,<- bj h.1]
      simpa[Fnd.cells,Value.cells]using H
     ·refine⟨rfl,?_,b2⟩
      rw[Y,if_neg (λE=>by rw[E.1,E.2]at h;cases h)]
      exact a9
def vC (c:UInt8):Bool:=decide (xP (c.toNat:Int))
def xB:List UInt8->List UInt8->List (List UInt8)
 |cur,[]=>[cur]
 |cur,c::r=>if vC c then cur::xB [] r else xB (cur++[c]) r
def EB:Fnd:=⟨false,false,false,false,0,0,0,0,0,0⟩
def qh (s:List UInt8):Fnd:=(xB [] s).foldl xa EB
def oJ (y:Int):Int:=if 70 <=y/\y <=99 then y+1900 else if y<70 then y+2000 else y
def we (f:Fnd):Prop:=cH (oJ f.y) f.m f.d/\f.time=true/\f.year=true/\f.s0 <=23/\f.s1 <=59/\f.s2 <=59
instance  (f:Fnd):Decidable (we f):=by unfold we;infer_instance
def rJ (f:Fnd):Int:=fx (oJ f.y) f.m f.d*86400+f.s0*3600+f.s1*60+f.s2
def ug (f:Fnd):Value:=if we f then .tuple #[vI (rJ f),.bool true]else .tuple #[vI 0,.bool false]
structure FQ (f:Fnd):Prop where
 s0:0 <=f.s0/\f.s0 <=99
 s1:0 <=f.s1/\f.s1 <=99
 s2:0 <=f.s2/\f.s2 <=99
 y:0 <=f.y/\f.y <=9999
 d:0 <=f.d/\f.d <=99
 m:0 <=f.m/\f.m <=12
 m0:f.month=false ↔ f.m=0
 d0:f.day=false->f.d=0
 y0:f.year=false->f.y=0
theorem lM:∀(l:List UInt8) (e:Int),0 <=e->(∀c∈l,gO c=true)->0 <=l.foldl (λn c=>n*10+((c.toNat:Int)-48)) e/\l.foldl (λn c=>n*10+((c.toNat:Int)-48)) e<(e+1)*10 ^ l.length
 |[],e,h,_=>by simp;omega
 |c::l,e,h,q=>by
  have G:=nu.1 (q c List.mem_cons_self)
  obtain⟨h1,D⟩:=lM l (e*10+((c.toNat:Int)-48)) (by omega) λx E=>q x (List.mem_cons_of_mem _ E)
  rw[List.foldl_cons]
  refine⟨h1,Int.lt_of_lt_of_le D ?_⟩
  rw[List.length_cons,Int.pow_succ,Int.mul_comm (10 ^ l.length) 10,<- Int.mul_assoc]
  exact Int.mul_le_mul_of_nonneg_right (by omega) (Int.pow_nonneg (by decide))
theorem zU {a b:Nat}(h:a <=b):(10:Int) ^ a <=10 ^ b:=by
 have:=Nat.pow_le_pow_right (n:=10) (by decide) h
 have e:∀k:Nat,((10 ^ k:Nat):Int)=10 ^ k:=λk=>by simp
 rw[<- e,<- e];omega
theorem Pb (k:Nat)(h:(fI s).length <=k):0 <=jT (fI s)/\jT (fI s)<10 ^ k:=by
 obtain⟨h1,e⟩:=lM (fI s) 0 (by decide) qu
 refine⟨h1,Int.lt_of_lt_of_le e ?_⟩
 rw[Int.zero_add,Int.one_mul]
 exact zU h
theorem rW:∀(f i:Nat) (s:List UInt8) (l:List Int),gM f i s=some l->l.length=f/\∀x∈l,0 <=x/\x <=99
 |0,i,s,l,h=>by simp[gM]at h;subst h;simp
 |f+1,i,s,l,h=>by
  unfold gM at h
  cases e:IK i s with
  |none=>rw[e]at h;cases h
  |some p=>
   rw[e]at h
   simp only[Option.bind_some]at h
   cases q:gM f (i+1) p.2 with
   |none=>rw[q]at h;cases h
   |some r=>
    rw[q]at h
    simp only[Option.map_some,Option.some.injEq]at h
    subst h
    obtain⟨h1,G⟩:=rW f (i+1) p.2 r q
    refine⟨by simp[h1],λx D=>?_⟩
    rcases List.mem_cons.1 D with rfl|D
    ·unfold IK at e
     cases E:xm i s with
     |none=>rw[E]at e;cases e
     |some t=>
      rw[E]at e
      simp only[Option.bind_some]at e
      split at e
      ·rename_i H
       simp only[Option.some.injEq]at e
       subst e
       have:=Pb 2 H.2
       simp only;omega
      ·cases e
    ·exact G x D
theorem HX (s:List UInt8):∀(f k:Nat),0 <=lO s f k/\lO s f k <=(k:Int)+f
 |0,k=>by simp[lO]
 |f+1,k=>by
  unfold lO
  have:=HX s f (k+1)
  split <;> omega
theorem yK (f:Fnd)(s:List UInt8):(∃a b c,kj s=some [a,b,c]/\f.time=false/\xa f s= { f with s0:=a,s1:=b,s2:=c,time:=true })\/
 (kj s=none\/f.time=true)/\xa f s=if oX s 1 2=true/\f.day=false then{ f with d:=jT (fI s),day:=true }
 else if 0<ny s/\f.month=false then{ f with m:=ny s,month:=true }
 else if oX s 2 4=true/\f.year=false then{ f with y:=jT (fI s),year:=true } else f:=by
 cases e:kj s with
 |none=>right;refine⟨.inl rfl,?_⟩;unfold xa;rw[e]
 |some l=>
  obtain⟨D,_⟩:=rW 3 0 s l e
  match l,D with
  |[a,b,c],_=>
   cases q:f.time with
   |false=>left;refine⟨a,b,c,rfl,rfl,?_⟩;unfold xa;rw[e,q]
   |true=>
    right;refine⟨.inr rfl,?_⟩;unfold xa;rw[e,q]
theorem TN {f:Fnd}(h:FQ f)(s:List UInt8):FQ (xa f s):=by
 rcases yK f s with⟨a,b,c,G,H,e⟩|⟨_,e⟩
 ·rw[e]
  obtain⟨_,D⟩:=rW 3 0 s _ G
  exact⟨D a (by simp),D b (by simp),D c (by simp),h.y,h.d,h.m,h.m0,h.d0,h.y0⟩
 ·rw[e]
  split
  ·rename_i h1
   have q:(fI s).length <=2:=by have:=h1.1;unfold oX at this;simp at this;omega
   have:=Pb 2 q
   exact⟨h.s0,h.s1,h.s2,h.y,⟨this.1,by simp only;omega⟩,h.m,h.m0,(λe=>by cases e),h.y0⟩
  ·split
   ·rename_i h1
    have:=HX s 12 0
    have E:=h1.1
    unfold ny at E ⊢
    refine⟨h.s0,h.s1,h.s2,h.y,h.d,⟨by simp only;omega,by simp only;omega⟩,⟨(λe=>by cases e),λe=>?_⟩,h.d0,h.y0⟩
    simp only at e;omega
   ·split
    ·rename_i h1
     have q:(fI s).length <=4:=by have:=h1.1;unfold oX at this;simp at this;omega
     have:=Pb 4 q
     exact⟨h.s0,h.s1,h.s2,⟨this.1,by simp only;omega⟩,h.d,h.m,h.m0,h.d0,λe=>by cases e⟩
    ·exact h
theorem Fu:FQ EB:=⟨by decide,by decide,by decide,by decide,by decide,by decide,by decide,by decide,by decide⟩
theorem FJ:∀(l:List (List UInt8)) {f:Fnd},FQ f->FQ (l.foldl xa f)
 |[],f,h=>h
 |s::l,f,h=>FJ l (TN h s)
theorem QQ (f:Fnd):xa f []=f:=by
 rcases yK f []with⟨a,b,c,hc,_⟩|⟨_,e⟩
 ·have:kj []=none:=by decide
  rw[this]at hc;cases hc
 ·rw[e,if_neg (λh=>by have:oX [] 1 2=false:=(by decide);rw[this]at h;cases h.1),
   if_neg (λh=>by have:ny []=0:=(by decide);rw[this]at h;exact absurd h.1 (by decide)),
   if_neg (λh=>by have:oX [] 2 4=false:=(by decide);rw[this]at h;cases h.1)]
theorem Ay {f:Fnd}(h:cH (oJ f.y) f.m f.d): -134774 <=fx (oJ f.y) f.m f.d/\fx (oJ f.y) f.m f.d <=2932896:=by
 have U:=Qd h
 obtain⟨h1,G,H,I,M,O⟩:=h
 have e:=Bb (a:=1601) (b:=oJ f.y) (by omega) h1
 have q:=Bb (a:=oJ f.y+1) (b:=10000) (by omega) (by omega)
 have D:dY 1601=584388:=by decide
 have E:dY 10000=3652059:=by decide
 omega
theorem Jk {n:Int}(h1: -134774 <=n)(e:n <=2932896):∃y m d,cH y m d/\fx y m d=n:=by
 have h:=MO h1 e _ _ _ _ _ _ rfl rfl rfl rfl rfl rfl
 exact⟨_,_,_,h.2.2.2.2.2.2.2.2.2.2.2.2⟩
def Ju (n:Int):UInt8:=UInt8.ofNat (48+n.toNat%10)
def gU (n:Int):List UInt8:=[Ju (n/10),Ju n]
def Ey:List (List UInt8):=[[84,104,117],[70,114,105],[83,97,116],[83,117,110],[77,111,110],[84,117,101],[87,101,100]]
def En:List (List UInt8):=[[74,97,110],[70,101,98],[77,97,114],[65,112,114],[77,97,121],[74,117,110],[74,117,108],[65,117,103],[83,101,112],[79,99,116],[78,111,118],[68,101,99]]
def rQ (k:Int):List UInt8:=Ey[k.toNat]?.getD []
def zJ (m:Int):List UInt8:=En[(m-1).toNat]?.getD []
def rI (s:Int):List UInt8:=gU (s/3600)++[58]++gU (s/60%60)++[58]++gU (s%60)
def xO (n y m d s:Int):List UInt8:=rQ (n%7)++[44,32]++gU d++[32]++zJ m++[32]++(gU (y/100)++gU (y%100))++[32]++rI s++[32,71,77,84]
open Classical in
noncomputable def lK (t:Int):List UInt8:=if h:∃p:Int×Int×Int,cH p.1 p.2.1 p.2.2/\fx p.1 p.2.1 p.2.2=t/86400 then
 xO (t/86400) (Classical.choose h).1 (Classical.choose h).2.1 (Classical.choose h).2.2 (t%86400)else[]
theorem zW {t y m d:Int}(h:cH y m d)(e:fx y m d=t/86400):lK t=xO (t/86400) y m d (t%86400):=by
 have q:∃p:Int×Int×Int,cH p.1 p.2.1 p.2.2/\fx p.1 p.2.1 p.2.2=t/86400:=⟨(y,m,d),h,e⟩
 unfold lK
 rw[dif_pos q]
 obtain⟨h1,H⟩:=Classical.choose_spec q
 obtain⟨D,E,G⟩:=Qe h1 h (H.trans e.symm)
 rw[D,E,G]
theorem wZ {t:Int}(h:t/86400 < -134774\/2932896<t/86400):lK t=[]:=by
 unfold lK
 rw[dif_neg]
 rintro⟨p,h1,h2⟩
 have:=Jt h1
 omega
theorem Of:∀n,n<100->10 <=n->Lib.decDigits n=gU (n:Int):=by decide+kernel
theorem SU:∀n,n<10->(48:UInt8)::Lib.decDigits n=gU (n:Int):=by decide+kernel
theorem Uf:∀n,n<10->(Lib.decDigits n).length=1:=by decide+kernel
theorem Qg (u:Nat)(h:10 <=u):Lib.decDigits u=Lib.decDigits (u/10)++[UInt8.ofNat (48+u%10)]:=by
 rw[Lib.decDigits,dif_neg (by omega)]
theorem XL {y:Int}(h1:1000 <=y)(D:y <=9999):Lib.itoa y=gU (y/100)++gU (y%100):=by
 obtain⟨n,rfl⟩:∃n:Nat,y=(n:Int):=⟨y.toNat,by omega⟩
 rw[Lib.itoa_nonneg,Qg n (by omega),Qg (n/10) (by omega),show n/10/10=n/100 by omega,Of (n/100) (by omega) (by omega)]
 unfold gU Ju
 rw[show(((n/100:Nat):Int))=(n:Int)/100 by omega]
 have e:((n:Int)%100/10).toNat%10=n/10%10:=by omega
 have q:((n:Int)%100).toNat%10=n%10:=by omega
 rw[e,q];rfl
theorem aY (n:Int):(gU n).length=2:=rfl
theorem sK (n:Int):gO (Ju n)=true/\((Ju n).toNat:Int)=48+n.toNat%10:=by
 have h:(Ju n).toNat=48+n.toNat%10:=by
  unfold Ju;rw[UInt8.toNat_ofNat'];omega
 exact⟨nu.2 (by omega),by omega⟩
theorem UM {name:String}{k:IntKind}{zs:List Int}{w w':World}(h:Lib.TabIs P w name k zs)(D:∀b,b<w.heap.size->P.globalNamed name=some b->w'.heap[b]? =w.heap[b]?):Lib.TabIs P w' name k zs:=by
 unfold Lib.TabIs World.var? at h ⊢
 cases e:P.globalNamed name with
 |none=>rw[e]at h;cases h
 |some g=>
  rw[e]at h
  simp only[Option.bind_some]at h ⊢
  have E:g<w.heap.size:=by
   cases q:w.heap[g]? with
   |none=>rw[q]at h;cases h
   |some o=>exact(Array.getElem?_eq_some_iff.1 q).1
  rw[D g E e];exact h
theorem QP {name:String}{k:IntKind}{zs:List Int}{w w':World}(h:Lib.TabIs P w name k zs)(e:bW w w'):Lib.TabIs P w' name k zs:=
 UM h λb q _=>e.block b q
theorem Hc (h:k<s.length):gO s[k]=true ↔ 48 <=bm s (k:Int)/\bm s (k:Int) <=57:=by
 rw[tW (i:=(k:Int)) (by simpa using h),nu]
 simp only[Int.toNat_natCast];omega
theorem tN (l:List UInt8)(c:UInt8):jT (l++[c])=jT l*10+((c.toNat:Int)-48):=by unfold jT;rw[List.foldl_append];rfl
theorem cZ (s:List UInt8)(ac:s.length <=9223372036854775800)(w:World):Cf df #[vS s] w (Ret λv w'=>v=vS (cN s)/\bW w w'):=by
 apply Kj
 refine⟨λm o i w'=>∃k:Nat,k <=s.length/\i=(k:Int)/\o=cN (s.take k)/\m=s.length-k/\bW w w',⟨_,0,by omega,rfl,rfl,rfl,Below.refl _ _⟩,?_⟩
 intro m o i
 refine aP.of ?_ _
 rintro X ⟨k,Z,rfl,rfl,rfl,G⟩
 refine ai.of (λh=>?_) (λh=>?_) <;> simp only[dTx,dFx]at h
 ·have H:k<s.length:=by omega
  have e:=Qv s[k]
  have ad:=qi s[k]
  rw[tW (i:=(k:Int)) (by simpa using H)]
  simp only[Int.toNat_natCast]
  refine⟨⟨by omega,h⟩,IX (w:=X) ((EE s[k]).toNat:Nat) ?_ ?_⟩
  ·refine ai.of (λq=>?_) (λq=>?_) <;> simp only[ge_iff_le,dTx,dFx]at q
   ·refine ai.of (λD=>?_) (λD=>?_) <;> simp only[ge_iff_le,dTx,dFx]at D
    ·rw[if_pos ⟨q,D⟩]at e
     exact⟨rfl,by rw[wrap_u8 (by omega) (by omega),e]⟩
    ·rw[if_neg (λE=>D E.2)]at e
     exact⟨rfl,e.symm⟩
   ·rw[if_neg (λE=>q E.1)]at e
    exact⟨rfl,e.symm⟩
  ·intro V Y M I
   have U:Ow tU8 bF Y NoB (some ⟨V,0,none⟩) 1 1 [EE s[k]]:=Ow.newF wK M I (kK.one (uA rfl)) (show 1 <=maxLen by decide)
   have O:(cN (s.take k)).length=k:=by simp[cN];omega
   refine⟨_,uX fF ax dm U.all,by rw[O];simp[IntKind.max,IntKind.bits];omega,?_⟩
   rintro _ rfl
   refine⟨s.length-(k+1),by omega,k+1,by omega,by rw[wrap_i64 (by omega) (by omega)];omega,?_,rfl,ah G (I▸au _ _) G.size⟩
   unfold cN;rw[List.take_succ_eq_append_getElem H,List.map_append];rfl
 ·have:k=s.length:=by omega
  subst this
  rw[List.take_length];exact⟨rfl,G⟩
def su (u:List UInt8):Option (Int×List UInt8):=if 1 <=(fI u).length/\(fI u).length <=2 then some (jT (fI u),u.drop (fI u).length)else none
def cv (f i:Nat)(u:List UInt8):Option (List Int):=(su u).bind λp=>(gM f (i+1) p.2).map (p.1:: ·)
theorem kL (f i:Nat)(s:List UInt8):gM (f+1) i s=(xm i s).bind (cv f i):=by
 show(IK i s).bind _=_
 unfold IK cv
 cases xm i s <;> rfl
theorem yH:∀(s cur:List UInt8) (k:Nat) (h:k<s.length),xB cur (s.drop k)=if vC s[k]then cur::xB [] (s.drop (k+1))else xB (cur++[s[k]]) (s.drop (k+1)):=λs cur k h=>by
 rw[List.drop_eq_getElem_cons h];rfl
theorem DX (h:k<s.length):decide (xP (bm s (k:Int)))=vC s[k]:=by
 unfold vC;rw[tW (i:=(k:Int)) (by simpa using h)];simp only[Int.toNat_natCast]
theorem Um (f:Fnd):f.cells[7]? =some (vI f.y):=rfl
theorem KX (s:List UInt8)(c1:s.length <=10000000)(w:World):Cf Bh #[vS s] w (Ret λv w'=>v=ug (qh s)/\bW w w'):=by
 apply J5
 intro H w4 ch b2
 have b8:bW w w4:=b2▸au _ _
 have cb:av w4 H mY EB.cells:=av.new ch b2
 have q:true=true:=rfl
 have b1:∀x,some H=some x->w.heap.size <=x:=λx I=>by cases I;omega
 refine⟨λm bp i w'=>∃(k j:Nat) (f:Fnd),k <=s.length+1/\i=(k:Int)/\bp=(j:Int)/\j <=k/\m=s.length+1-k/\FQ f/\
  qh s=(if k <=s.length then(xB ((s.take k).drop j) (s.drop k)).foldl xa f else f)/\av w' H mY f.cells/\bW w w',
  ⟨_,0,0,EB,by omega,rfl,rfl,Nat.le_refl _,rfl,Fu,by rw[if_pos (Nat.zero_le _)];rfl,cb,b8⟩,?_⟩
 intro m bp i
 refine aP.of ?_ _
 rintro ad ⟨k,j,f,cu,rfl,rfl,ct,rfl,U,Z,Y,M⟩
 have b7:k <=s.length->i64.wrap ((k:Int)+1)=((k+1:Nat):Int):=λbj=>by rw[wrap_i64 (by omega) (by omega)];omega
 refine ai.of (λh=>?_) (λh=>?_) <;> simp only[dTx,dFx]at h
 ·have bj:k <=s.length:=by omega
  rw[if_pos bj]at Z
  rw[b7 bj]
  refine eJ (w:=ad) (decide (k=s.length\/∃h:k<s.length,vC s[k]=true)) ?_ ?_
  ·refine ai.of (λe=>?_) (λe=>?_)
   ·rw[beq_iff_eq]at e
    exact⟨rfl,(decide_eq_true (.inl (by omega))).symm⟩
   ·rw[beq_eq_false_iff_ne]at e
    have E:k<s.length:=by omega
    refine⟨⟨by omega,by omega⟩,?_⟩
    refine az (MU _ ad) ?_
    rintro _ ad ⟨rfl,rfl⟩
    refine⟨_,rfl,rfl,?_⟩
    rw[DX E]
    cases an:vC s[k]
    ·exact(decide_eq_false (by rintro(I|⟨_,I⟩) <;> first|omega|(rw[an]at I;cases I))).symm
    ·exact(decide_eq_true (.inr ⟨E,an⟩)).symm
  ·have a8:(xB ((s.take k).drop j) (s.drop k))=if(k=s.length\/∃h:k<s.length,vC s[k]=true)then(s.take k).drop j::(if k<s.length then xB [] (s.drop (k+1))else[])else xB ((s.take (k+1)).drop j) (s.drop (k+1)):=by
    by_cases E:k<s.length
    ·rw[yH s _ k E]
     cases an:vC s[k]
     ·rw[if_neg (by decide),if_neg (by rintro(I|⟨_,I⟩) <;> first|omega|(rw[an]at I;cases I))]
      rw[List.take_succ_eq_append_getElem E,List.drop_append_of_le_length (by rw[List.length_take];omega)]
     ·rw[if_pos rfl,if_pos (.inr ⟨E,an⟩),if_pos E]
    ·have:k=s.length:=by omega
     subst this
     rw[if_pos (.inl rfl),if_neg E]
     simp[xB]
   refine ai.of (λe=>?_) (λe=>?_) <;> simp only[dTx,dFx]at e
   ·rw[if_pos e]at a8
    rw[a8,List.foldl_cons]at Z
    have bk:∀{bb:Fnd} {w':World},bb=xa f ((s.take k).drop j)->av w' H mY bb.cells->bW w w'->
     ∃b6:Nat,b6<s.length+1-k/\∃(V j:Nat) (f:Fnd),V <=s.length+1/\((k+1:Nat):Int)=(V:Int)/\((k+1:Nat):Int)=(j:Int)/\j <=V/\b6=s.length+1-V/\FQ f/\
      qh s=(if V <=s.length then(xB ((s.take V).drop j) (s.drop V)).foldl xa f else f)/\av w' H mY f.cells/\bW w w':=by
     rintro bb w' rfl b9 bc
     refine⟨s.length+1-(k+1),by omega,k+1,k+1,_,by omega,rfl,rfl,Nat.le_refl _,rfl,TN U _,?_,b9,bc⟩
     rw[Z]
     by_cases E:k<s.length
     ·rw[if_pos E,if_pos (show k+1 <=s.length from E)]
      congr 2
      rw[List.drop_eq_nil_of_le (by rw[List.length_take];omega)]
     ·rw[if_neg E,if_neg (by omega)];rfl
    refine ai.of (λG=>?_) (λG=>?_) <;> simp only[gt_iff_lt,dTx,dFx]at G
    ·refine⟨⟨⟨by omega,by omega⟩,by omega,by omega⟩,?_⟩
     rintro _ rfl
     simp only[Int.toNat_natCast]
     refine az (MV H f _ (by simp;omega) ad Y) ?_
     rintro _ c3 ⟨rfl,cc,ce⟩
     exact⟨rfl,bk rfl cc (M.grown ce M.size b1)⟩
    ·refine bk ?_ Y M
     have:(s.take k).drop j=[]:=List.drop_eq_nil_of_le (by rw[List.length_take];omega)
     rw[this,QQ]
   ·rw[if_neg e]at a8
    have E:k<s.length:=by
     by_cases I:k=s.length
     ·exact absurd (.inl I) e
     ·omega
    refine⟨s.length+1-(k+1),by omega,k+1,j,f,by omega,rfl,rfl,by omega,rfl,U,?_,Y,M⟩
    rw[if_pos (show k+1 <=s.length from E),Z,a8]
 ·rw[if_neg (by omega)]at Z
  subst Z
  generalize qh s=f at*
  have c2:=U.y
  have ar:=Y.load1 (P:=prog) (i:=7) br rfl (Um f)
  have X:∀{w':World},¬ we f->bW w w'->(.tuple #[vI 0,.bool false]:Value)=ug f/\bW w w':=λcj bc=>⟨by unfold ug;rw[if_neg cj],bc⟩
  refine cw (λw'=>av w' H mY ({ f with y:=oJ f.y } :Fnd).cells/\bW w w') ?_ ?_
  ·refine eJ (w:=ad) (decide (70 <=f.y/\f.y <=99)) ?_ ?_
   ·refine⟨q,_,ar,?_⟩
    refine ai.of (λe=>?_) (λe=>?_) <;> simp only[ge_iff_le,dTx,dFx]at e
    ·refine⟨q,_,ar,rfl,?_⟩
     simp[e]
    ·refine⟨rfl,?_⟩
     simp[e]
   ·have st:∀n:Int,n=oJ f.y->∃wx:World,(Instr.storeAt aJ (.pointer (some ⟨H,7,none⟩)) (vI n)).run prog ad=.ok () wx/\av wx H mY ({ f with y:=oJ f.y } :Fnd).cells/\bW w wx:=by
     rintro _ rfl
     obtain⟨cn,ck,a0,cf⟩:=Y.store (P:=prog) fk (i:=7) (v:=vI (oJ f.y)) rfl (by simp[Fnd.cells]) (JW _)
     exact⟨cn,ck,by simpa[Fnd.cells,Value.cells]using a0,M.grown cf M.size b1⟩
    refine ai.of (λe=>?_) (λe=>?_) <;> simp only[dTx,dFx]at e
    ·exact⟨q,_,ar,q,st _ (by unfold oJ;rw[if_pos e,wrap_i64 (by omega) (by omega)])⟩
    ·refine⟨q,_,ar,?_⟩
     refine ai.of (λG=>?_) (λG=>?_) <;> simp only[dTx,dFx]at G
     ·exact⟨q,_,ar,q,st _ (by unfold oJ;rw[if_neg e,if_pos G,wrap_i64 (by omega) (by omega)])⟩
     ·have:oJ f.y=f.y:=by unfold oJ;rw[if_neg e,if_neg G]
      rw[this];exact⟨Y,M⟩
  ·rintro cl ⟨a9,bz⟩
   refine⟨q,_,a9.load1 br rfl rfl,q,_,a9.load1 br rfl rfl,q,_,a9.load1 br rfl rfl,?_⟩
   have cr:=U.d
   refine az (CM _ _ _ (by simp only;omega) cl) ?_
   rintro _ w3 ⟨rfl,b0⟩
   refine⟨_,_,rfl,?_⟩
   have al:=a9.below b0
   have O:=ah bz b0 bz.size
   have ac:∀i:Int,0 <=i->i<3->((0 <=i/\i<((3:Nat):Int))/\true=true):=λi h1 e=>⟨⟨h1,e⟩,rfl⟩
   have b3:(Instr.loadAt aJ (.pointer (aw (some ⟨H,4,none⟩) (0:Int) 1))).run prog w3=.ok (vI f.s0) w3:=by rw[qZ];exact al.load1 br rfl rfl
   have b4:(Instr.loadAt aJ (.pointer (aw (some ⟨H,4,none⟩) (1:Int) 1))).run prog w3=.ok (vI f.s1) w3:=by rw[qZ];exact al.load1 br rfl rfl
   have b5:(Instr.loadAt aJ (.pointer (aw (some ⟨H,4,none⟩) (2:Int) 1))).run prog w3=.ok (vI f.s2) w3:=by rw[qZ];exact al.load1 br rfl rfl
   refine iY (w:=w3) (we f) ?_ ?_
   ·refine ai.of (λG=>?_) (λG=>?_) <;> simp only[Bool.not_eq_true',Bool.not_eq_false',dTx,dFx]at G
    ·exact X (λD=>G D.1) O
    refine⟨q,_,al.load1 bA rfl rfl,?_⟩
    refine ai.of (λag=>?_) (λag=>?_) <;> simp only[Bool.not_eq_true',Bool.not_eq_false']at ag
    ·exact X (λD=>by rw[D.2.1]at ag;cases ag) O
    refine⟨q,_,al.load1 bA rfl rfl,?_⟩
    refine ai.of (λaj=>?_) (λaj=>?_) <;> simp only[Bool.not_eq_true',Bool.not_eq_false']at aj
    ·exact X (λD=>by rw[D.2.2.1]at aj;cases aj) O
    refine⟨q,ac 0 (by decide) (by decide),_,b3,?_⟩
    refine ai.of (λbq=>?_) (λbq=>?_) <;> simp only[gt_iff_lt,dTx,dFx]at bq
    ·exact X (λD=>by have:=D.2.2.2.1;omega) O
    refine⟨q,ac 1 (by decide) (by decide),_,b4,?_⟩
    refine ai.of (λa0=>?_) (λa0=>?_) <;> simp only[gt_iff_lt,dTx,dFx]at a0
    ·exact X (λD=>by have:=D.2.2.2.2.1;omega) O
    refine⟨q,ac 2 (by decide) (by decide),_,b5,?_⟩
    refine ai.of (λbs=>?_) (λbs=>?_) <;> simp only[gt_iff_lt,dTx,dFx]at bs
    ·exact X (λD=>by have:=D.2.2.2.2.2;omega) O
    exact⟨rfl,G,ag,aj,by omega,by omega,by omega⟩
   ·intro D
    refine⟨q,ac 0 (by decide) (by decide),_,b3,q,ac 1 (by decide) (by decide),_,b4,q,ac 2 (by decide) (by decide),_,b5,?_,O⟩
    have c0:=Ay D.1
    have cp:=U.s0;have h1:=U.s1;have e:=U.s2
    unfold ug
    rw[if_pos D,if_pos D.1]
    unfold rJ
    rw[wrap_i64 (n:=fx (oJ f.y) f.m f.d*86400) (by omega) (by omega),wrap_i64 (n:=f.s0*3600) (by omega) (by omega),wrap_i64 (n:=f.s1*60) (by omega) (by omega),wrap_i64 (n:=fx (oJ f.y) f.m f.d*86400+f.s0*3600) (by omega) (by omega),
     wrap_i64 (n:=fx (oJ f.y) f.m f.d*86400+f.s0*3600+f.s1*60) (by omega) (by omega),wrap_i64 (by omega) (by omega)]
theorem Fh (w:World)(k:Nat)(e:Array Obj):bW w (Go.Sort.grow (w.drewN k) e):=by
 refine uE rfl rfl rfl (by simp[Go.Sort.grow,World.drewN]) λj q=>?_
 show(w.heap++e)[j]? =_
 rw[Array.getElem?_append_left q]
abbrev Ek (P:Program)(w:World):Prop:=Lib.TabIs P w "internal/strconv.uint64pow10" .u64 Lib.pow10Tab
theorem vo (n:Int)(H:0 <=n)(h1:n<100)(w:World):Cf qw #[vI n,vI 2] w (Ret λv w'=>v=vS (gU n)/\bW w w'):=by
 obtain⟨k,rfl⟩:∃k:Nat,n=(k:Int):=⟨n.toNat,by omega⟩
 apply Df
 refine(Tryz.strconv_Itoa_small k (by omega) w).mono ?_
 rintro _ _ ⟨rfl,rfl⟩
 refine⟨Lib.decDigits k,rfl,?_⟩
 by_cases h:k<10
 ·have e:=Uf k h
  have q:i64.wrap ((2:Int)-(((Lib.decDigits k).length:Nat):Int))=((1:Nat):Int):=by rw[e,wrap_i64 (by omega) (by omega)];omega
  try dsimp only
  rw[q]
  refine(Tryz.strings_Repeat (mkS [48]) 1 _ (by decide) (by decide)).mono ?_
  rintro _ G ⟨rfl,D⟩
  refine⟨[48],rfl,by rw[e];decide,?_⟩
  rintro _ rfl
  exact⟨by rw[<- SU k h];rfl,D⟩
 ·have E:=Of k (by omega) (by omega)
  have e:(Lib.decDigits k).length=2:=by rw[E];rfl
  have q:i64.wrap ((2:Int)-(((Lib.decDigits k).length:Nat):Int))=((0:Nat):Int):=by rw[e,wrap_i64 (by omega) (by omega)];omega
  try dsimp only
  rw[q]
  refine(Tryz.strings_Repeat (mkS [48]) 0 _ (by decide) (by decide)).mono ?_
  rintro _ G ⟨rfl,D⟩
  refine⟨[],rfl,by rw[e];decide,?_⟩
  rintro _ rfl
  exact⟨by rw[<- E];rfl,D⟩
theorem Js (n:Int)(G:1000 <=n)(h1:n <=9999)(w:World)(I:Ek prog w):Cf qw #[vI n,vI 4] w (Ret λv w'=>v=vS (gU (n/100)++gU (n%100))/\bW w w'):=by
 apply Df
 refine(Tryz.strconv_Itoa n (by omega) (by omega) w I).mono ?_
 rintro _ _ ⟨rfl,k,M,rfl⟩
 have e:=XL G h1
 refine⟨Lib.itoa n,rfl,?_⟩
 have D:(Lib.itoa n).length=4:=by rw[e];rfl
 have E:i64.wrap ((4:Int)-(((Lib.itoa n).length:Nat):Int))=((0:Nat):Int):=by rw[D,wrap_i64 (by omega) (by omega)];omega
 try dsimp only
 rw[E]
 refine(Tryz.strings_Repeat (mkS [48]) 0 _ (by decide) (by decide)).mono ?_
 rintro _ O ⟨rfl,H⟩
 refine⟨[],rfl,by rw[D];decide,?_⟩
 rintro _ rfl
 have q:=Fh w k M
 exact⟨by rw[<- e];rfl,ah q H q.size⟩
theorem UY:∀k,k<7->(([84,104,117,70,114,105,83,97,116,83,117,110,77,111,110,84,117,101,87,101,100]:List UInt8).take (3*k+3)).drop (3*k)=rQ (k:Int):=by decide
theorem Wa:∀k,k<12->(([74,97,110,70,101,98,77,97,114,65,112,114,77,97,121,74,117,110,74,117,108,65,117,103,83,101,112,79,99,116,78,111,118,68,101,99]:List UInt8).take (3*k+3)).drop (3*k)=zJ ((k:Int)+1):=by decide
theorem UZ:∀k:Nat,k<7->(rQ (k:Int)).length=3:=by decide
theorem Wb:∀k:Nat,k<12->(zJ ((k:Int)+1)).length=3:=by decide
theorem A1 {k:Int}(e:0 <=k)(h1:k<7):(rQ k).length=3:=by
 have:=UZ k.toNat (by omega)
 rwa [show((k.toNat:Nat):Int)=k by omega]at this
theorem DV {k:Int}(e:1 <=k)(h1:k <=12):(zJ k).length=3:=by
 have:=Wb (k-1).toNat (by omega)
 rwa [show(((k-1).toNat:Nat):Int)+1=k by omega]at this
theorem N3 (t:Int)(ag: -9223372036854775808 <=t)(h1:t <=9223372036854775807)(w:World)(bj:Ek prog w):Cf yS #[vI t] w (Ret λv w'=>v=vS (lK t)/\bW w w'):=by
 apply Nw
 obtain⟨E,G⟩:=sB (t:=t) (b:=86400) (by decide)
 refine⟨by decide,?_⟩
 rintro _ rfl
 refine⟨by decide,?_⟩
 rintro _ rfl
 refine⟨λn s w'=>w'=w/\n=t/86400/\s=t%86400,?_,?_⟩
 ·refine ai.of (λh=>?_) (λh=>?_) <;> simp only[dTx,dFx]at h
  ·have a9:t<0:=by
    by_cases c:0 <=t
    ·have:=(E c).2;omega
    ·omega
   obtain⟨O,H⟩:=G a9
   rw[H]at h
   rw[O,H,wrap_i64 (n:= -(-t/86400)) (by omega) (by omega),wrap_i64 (by omega) (by omega),wrap_i64 (by omega) (by omega)]
   exact⟨rfl,by omega,by omega⟩
  ·by_cases c:0 <=t
   ·rw[(E c).1,(E c).2,wrap_i64 (by omega) (by omega)];exact⟨rfl,rfl,rfl⟩
   ·obtain⟨O,H⟩:=G (by omega)
    rw[H]at h
    rw[O,H,wrap_i64 (by omega) (by omega)];exact⟨rfl,by omega,by omega⟩
 ·clear E G
  intro n s
  refine aP.of ?_ _
  rintro w ⟨rfl,rfl,rfl⟩
  refine az (MR _ w (by omega)) ?_
  rintro _ b0 ⟨rfl,I⟩
  by_cases ac:t/86400 < -134774\/2932896<t/86400
  ·rw[ns ac]
   refine⟨_,_,_,_,rfl,ai.yes rfl ⟨by rw[wZ ac],I⟩⟩
  obtain⟨y,m,d,U,M⟩:=Jk (n:=t/86400) (by omega) (by omega)
  rw[zW U M,<- M,wB U,M]
  refine⟨y,m,d,true,rfl,ai.no rfl ?_⟩
  have aj:=U
  obtain⟨bs,bz,ar,a0,bk,bp⟩:=aj
  have bq:=pd y m
  generalize a8:t/86400=n at*
  generalize bc:t%86400=s at*
  have V:0 <=s/\s<86400:=by omega
  clear ag h1 a8 bc M
  obtain⟨E,G⟩:=sB (t:=n) (b:=7) (by decide)
  have X: -7<Int.tmod n 7/\Int.tmod n 7<7/\(Int.tmod n 7+7)%7=n%7:=by
   by_cases c:0 <=n
   ·rw[(E c).2];omega
   ·rw[(G (by omega)).2];omega
  clear E G
  refine⟨by decide,?_⟩
  rintro _ rfl
  refine⟨by decide,?_⟩
  rintro _ rfl
  have e8:Int.tmod (i64.wrap (Int.tmod n 7+7)) 7=n%7:=by rw[wrap_i64 (by omega) (by omega),bP (by omega),X.2.2]
  try dsimp only
  rw[e8]
  clear X e8
  have Y:0 <=n%7/\n%7<7:=by omega
  have q:=A1 Y.1 Y.2
  have e:=DV ar a0
  obtain⟨k,an⟩:∃k:Nat,n%7=(k:Int):=⟨(n%7).toNat,by omega⟩
  obtain⟨j,al⟩:∃j:Nat,m=(j:Int)+1:=⟨(m-1).toNat,by omega⟩
  have ad:=UY k (by omega)
  have Z:=Wa j (by omega)
  rw[<- an]at ad
  rw[<- al]at Z
  rw[wrap_i64 (n:=3*(n%7)) (by omega) (by omega),wrap_i64 (n:=3*(n%7)+3) (by omega) (by omega),show(3*(n%7)+3).toNat=3*k+3 by omega,show(3*(n%7)).toNat=3*k by omega,ad]
  refine⟨⟨⟨by omega,by simp only[List.length_cons,List.length_nil];omega⟩,by omega,by omega⟩,?_⟩
  rintro _ rfl
  refine⟨fits (by simp only[List.length_append,aY,q,e,List.length_cons,List.length_nil];omega),?_⟩
  rintro _ rfl
  refine⟨gU d,λu D=>fZ (vo d (by omega) (by omega) u) D,?_⟩
  refine⟨fits (by simp only[List.length_append,aY,q,e,List.length_cons,List.length_nil];omega),?_⟩
  rintro _ rfl
  refine⟨fits (by simp only[List.length_append,aY,q,e,List.length_cons,List.length_nil];omega),?_⟩
  rintro _ rfl
  rw[wrap_i64 (n:=3*m) (by omega) (by omega),wrap_i64 (n:=3*m-3) (by omega) (by omega),show(3*m).toNat=3*j+3 by omega,show(3*m-3).toNat=3*j by omega,Z]
  refine⟨⟨⟨by omega,by simp only[List.length_cons,List.length_nil];omega⟩,by omega,by omega⟩,?_⟩
  rintro _ rfl
  refine⟨fits (by simp only[List.length_append,aY,q,e,List.length_cons,List.length_nil];omega),?_⟩
  rintro _ rfl
  refine⟨fits (by simp only[List.length_append,aY,q,e,List.length_cons,List.length_nil];omega),?_⟩
  rintro _ rfl
  refine⟨gU (y/100)++gU (y%100),λu D=>fZ (Js y (by omega) (by omega) u (QP (QP bj I) D)) D,?_⟩
  refine⟨fits (by simp only[List.length_append,aY,q,e,List.length_cons,List.length_nil];omega),?_⟩
  rintro _ rfl
  refine⟨fits (by simp only[List.length_append,aY,q,e,List.length_cons,List.length_nil];omega),?_⟩
  rintro _ rfl
  refine⟨by decide,?_⟩
  rintro _ rfl
  rw[bL V.1,wrap_i64 (n:=s/3600) (by omega) (by omega)]
  refine⟨gU (s/3600),λu D=>fZ (vo _ (by omega) (by omega) u) D,?_⟩
  refine⟨fits (by simp only[List.length_append,aY,q,e,List.length_cons,List.length_nil];omega),?_⟩
  rintro _ rfl
  refine⟨fits (by simp only[List.length_append,aY,q,e,List.length_cons,List.length_nil];omega),?_⟩
  rintro _ rfl
  refine⟨by decide,?_⟩
  rintro _ rfl
  refine⟨by decide,?_⟩
  rintro _ rfl
  rw[bL V.1,wrap_i64 (n:=s/60) (by omega) (by omega),bP (a:=s/60) (by omega)]
  refine⟨gU (s/60%60),λu D=>fZ (vo _ (by omega) (by omega) u) D,?_⟩
  refine⟨fits (by simp only[List.length_append,aY,q,e,List.length_cons,List.length_nil];omega),?_⟩
  rintro _ rfl
  refine⟨fits (by simp only[List.length_append,aY,q,e,List.length_cons,List.length_nil];omega),?_⟩
  rintro _ rfl
  refine⟨by decide,?_⟩
  rintro _ rfl
  rw[bP (a:=s) V.1]
  refine⟨gU (s%60),λu D=>fZ (vo _ (by omega) (by omega) u) D,?_⟩
  refine⟨fits (by simp only[List.length_append,aY,q,e,List.length_cons,List.length_nil];omega),?_⟩
  rintro _ rfl
  refine⟨fits (by simp only[List.length_append,aY,q,e,List.length_cons,List.length_nil];omega),?_⟩
  rintro _ rfl
  intro b1 bb
  refine⟨?_,ah I bb I.size⟩
  congr 2
  simp[xO,rI,List.append_assoc]
def ik (p:UInt8->Bool)(s:List UInt8):List UInt8:=(s.reverse.dropWhile p).reverse
def r3 (p:UInt8->Bool)(s:List UInt8):List UInt8:=ik p (s.dropWhile p)
theorem zr (p:UInt8->Bool)(x:UInt8)(s:List UInt8):ik p (x::s)=if ik p s=[]then(if p x then[]else[x])else x::ik p s:=by
 unfold ik
 rw[List.reverse_cons]
 have key:∀t:List UInt8,List.dropWhile p (t++[x])=if List.dropWhile p t=[]then(if p x then[]else[x])else List.dropWhile p t++[x]:=by
  intro t
  induction t with
  |nil=>simp[List.dropWhile_cons]
  |cons y t e=>
   rw[List.cons_append,List.dropWhile_cons,List.dropWhile_cons]
   split
   ·exact e
   ·rw[if_neg (by simp)];rfl
 rw[key]
 by_cases h:List.dropWhile p s.reverse=[]
 ·have h':(List.dropWhile p s.reverse).reverse=[]:=by rw[h];rfl
  rw[if_pos h,if_pos h']
  split <;> rfl
 ·have h': ¬ (List.dropWhile p s.reverse).reverse=[]:=by simpa using h
  rw[if_neg h,if_neg h']
  simp
theorem Ed (p:UInt8->Bool):∀s:List UInt8,(ik p s).dropWhile p=r3 p s
 |[]=>rfl
 |x::s=>by
  have E:=Ed p s
  unfold r3 at E ⊢
  cases e:p x with
  |true=>
   have D:List.dropWhile p (x::s)=List.dropWhile p s:=by rw[List.dropWhile_cons,if_pos e]
   rw[D,<- E,zr]
   by_cases h:ik p s=[]
   ·rw[if_pos h,if_pos e,h]
   ·rw[if_neg h,List.dropWhile_cons,if_pos e]
  |false=>
   have q: ¬ p x=true:=by rw[e];decide
   have D:List.dropWhile p (x::s)=x::s:=by rw[List.dropWhile_cons,if_neg q]
   rw[D,zr]
   by_cases h:ik p s=[]
   ·rw[if_pos h,if_neg q,List.dropWhile_cons,if_neg q]
   ·rw[if_neg h,List.dropWhile_cons,if_neg q]
theorem EI (p:UInt8->Bool):∀s:List UInt8,ik p s=[] ↔ s.all p=true
 |[]=>by simp[ik]
 |x::s=>by
  have e:=EI p s
  rw[zr,List.all_cons,Bool.and_eq_true,<- e]
  by_cases h:ik p s=[]
  ·rw[if_pos h]
   cases p x <;> simp[h]
  ·rw[if_neg h];simp[h]
theorem xi (p:UInt8->Bool):∀s:List UInt8,r3 p s=[] ↔ s.all p=true
 |[]=>by simp[r3,ik]
 |x::s=>by
  unfold r3
  rw[List.dropWhile_cons]
  cases e:p x with
  |true=>rw[if_pos rfl,List.all_cons,e,Bool.true_and];exact xi p s
  |false=>rw[if_neg (by decide),EI]
theorem RC (p:UInt8->Bool)(s:List UInt8):∀x∈ik p s,x∈s:=λx e=>by
 unfold ik at e
 rw[List.mem_reverse]at e
 exact List.mem_reverse.1 ((List.dropWhile_sublist p).subset e)
theorem Mp (p:UInt8->Bool)(s:List UInt8):∀x∈r3 p s,x∈s:=λx e=>(List.dropWhile_sublist p).subset (RC p _ x e)
theorem HF (p:UInt8->Bool)(s:List UInt8):(r3 p s).length <=s.length:=by
 unfold r3 ik
 rw[List.length_reverse]
 have h1:=(List.dropWhile_sublist p (l:=(s.dropWhile p).reverse)).length_le
 have e:=(List.dropWhile_sublist p (l:=s)).length_le
 rw[List.length_reverse]at h1;omega
theorem KD (s cs:List UInt8):Lib.trimS s cs=r3 (cs.contains ·) s:=Ed _ s
def lH (c:UInt8):Bool:=c==32 || c==9
def cq (s:List UInt8):List UInt8:=r3 lH s
theorem Q3:∀n,n<256->([32,9]:List UInt8).contains (UInt8.ofNat n)=lH (UInt8.ofNat n):=by decide+kernel
theorem WV (c:UInt8):([32,9]:List UInt8).contains c=lH c:=by
 have:=Q3 c.toNat (by have:=c.toNat_lt;omega)
 rwa [UInt8.ofNat_toNat]at this
theorem Wp (s:List UInt8):Lib.trimS s [32,9]=cq s:=by
 rw[KD];unfold cq;congr 1;exact funext WV
def fi (s:List UInt8):Bool:= !(s==[])&&s.all gO
theorem PR (s:List UInt8):(Lib.trimS s [48,49,50,51,52,53,54,55,56,57]==[])=s.all gO:=by
 rw[KD]
 have e:(λx=>([48,49,50,51,52,53,54,55,56,57]:List UInt8).contains x)=gO:=funext Sc
 rw[e,Bool.eq_iff_iff,beq_iff_eq,xi]
def JU (s:List UInt8):Prop:=fi s=true/\s.length <=18/\ ¬ (s.head?=some 48/\1<s.length)
instance  (s:List UInt8):Decidable (JU s):=by unfold JU;infer_instance
theorem yt (s:List UInt8)(D:s.length <=9223372036854775807)(w:World):Cf uZ #[vS s] w (Ret λv w'=>v=vS (cq s)/\bW w w'):=by
 apply LJ
 refine(Tryz.strings_Trim_laid (mkS s) (mkS [32,9]) w D (by decide) (ascii_of_all (by decide))).mono ?_
 rintro _ E ⟨rfl,q⟩
 have e:Lib.trimS (mkS s).data.toList (mkS [32,9]).data.toList=cq s:=Wp s
 rw[e]
 exact⟨_,rfl,rfl,q⟩
theorem zg (s:List UInt8)(D:s.length <=9223372036854775807)(w:World):Cf uy #[vS s] w (Ret λv w'=>v=.bool (fi s)/\bW w w'):=by
 apply IF
 unfold fi
 refine ai.of (λh=>?_) (λh=>?_)
 ·refine⟨⟨by decide,by decide⟩,?_⟩
  rintro _ rfl
  refine(Tryz.strings_Trim_laid (mkS s) (mkS [48,49,50,51,52,53,54,55,56,57]) w D (by decide) (ascii_of_all (by decide))).mono ?_
  rintro _ E ⟨rfl,q⟩
  refine⟨_,rfl,?_,q⟩
  have e:=PR s
  rw[h,Bool.true_and,<- e];rfl
 ·rw[h];exact⟨rfl,Below.refl _ _⟩
theorem Da (s:List UInt8)(bs:s.length <=9223372036854775000)(w:World):
 Cf xf #[vS s] w (Ret λv w'=>v=(if JU s then .tuple #[vI (jT s),.bool true]else .tuple #[vI 0,.bool false])/\bW w w'):=by
 apply IG
 have H:∀{w':World},¬ JU s->bW w w'->(.tuple #[vI 0,.bool false]:Value)=(if JU s then .tuple #[vI (jT s),.bool true]else .tuple #[vI 0,.bool false])/\bW w w':=λG q=>⟨by rw[if_neg G],q⟩
 refine cw (λw'=>JU s/\bW w w') ?_ ?_
 ·refine az (zg s (by omega) w) ?_
  rintro _ ad ⟨rfl,q⟩
  refine⟨_,rfl,?_⟩
  refine ai.of (λh=>?_) (λh=>?_) <;> simp only[Bool.not_eq_true',Bool.not_eq_false']at h
  ·exact H (λe=>by rw[e.1]at h;cases h) q
  refine ai.of (λV=>?_) (λV=>?_) <;> simp only[gt_iff_lt,dTx,dFx]at V
  ·exact H (λe=>by have:=e.2.1;omega) q
  have ar:s≠[]:=λI=>by rw[I]at h;cases h
  match s,ar with
  |c::r,_=>
   have bb:bm (c::r) 0=((c.toNat:Nat):Int):=rfl
   rw[bb]
   refine⟨⟨by decide,by simp only[List.length_cons];omega⟩,?_⟩
   refine ai.of (λM=>?_) (λM=>?_)
   ·have e:c=48:=AR (by simpa using M)
    refine ai.of (λX=>?_) (λX=>?_) <;> simp only[gt_iff_lt,dTx,dFx]at X
    ·exact H (λD=>D.2.2 ⟨by rw[e];rfl,by omega⟩) q
    ·exact⟨⟨h,by omega,λD=>by omega⟩,q⟩
   ·have e:c≠48:=λI=>by subst I;cases M
    exact⟨⟨h,by omega,λD=>e (by simpa using D.1)⟩,q⟩
 ·rintro ad ⟨G,q⟩
  rw[if_pos G]
  obtain⟨O,bp,_⟩:=G
  have Y:∀c∈s,gO c=true:=λc e=>by
   unfold fi at O
   rw[Bool.and_eq_true]at O
   exact List.all_eq_true.1 O.2 c e
  obtain⟨ag,a,n,c,a8,U,al,bj⟩:=DO ax fF dm ad s (by omega) NoB
  have a0:=U.len
  subst a0
  have aj:=ah q al q.size
  refine⟨ag,a,_,c,a8,?_⟩
  refine⟨λm n i w'=>∃k:Nat,k <=s.length/\i=(k:Int)/\n=jT (s.take k)/\m=s.length-k/\w'=ag,⟨_,0,by omega,rfl,rfl,rfl,rfl⟩,?_⟩
  intro m n i
  refine aP.of ?_ _
  rintro w' ⟨k,bk,rfl,rfl,rfl,rfl⟩
  refine ai.of (λh=>?_) (λh=>?_) <;> simp only[dTx,dFx]at h
  ·have E:k<s.length:=by omega
   have e:=nu.1 (Y s[k] (List.getElem_mem E))
   have Z:=lM (s.take k) 0 (by decide) λc e=>Y c (List.mem_of_mem_take e)
   have bq:(10:Int) ^ (s.take k).length <=10 ^ 17:=zU (by rw[List.length_take];omega)
   have bc:(10:Int) ^ 17=100000000000000000:=by decide
   have hV:(s.take k).foldl (λn c=>n*10+((c.toNat:Int)-48)) 0=jT (s.take k):=rfl
   rw[hV]at Z
   have an:=Z.2
   rw[Int.zero_add,Int.one_mul]at an
   obtain⟨v,ac,a9⟩:=U.all.load1 (i:=(k:Int)) dm rfl rfl (by simpa using E)
   have:=Mq a9
   subst this
   simp only[Int.toNat_natCast]at ac
   refine⟨⟨⟨by omega,h⟩,U.all.isSome E⟩,_,ac,s.length-(k+1),by omega,k+1,by omega,by rw[wrap_i64 (by omega) (by omega)];omega,?_,rfl,rfl⟩
   rw[List.take_succ_eq_append_getElem E,tN,wrap_i64 (n:=10*jT (s.take k)) (by omega) (by omega),wrap_u8 (n:=((s[k].toNat:Nat):Int)-48) (by omega) (by omega),wrap_i64 (n:=((s[k].toNat:Nat):Int)-48) (by omega) (by omega),wrap_i64 (by omega) (by omega)]
   omega
  ·have:k=s.length:=by omega
   subst this
   rw[List.take_length];exact⟨rfl,aj⟩
theorem sI (s:List UInt8)(c:UInt8)(O:s.length<4294967281)(w:World)(G:Env w):
 Cf qx #[vS s,.int .u8 ((c.toNat:Nat):Int)] w (Ret λv w'=>∃a n q,v=.slice a n q/\Ow tS ao w' NoB a n q (bY c [] s)/\ci w.heap.size a/\bW w w'):=by
 apply Ki
 intro k e H D
 have hB:=(D▸au w _:bW w e)
 have M:Ow tU8 bF e NoB (some ⟨k,0,none⟩) 1 1 [c]:=Ow.newF (l:=[_]) wK H D (kK.one (uA rfl)) (show 1 <=maxLen by decide)
 refine⟨_,uX fF ax dm M.all,?_⟩
 obtain⟨m,I⟩:=(G.step hB).max
 refine(Tryz.strings_Split (mkS s) (mkS [c]) m e O I (Nat.le_refl 1)).mono ?_
 rintro _ V ⟨rfl,E⟩
 have U:=jQ c s []
 rw[Kw,PL]at*
 refine⟨_,_,_,rfl,_,_,_,rfl,Ow.newF (gI _) rfl E (o5 λ_ _=>trivial) (by show _ <=2 ^ 63-1;omega),sr rfl |>.mono hB.size,ah hB (E▸au _ _) hB.size⟩
def dE (s:List UInt8):List UInt8:=cq (s.takeWhile (· !=61))
def du (s:List UInt8):List UInt8:=cq ((s.dropWhile (· !=61)).drop 1)
def xI (s:List UInt8):Bool:=decide ((61:UInt8)∈s)
theorem WI (c:UInt8):((c !=61)=true) ↔ c≠61:=by simp
theorem zK (h:(61:UInt8) ∉ s):s.takeWhile (· !=61)=s/\s.dropWhile (· !=61)=[]:=by
 have D:∀x∈s,(x !=61)=true:=λx E=>(WI x).2 λq=>h (q▸E)
 have h1:s.takeWhile (· !=61)=s:=by
  have:=List.takeWhile_append_of_pos (p:=(· !=61)) (l₁:=s) (l₂:=[]) D
  simpa using this
 have e:=List.takeWhile_append_dropWhile (p:=(· !=(61:UInt8))) (l:=s)
 refine⟨h1,?_⟩
 rw[h1]at e
 exact List.append_cancel_left (e.trans (List.append_nil s).symm)
def jP (c:UInt8):Bool:=(decide (c.toNat<32) && !(c==9)) || c==127
theorem fq (c n:UInt8):((((c.toNat:Nat):Int))==((n.toNat:Nat):Int))=(c==n):=by
 rw[Bool.eq_iff_iff,beq_iff_eq,beq_iff_eq]
 exact⟨λh=>AR h,λh=>by rw[h]⟩
theorem byte_at (h:k<s.length):bm s (k:Int)=((s[k].toNat:Nat):Int):=by
 rw[tW (i:=(k:Int)) (by simpa using h)];simp only[Int.toNat_natCast]
theorem i6 (s:List UInt8)(U:s.length <=9223372036854775807)(w:World):Cf gY #[vS s] w (Ret λv w'=>v=.bool (fi s)/\w'=w):=by
 apply IH
 refine⟨λm i w'=>∃k:Nat,k <=s.length/\i=(k:Int)/\m=s.length-k/\(s.take k).all gO=true/\w'=w,⟨_,0,by omega,rfl,rfl,rfl,rfl⟩,?_⟩
 intro m i
 refine aP.of ?_ _
 rintro w' ⟨k,O,rfl,rfl,q,rfl⟩
 refine ai.of (λh=>?_) (λh=>?_) <;> simp only[dTx,dFx]at h
 ·have E:k<s.length:=by omega
  have D:=Hc E
  have G: ¬ gO s[k]=true->(.bool false:Value)=.bool (fi s)/\w'=w':=λM=>⟨by
   congr 1
   symm
   unfold fi
   rw[Bool.and_eq_false_iff]
   right
   rw[Bool.eq_false_iff]
   intro e
   exact M (List.all_eq_true.1 e _ (List.getElem_mem E)),rfl⟩
  refine⟨⟨by omega,h⟩,?_⟩
  refine ai.of (λH=>?_) (λH=>?_) <;> simp only[dTx,dFx]at H
  ·exact G λe=>by have:=(D.1 e).1;omega
  refine⟨⟨by omega,h⟩,?_⟩
  refine ai.of (λI=>?_) (λI=>?_) <;> simp only[gt_iff_lt,dTx,dFx]at I
  ·exact G λe=>by have:=(D.1 e).2;omega
  ·refine⟨s.length-(k+1),by omega,k+1,by omega,by rw[wrap_i64 (by omega) (by omega)];omega,rfl,?_,rfl⟩
   rw[List.take_succ_eq_append_getElem E,List.all_append,q]
   simp[D.2 ⟨by omega,by omega⟩]
 ·have:k=s.length:=by omega
  subst this
  rw[List.take_length]at q
  refine⟨?_,rfl⟩
  congr 1
  unfold fi
  rw[q,Bool.and_true]
  cases s <;> simp
theorem eH (s:List UInt8)(c:UInt8)(bq:s.length <=100000000)(w:World):
 Cf eD #[vS s,.int .u8 ((c.toNat:Nat):Int)] w (Ret λv w'=>∃a n q,v=.slice a n q/\Ow tS ao w' NoB a n q (bY c [] s)/\ci w.heap.size a/\bW w w'):=by
 apply Kk
 intro bb an aj al
 have hB:=(al▸au w _:bW w an)
 have a8:Ow tS ao an NoB (some ⟨bb,0,none⟩) 0 0 []:=Ow.newF (gI _) aj al (kK.nil _ _ _) (Nat.zero_le _)
 refine⟨λm a n q ag i w'=>∃(k j:Nat) (done:List (List UInt8)),k <=s.length/\j <=k/\i=(k:Int)/\ag=(j:Int)/\m=s.length-k/\done.length <=k/\bY c [] s=done++bY c ((s.take k).drop j) (s.drop k)/\
  Ow tS ao w' NoB a n q done/\ci w.heap.size a/\bW w w',
  ⟨_,0,0,[],by omega,by omega,rfl,rfl,rfl,Nat.le_refl _,rfl,a8,sr aj,hB⟩,?_⟩
 intro m a n q ag i
 refine aP.of ?_ _
 rintro bs ⟨k,j,done,bp,bk,rfl,rfl,rfl,bj,e,X,M,H⟩
 refine ai.of (λh=>?_) (λh=>?_) <;> simp only[dTx,dFx]at h
 ·have V:k<s.length:=by omega
  have ar:i64.wrap ((k:Int)+1)=((k+1:Nat):Int):=by rw[wrap_i64 (by omega) (by omega)];omega
  try dsimp only
  rw[ar,byte_at V,fq]
  rw[VL c s _ k V]at e
  refine⟨⟨by omega,h⟩,?_⟩
  refine ai.of (λD=>?_) (λD=>?_)
  ·rw[beq_iff_eq]at D
   rw[if_pos D]at e
   refine⟨⟨⟨by omega,by omega⟩,by omega,by omega⟩,?_⟩
   rintro _ rfl a9 bc U E
   simp only[Int.toNat_natCast]at E ⊢
   obtain⟨ad,a4,ac,G,Z,Y,O,I⟩:=AM (ty:=bI) (w0:=w) (cm:=1) (vs:=[_]) (gI _) lQ bS (by decide) X M H U E (qk trivial) (by omega)
   refine⟨ad,a4,ac,G,Z,s.length-(k+1),by omega,k+1,k+1,_,by omega,Nat.le_refl _,rfl,rfl,rfl,?_,?_,Y,O,I⟩
   ·simp;omega
   ·have a0:(s.take (k+1)).drop (k+1)=[]:=List.drop_eq_nil_of_le (by rw[List.length_take];omega)
    rw[e,a0]
    simp
  ·rw[beq_eq_false_iff_ne]at D
   rw[if_neg D]at e
   refine⟨s.length-(k+1),by omega,k+1,j,done,by omega,by omega,rfl,rfl,rfl,by omega,?_,X,M,H⟩
   rw[e,List.take_succ_eq_append_getElem V,List.drop_append_of_le_length (by rw[List.length_take];omega)]
 ·have:k=s.length:=by omega
  subst this
  refine⟨⟨by omega,by omega⟩,?_⟩
  rintro _ rfl a9 bc U E
  simp only[Int.toNat_natCast]at E ⊢
  obtain⟨ad,a4,ac,G,Z,Y,O,I⟩:=AM (ty:=bI) (w0:=w) (cm:=1) (vs:=[_]) (gI _) lQ bS (by decide) X M H U E (qk trivial) (by omega)
  refine⟨ad,a4,ac,G,Z,_,_,_,rfl,?_,O,I⟩
  rw[e]
  simpa[bY]using Y
theorem EC (s:List UInt8)(M:s.length<4294967281)(w:World)(I:Env w):
 Cf yd #[vS s] w (Ret λv w'=>v=.tuple #[vS (dE s),vS (du s),.bool (xI s)]/\bW w w'):=by
 apply J8
 obtain⟨m,e⟩:=I.max
 refine(Tryz.strings_Cut (mkS s) (mkS [61]) m w M e).mono ?_
 rintro _ V ⟨rfl,n,rfl⟩
 have E:Lib.cut (mkS s).data.toList (mkS [61]).data.toList=(s.takeWhile (· !=61),(s.dropWhile (· !=61)).drop 1,xI s):=by
  show Lib.cut s [61]=_
  rw[Ue]
  unfold xI
  by_cases e:(61:UInt8)∈s
  ·rw[if_pos e,decide_eq_true e]
  ·rw[if_neg e,decide_eq_false e,(zK e).1,(zK e).2];rfl
 rw[E]
 refine⟨s.takeWhile (· !=61),(s.dropWhile (· !=61)).drop 1,_,rfl,?_⟩
 have h1:=bN (· !=(61:UInt8)) s
 have U:=(List.dropWhile_sublist (· !=(61:UInt8)) (l:=s)).length_le
 refine az (yt _ (by omega) _) ?_
 rintro _ O ⟨rfl,G⟩
 refine⟨_,rfl,?_⟩
 refine az (yt _ (by rw[List.length_drop];omega) O) ?_
 rintro _ X ⟨rfl,H⟩
 have q:bW w (w.drewN n):=uE rfl rfl rfl (Nat.le_refl _) (λ_ _=>rfl)
 have D:=ah q G q.size
 exact⟨_,rfl,rfl,ah D H D.size⟩
theorem Hk (s:List UInt8)(ar:s.length <=9223372036854775807)(w:World):Cf xF #[vS s] w (Ret λv w'=>v=.bool (s.any jP)/\bW w w'):=by
 apply Gx
 obtain⟨ag,a,n,c,al,V,Z,a0⟩:=DO ax fF dm w s ar NoB
 have aj:=V.len
 subst aj
 refine⟨ag,a,_,c,al,?_⟩
 refine⟨λm i w'=>∃k:Nat,k <=s.length/\i=(k:Int)/\m=s.length-k/\(s.take k).any jP=false/\w'=ag,⟨_,0,by omega,rfl,rfl,rfl,rfl⟩,?_⟩
 intro m i
 refine aP.of ?_ _
 rintro w' ⟨k,a8,rfl,rfl,U,rfl⟩
 refine ai.of (λh=>?_) (λh=>?_) <;> simp only[dTx,dFx]at h
 ·have D:k<s.length:=by omega
  obtain⟨v,ac,an⟩:=V.all.load1 (i:=(k:Int)) dm rfl rfl (by simpa using D)
  have:=Mq an
  subst this
  simp only[Int.toNat_natCast]at ac
  have G:jP s[k]=true->(.bool true:Value)=.bool (s.any jP)/\bW w w':=λO=>⟨by
   congr 1;symm
   exact List.any_eq_true.2 ⟨_,List.getElem_mem D,O⟩,Z⟩
  have Y:jP s[k]=false->∃ad:Nat,ad<s.length-k/\∃E:Nat,E <=s.length/\i64.wrap ((k:Int)+1)=(E:Int)/\ad=s.length-E/\(s.take E).any jP=false/\w'=w':=λO=>
   ⟨s.length-(k+1),by omega,k+1,by omega,by rw[wrap_i64 (by omega) (by omega)];omega,rfl,by rw[List.take_succ_eq_append_getElem D,List.any_append,U];simp[O],rfl⟩
  have X:=fq s[k] 9
  have q:=fq s[k] 127
  refine⟨⟨⟨by omega,h⟩,V.all.isSome D⟩,_,ac,?_⟩
  refine ai.of (λH=>?_) (λH=>?_)
  ·simp only[dTx]at H
   refine ai.of (λI=>?_) (λI=>?_)
   ·refine G ?_
    have M:(s[k]==9)=false:=by rw[<- X];simpa using I
    unfold jP
    rw[M,decide_eq_true (show s[k].toNat<32 by omega)];rfl
   ·have M:(s[k]==9)=true:=by rw[<- X];simpa using I
    refine ai.of (λe=>?_) (λe=>?_)
    ·refine G ?_
     unfold jP
     rw[<- q,show((((s[k].toNat:Nat):Int))==((UInt8.toNat 127:Nat):Int))=true from e,Bool.or_true]
    ·refine Y ?_
     unfold jP
     rw[<- q,show((((s[k].toNat:Nat):Int))==((UInt8.toNat 127:Nat):Int))=false from e,M]
     simp
  ·simp only[dFx]at H
   refine ai.of (λe=>?_) (λe=>?_)
   ·refine G ?_
    unfold jP
    rw[<- q,show((((s[k].toNat:Nat):Int))==((UInt8.toNat 127:Nat):Int))=true from e,Bool.or_true]
   ·refine Y ?_
    unfold jP
    rw[<- q,show((((s[k].toNat:Nat):Int))==((UInt8.toNat 127:Nat):Int))=false from e,decide_eq_false (show ¬ s[k].toNat<32 by omega)]
    rfl
 ·have:k=s.length:=by omega
  subst this
  rw[List.take_length]at U
  exact⟨by rw[U],Z⟩
def Ce (s:List UInt8):Option Int:=if s.head?=some 45 then(if fi (s.drop 1)then some 0 else none)else if fi s then some (min (jT s) 34560000)else none
theorem yw (s:List UInt8)(c:UInt8):Lib.hasPrefix s [c]=decide (s.head?=some c)/\Lib.trimPrefix s [c]=if s.head?=some c then s.drop 1 else s:=by
 cases s with
 |nil=>exact⟨by simp[Lib.hasPrefix],rfl⟩
 |cons x s=>
  by_cases h:x=c
  ·subst h
   have q:Lib.hasPrefix (x::s) [x]=true:=by simp[Lib.hasPrefix,List.isPrefixOf]
   refine⟨by rw[q];simp,?_⟩
   unfold Lib.trimPrefix;rw[q];simp
  ·have e:Lib.hasPrefix (x::s) [c]=false:=by simp[Lib.hasPrefix,List.isPrefixOf,Ne.symm h]
   refine⟨by rw[e];simp[h],?_⟩
   unfold Lib.trimPrefix;rw[e];simp[h]
theorem Vb (p:UInt8->Bool):∀s:List UInt8,s.dropWhile p=[] ↔ s.all p=true
 |[]=>by simp
 |x::s=>by
  rw[List.dropWhile_cons,List.all_cons]
  cases h:p x with
  |true=>rw[if_pos rfl,Bool.true_and];exact Vb p s
  |false=>simp
theorem N5:∀(l:List UInt8) (e:Int),l.foldl (λn c=>n*10+((c.toNat:Int)-48)) e=(l.dropWhile (· ==48)).foldl (λn c=>n*10+((c.toNat:Int)-48)) e\/e≠0
 |[],e=>.inl rfl
 |c::l,e=>by
  by_cases q:e=0
  ·subst q
   left
   rw[List.dropWhile_cons]
   split
   ·rename_i h
    have:c=48:=by simpa using h
    subst this
    rw[List.foldl_cons]
    have D:(0:Int)*10+(((48:UInt8).toNat:Int)-48)=0:=by decide
    rw[D]
    rcases N5 l 0 with h|h
    ·exact h
    ·exact absurd rfl h
   ·rfl
  ·exact .inr q
theorem Re (l:List UInt8):jT l=jT (l.dropWhile (· ==48)):=by
 rcases N5 l 0 with h|h
 ·exact h
 ·exact absurd rfl h
theorem Sa:∀(l:List UInt8) (e:Int),0 <=e->(∀c∈l,gO c=true)->e*10 ^ l.length <=l.foldl (λn c=>n*10+((c.toNat:Int)-48)) e
 |[],e,h,_=>by simp
 |c::l,e,h,q=>by
  have E:=nu.1 (q c List.mem_cons_self)
  have h1:=Sa l (e*10+((c.toNat:Int)-48)) (by omega) λx D=>q x (List.mem_cons_of_mem _ D)
  rw[List.foldl_cons]
  refine Int.le_trans ?_ h1
  rw[List.length_cons,Int.pow_succ,Int.mul_comm (10 ^ l.length) 10,<- Int.mul_assoc]
  exact Int.mul_le_mul_of_nonneg_right (by omega) (Int.pow_nonneg (by decide))
theorem Ug {l:List UInt8}(q:∀c∈l,gO c=true)(E:l.head?≠some 48)(e:19 <=l.length):34560000<jT l:=by
 match l,e with
 |c::r,e=>
  have U:=nu.1 (q c List.mem_cons_self)
  have V:c.toNat≠48:=λD=>E (by have:c=48:=UInt8.toNat_inj.1 D;rw[this];rfl)
  have h1:=Sa r (0*10+((c.toNat:Int)-48)) (by omega) λx H=>q x (List.mem_cons_of_mem _ H)
  have G:jT (c::r)=r.foldl (λn c=>n*10+((c.toNat:Int)-48)) (0*10+((c.toNat:Int)-48)):=rfl
  rw[G]
  have M:(10:Int) ^ 18 <=10 ^ r.length:=zU (by simp at e;omega)
  have I:(10:Int) ^ 18=1000000000000000000:=by decide
  have O:(1:Int)*10 ^ r.length <=(0*10+((c.toNat:Int)-48))*10 ^ r.length:=Int.mul_le_mul_of_nonneg_right (by omega) (Int.pow_nonneg (by decide))
  omega
structure Hdr where
 name:List UInt8
 value:List UInt8
 domain:List UInt8
 path:List UInt8
 hasE:Bool
 exp:Int
 hasA:Bool
 age:Int
 sec:Bool
 http:Bool
 same:Int
def Hdr.cells (h:Hdr):List Value:=[vS h.name,vS h.value,vS h.domain,vS h.path,.bool h.hasE,vI h.exp,.bool h.hasA,vI h.age,.bool h.sec,.bool h.http,vI h.same]
def Hdr.v (h:Hdr):Value:=.agg h.cells.toArray
def iJ:Hdr:=⟨[],[],[],[],false,0,false,0,false,false,0⟩
def Dn (v:List UInt8):Int:=if cN v=[110,111,110,101]then 1 else if cN v=[108,97,120]then 2 else if cN v=[115,116,114,105,99,116]then 3 else 0
def jS (h:Hdr)(key value:List UInt8):Hdr:=
 if key=[101,120,112,105,114,101,115]then(if we (qh value)then{ h with hasE:=true,exp:=rJ (qh value) } else h)
 else if key=[109,97,120,45,97,103,101]then(match Ce value with|some n=> { h with hasA:=true,age:=n }|none=>h)
 else if key=[100,111,109,97,105,110]then{ h with domain:=cN (if value.head?=some 46 then value.drop 1 else value) }
 else if key=[112,97,116,104]then{ h with path:=if value.head?=some 47 then value else[] }
 else if key=[115,101,99,117,114,101]then{ h with sec:=true }
 else if key=[104,116,116,112,111,110,108,121]then{ h with http:=true }
 else if key=[115,97,109,101,115,105,116,101]then{ h with same:=Dn value }
 else h
theorem av.put {u:TypeId}{bytes:Nat}{z:Value}(I:TF P u 1 bytes z){vs:List Value}(h:av w k t vs){v:Value}(G:i<vs.length)(h1:v.oneCell'=true)(e:v.cells= #[v]):
 ∃w',(Instr.storeAt u (.pointer (some ⟨k,i,none⟩)) v).run P w=.ok () w'/\av w' k t (vs.set i v)/\w.grownBy w' (some k):=by
 obtain⟨w',H,q,E⟩:=h.store I (i:=i) (v:=v) (by rw[e];rfl) (by omega) (by rw[e];intro c D;simp at D;subst D;exact h1)
 refine⟨w',H,?_,E⟩
 rw[e]at q
 have:vs.set i v=vs.take i++[v]++vs.drop (i+1):=by
  rw[List.set_eq_take_append_cons_drop,if_pos G];simp
 rw[this];exact q
theorem N1 (s:List UInt8)(c:UInt8)(w:World):Cf jU #[vS s,vS [c]] w (Ret λv w'=>v=.tuple #[vS (if s.head?=some c then s.drop 1 else s),.bool (decide (s.head?=some c))]/\w'=w):=by
 refine(Tryz.strings_CutPrefix (mkS s) (mkS [c]) w).mono ?_
 rintro _ _ ⟨rfl,rfl⟩
 refine⟨_,rfl,?_,rfl⟩
 have h:=yw s c
 have D:(mkS s).data.toList=s:=rfl
 have E:(mkS [c]).data.toList=[c]:=rfl
 rw[D,E,h.1]
 by_cases q:s.head?=some c
 ·rw[if_pos q]
  have e:=h.2
  rw[if_pos q]at e
  rw[e];rfl
 ·rw[if_neg q]
  have e:=h.2
  rw[if_neg q]at e
  rw[e];rfl
def IP (s:List UInt8):Value:=match Ce s with|some n=>.tuple #[vI n,.bool true]|none=>.tuple #[vI 0,.bool false]
theorem M3 (s:List UInt8)(bp:s.length <=10000000)(w:World):Cf CW #[vS s] w (Ret λv w'=>v=IP s/\bW w w'):=by
 apply Lv
 refine az (N1 s 45 w) ?_
 rintro _ w ⟨rfl,rfl⟩
 refine⟨_,_,rfl,?_⟩
 have bj:(if s.head?=some 45 then s.drop 1 else s).length <=s.length:=by split <;> simp
 refine az (zg _ (by omega) w) ?_
 rintro _ a9 ⟨rfl,D⟩
 refine⟨_,rfl,?_⟩
 by_cases e:s.head?=some 45
 ·rw[if_pos e,decide_eq_true e]
  unfold IP Ce
  rw[if_pos e]
  cases G:fi (s.drop 1)
  ·exact ai.yes rfl ⟨rfl,D⟩
  ·exact ai.no rfl (ai.yes rfl ⟨rfl,D⟩)
 ·rw[if_neg e,decide_eq_false e]
  unfold IP Ce
  rw[if_neg e]
  cases G:fi s
  ·exact ai.yes rfl ⟨rfl,D⟩
  ·refine ai.no rfl (ai.no rfl ?_)
   refine(Tryz.strings_TrimLeft_one (mkS s) 48 (by decide) a9).mono ?_
   rintro _ _ ⟨rfl,rfl⟩
   have q:Lib.trimLeftB (mkS s).data.toList 48=s.dropWhile (· ==48):=rfl
   rw[q]
   refine⟨s.dropWhile (· ==48),rfl,?_⟩
   have ag:∀c∈s,gO c=true:=λc M=>by
    unfold fi at G
    rw[Bool.and_eq_true]at G
    exact List.all_eq_true.1 G.2 c M
   have Y:=List.dropWhile_sublist (λc:UInt8=>c==48) (l:=s)
   have I:∀c∈s.dropWhile (· ==48),gO c=true:=λc M=>ag c (Y.subset M)
   have X:(s.dropWhile (· ==48)).head?≠some 48:=λq=>by
    have:=List.head?_dropWhile_not (λc:UInt8=>c==48) s
    rw[q]at this
    simp at this
   have bk:=Y.length_le
   have a8:=Re s
   refine az (Da _ (by omega) _) ?_
   rintro _ ac ⟨rfl,aj⟩
   have E:=ah D aj D.size
   rw[a8]
   have Z:(s.dropWhile (· ==48)=[]) ↔ s.all (· ==48)=true:=by
    exact Vb _ s
   generalize s.dropWhile (· ==48)=t at*
   have an:=lM t 0 (by decide) I
   have bc:0 <=jT t:=an.1
   by_cases O:JU t
   ·rw[if_pos O]
    refine⟨_,_,rfl,ai.no rfl ?_⟩
    refine ai.of (λh=>?_) (λh=>?_) <;> simp only[gt_iff_lt,dTx,dFx]at h
    ·exact⟨by rw[if_pos rfl];simp only[];rw[Int.min_eq_right (by omega)],E⟩
    ·exact⟨by rw[if_pos rfl];simp only[];rw[Int.min_eq_left (by omega)],E⟩
   ·rw[if_neg O]
    refine⟨_,_,rfl,ai.yes rfl ?_⟩
    refine(Tryz.strings_Trim_one (mkS s) 48 (by decide) ac (by show s.length <=_;omega)).mono ?_
    rintro _ w4 ⟨rfl,a0⟩
    have al:bW ac w4:=by
     rcases a0 with rfl|rfl
     ·exact Below.refl _ _
     ·exact bD _
    have V:=ah E al E.size
    have ad:Lib.trimB (mkS s).data.toList 48=r3 (· ==48) s:=Ed _ s
    rw[ad]
    refine⟨r3 (· ==48) s,rfl,?_⟩
    by_cases H:t=[]
    ·have U:r3 (· ==48) s=[]:=(xi _ s).2 (Z.1 H)
     rw[U]
     refine ai.no rfl (ai.no rfl ⟨?_,V⟩)
     rw[H,if_pos rfl];rfl
    ·have U:r3 (· ==48) s≠[]:=λq=>H (Z.2 ((xi _ s).1 q))
     have ar:fi t=true:=by
      unfold fi
      rw[Bool.and_eq_true]
      exact⟨by simpa using H,List.all_eq_true.2 I⟩
     have bb:34560000<jT t:=Ug I X (by
      by_cases c:t.length <=18
      ·exact absurd ⟨ar,c,λh=>X h.1⟩ O
      ·omega)
     refine ai.yes (by simpa using U) ⟨?_,V⟩
     rw[if_pos rfl];simp only[];rw[Int.min_eq_right (by omega)]
structure Whl (P:Program)(t:TypeId)(n:Nat):Prop where
 tf:∃bytes z,TF P t n bytes z
 ag:(P.underlying t).map El=some true
def Ie (cs:List Value):Prop:=∀c∈cs,c.oneCell'=true
theorem Db {a b:List Value}(h:Ie a)(k:Ie b):Ie (a++b):=λc e=>(List.mem_append.1 e).elim (h c) (k c)
theorem aR {x:Value}{b:List Value}(h:x.oneCell'=true)(k:Ie b):Ie (x::b):=λc q=>(List.mem_cons.1 q).elim (λe=>e▸h) (k c)
theorem di:Ie []:=λ_ h=>by cases h
theorem Xf (a:List UInt8):Ie (a.map λc=>Value.int .u8 ((c.toNat:Nat):Int)):=λc e=>by
 obtain⟨x,_,rfl⟩:=List.mem_map.1 e;rfl
theorem Whl.store (h:Whl P t n){cs:List Value}(G:cs.length=n)(h1:Ie cs){T:TypeId}{vs:List Value}(q:av w k T vs)(E:i+n <=vs.length):
 ∃e,(Instr.storeAt t (.pointer (some ⟨k,i,none⟩)) (.agg cs.toArray)).run P w=.ok () e/\av e k T (vs.take i++cs++vs.drop (i+n))/\w.grownBy e (some k):=by
 obtain⟨bytes,z,H⟩:=h.tf
 exact q.store H (i:=i) (v:=.agg cs.toArray) (by simpa[Value.cells]using G) E (λc D=>h1 c (by simpa[Value.cells]using D))
theorem Whl.store0 (h:Whl P t n){cs:List Value}(G:cs.length=n)(h1:Ie cs){T:TypeId}{vs:List Value}(D:av w k T vs)(I:vs.length=n):
 ∃e,(Instr.storeAt t (.pointer (some ⟨k,0,none⟩)) (.agg cs.toArray)).run P w=.ok () e/\av e k T cs/\w.grownBy e (some k):=by
 obtain⟨e,H,q,E⟩:=h.store G h1 D (i:=0) (by omega)
 refine⟨e,H,?_,E⟩
 rw[List.take_zero,List.nil_append,List.drop_eq_nil_of_le (by omega),List.append_nil]at q
 exact q
theorem Whl.load (h:Whl P t n){T:TypeId}{vs us:List Value}(D:av w k T vs)(E:us.length=n)(I:∀j,j<n->vs[i+j]? =us[j]?):
 (Instr.loadAt t (.pointer (some ⟨k,i,none⟩))).run P w=.ok (.agg us.toArray) w:=by
 obtain⟨bytes,z,M⟩:=h.tf
 obtain⟨U,H,G,_,_⟩:=M.info
 have e:=h.ag
 cases q:P.underlying t with
 |none=>rw[q]at e;cases e
 |some d=>
  rw[q]at e
  simp only[Option.map_some,Option.some.injEq]at e
  exact D.loadA q e H (us:=us) (i:=i) (by rw[G];exact E) (λj O=>I j (by omega))
theorem Whl.load0 (h:Whl P t n){T:TypeId}{cs:List Value}(e:av w k T cs)(q:cs.length=n):
 (Instr.loadAt t (.pointer (some ⟨k,0,none⟩))).run P w=.ok (.agg cs.toArray) w:=h.load e q λj _=>by rw[Nat.zero_add]
theorem Whl.new (h:Whl P t n){zs cs:List Value}(U:zs.length=n)(M:cs.length=n)(h1:Ie cs)(w:World){R:Nat->World->Prop}
 (E:∀k wx,k=w.heap.size->av wx k t cs->bW w wx->R k wx):
 ∀(k:Nat) (e:World),k=w.heap.size->e=w.alloc (.cells zs.toArray t)->∃(wx:World),(Instr.storeAt t (.pointer (some ⟨k,0,none⟩)) (.agg cs.toArray)).run P e=.ok () wx/\R k wx:=by
 intro k e q D
 have hB:=(D▸au w _:bW w e)
 obtain⟨wx,O,H,I⟩:=h.store0 M h1 (av.new q D:av e k t zs) U
 exact⟨wx,O,E k wx q H (hB.grown I hB.size λx G=>by cases G;omega)⟩
theorem Whl.fin (h:Whl P t n){cs:List Value}(q:cs.length=n)(h1:Ie cs){w w':World}{vs:List Value}(G:av w' m t vs)(V:vs.length=n)(e:bW w w')(O:w.heap.size <=m)
 {K:Value->World->Prop} (I:∀wx,bW w wx->K (.agg cs.toArray) wx):
 ∃(wx:World),(Instr.storeAt t (.pointer (some ⟨m,0,none⟩)) (.agg cs.toArray)).run P w'=.ok () wx/\∃D:Value,(aI t (.pointer (some ⟨m,0,none⟩))).run P wx=.ok D wx/\K D wx:=by
 obtain⟨wx,U,H,M⟩:=h.store0 q h1 G V
 exact⟨wx,U,_,av.res (h.load0 H q),I wx (e.grown M e.size λx E=>by cases E;exact O)⟩
theorem Below.put {w0 w w':World}(h:bW w0 w)(q:w.grownBy w' (some k))(D:w0.heap.size <=k):bW w0 w':=h.grown q h.size λx e=>by cases e;exact D
theorem bw {x y:Nat}(h:x≠y):some x≠some y:=λe=>h (Option.some.inj e)
theorem ni (k o i:Nat):aw (some ⟨k,o,none⟩) (i:Int) 1=some ⟨k,o+i,none⟩:=by
 unfold aw
 simp only[Option.map_some,Int.toNat_natCast,Nat.mul_one,Option.some.injEq]
 unfold Addr.add;split <;> simp_all
theorem Ow.put {α:Type}{T:Ty α}{w w':World}{a:Option Addr}{n c k:Nat}{xs:List α}(h:Ow T t w NoB a n c xs)(E:∀g,j0 a=some g->g≠k)(D:w.grownBy w' (some k)):Ow T t w' NoB a n c xs:=
 h.keep (jR D λb e q=>by
  rcases e with e|e
  ·exact e
  ·exact E b e.symm (Option.some.inj q))
theorem Sl.text {u:TypeId}(D:P.underlying u=some .string){A:Bl}{a:Option Addr}{n c:Nat}{xs:List (List UInt8)}(h:Sl tS w A a n c xs)(e:i<xs.length):(Instr.loadAt u (.pointer (aw a (i:Int) 1))).run P w=.ok (.string (mkS xs[i])) w:=by
 obtain⟨v,E,q⟩:=h.load1 (i:=(i:Int)) D rfl rfl (by simpa using e)
 obtain⟨rfl,-⟩:=nw q
 simpa using E
end Go.Pk
