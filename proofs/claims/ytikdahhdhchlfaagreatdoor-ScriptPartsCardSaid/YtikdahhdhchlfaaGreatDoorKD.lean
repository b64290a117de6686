/- What the laws lean on: Shelf, DateE, DateF, DateG, DateH, DateI, DateJ, DateK, DateL, DateM, DateN, DateO, DateR, DateS, DateT, HdrA, HdrB, HdrC, Big; what is used. Its conditions: none. -/
import Derived.Test.YtikdahhdhchlfaaGreatDoorKC
import Derived.Shelf.Strings.SlTrimAscii
import Derived.Shelf.Strings.Builder1
import Derived.Shelf.Strings.Builder2
import Derived.Shelf.Strings.OnBuilder
import Derived.Shelf.Strings.Trim
import Derived.Shelf.Small.Utf8
import Derived.Shelf.Small.Bits
import Derived.Shelf.Small.Strs
import Derived.Shelf.Small.Wraps
import Derived.Shelf.Strings.BuilderF
import Derived.Shelf.Strings.BuilderK
import Derived.Shelf.Utf8.RuneCount
import Derived.Shelf.Strings.Builder2Cap
import Derived.Shelf.Strconv.Atoi
import Derived.Shelf.Strconv.Itoa0
import Derived.Shelf.Strconv.Itoa1
import Derived.Shelf.LaysM
import Derived.Shelf.Strconv.Itoa2
import Derived.Shelf.Strconv.Itoa3
import Derived.Shelf.Strconv.Itoa4
import Derived.Shelf.Strconv.AtoiErrFast
import Derived.Shelf.Strconv.ParseIntEmpty
import Derived.Shelf.Strconv.AtoiFail
import Derived.Shelf.Strconv.Clone
import Derived.Shelf.Strconv.SyntaxError
import Derived.Shelf.LaysC
import Derived.Shelf.Strconv.ToError
import Derived.Shelf.Strconv.AtoiErr
import Derived.Shelf.Strconv.Lower
import Derived.Shelf.Strconv.ParseUint10
import Derived.Shelf.Strconv.ParseUint10Empty
import Derived.Shelf.Strconv.ParseUint10Any
import Derived.Shelf.Strconv.RangeError
import Derived.Shelf.Strconv.ToErrorRange
import Derived.Shelf.Strconv.ParseUintEmpty
import Derived.Shelf.Strconv.ParseUint10b64
import Derived.Shelf.Strconv.ParseUint10b32
import Derived.Shelf.Strconv.ParseUint10b16
import Derived.Shelf.Strconv.ParseUint10b8
import Derived.Shelf.Strconv.ParseUint10At
import Derived.Shelf.Strings.Search1
import Derived.Shelf.Strings.Search2
import Derived.Shelf.Strings.Search3
import Derived.Shelf.Strings.Cut
import Derived.Shelf.Strings.Count
import Derived.Shelf.Strings.Shaped
import Derived.Shelf.Strings.LastIndex
import Derived.Shelf.Strings.Prefix
import Derived.Shelf.Strings.Split
import Derived.Shelf.Strings.SplitShaped
import Derived.Shelf.Unicode.Decode
import Derived.Shelf.Strings.Runes
import Derived.Shelf.Strings.RuneCount
import Derived.Shelf.Strings.IndexAny
import Derived.Shelf.Strings.AsciiSet
import Derived.Shelf.Strings.IndexAnyAll
import Derived.Shelf.Strings.Explode
import Derived.Shelf.Bits.Mul64
import Derived.Shelf.Strings.Repeat
import Derived.Shelf.Unicode.DecodeSlow
import Derived.Shelf.Unicode.DecodeAny
import Derived.Shelf.Unicode.DecodeLast
import Derived.Shelf.Strings.BuilderCap
import Derived.Shelf.Slices.Turned
import Derived.Ground.Names2Prog
import Derived.Shelf.Slices.Clone
import Derived.Ground.SlgnProg
import Derived.Shelf.SlicesE.Clone
import Derived.Ground.PaProg
import Derived.Shelf.Path.Small
open Go.IntKind (i64)
open Go.Proofs.Tryz
namespace Go.Pk
open Go.RowKit (Below)
open Go.Proofs
end Go.Pk
namespace Go.Proofs
open Go.Pk (Cf vS vI bW)
open Go.Shelf
open Go.RowKit in
def Tryz.lays156_ren:Go.Shelf.Ren:=⟨fun|156=>37|165=>88|166=>36|169=>40|240=>87|241=>170|276=>169|277=>247|n=>n,fun|31=>36|9=>9|3=>3|4=>4|0=>0|20=>20|72=>86|76=>89|70=>83|37=>84|75=>88|127=>168|164=>233|5=>5|80=>94|n=>n,fun|n=>n⟩
theorem Tryz.lays156:Go.Proofs.Lays.n156 prog Tryz.lays156_ren:=by constructor <;> intros <;> kernel_rfl
theorem Tryz.Builder_Extra_156:Builder.Extra prog Tryz.lays156_ren:= {
 sizeBuilder:=by kernel_rfl
 liesBuilder:=by kernel_rfl
 t5:=Tryz.underlying5
 a5:=Tryz.isAgg5
 z5:=Tryz.sizeOf5
 v5:=Tryz.zeroValue5
 infoByte:=by kernel_rfl
 cellsByte:=by kernel_rfl
 sizeByte:=by kernel_rfl
 neB5:=by decide }
open Go.RowKit in
theorem Tryz.strings_Join_none (a:Option Addr)(c:Nat)(sep:ByteArray)(w:World):
   Cf 37 #[.slice a 0 c,.string sep] w λe w'=>e=.returned (.string ⟨#[]⟩)/\w'=w:=Any.strings_Join_none Tryz.lays156 Tryz.Builder_Extra_156 a c sep w
open Go.RowKit in
theorem Tryz.strings_Join (bk o c:Nat)(xs:List ByteArray)(sep:ByteArray)(w:World)(hcells:∀(j:Nat) x,xs[j]? =some x->w.cell? ⟨bk,o+j,none⟩=some (.string x))(hbk:bk<w.heap.size)(hN:xs.length <=140737488355328)(hcap:xs.length <=c)(hlen:(Lib.join (xs.map (·.data.toList)) sep.data.toList).length <=140737488355328):
   Cf 37 #[.slice (some ⟨bk,o,none⟩) xs.length c,.string sep] w λe w'=>e=.returned (.string ⟨(Lib.join (xs.map (·.data.toList)) sep.data.toList).toArray⟩)/\bW w w':=Any.strings_Join Tryz.lays156 Tryz.Builder_Extra_156 bk o c xs sep w hcells hbk hN hcap hlen
open Go.RowKit in
def Tryz.lays161_ren:Go.Shelf.Ren:=⟨fun|161=>267|231=>213|227=>145|233=>215|235=>217|228=>146|197=>276|151=>277|260=>315|152=>143|137=>219|119=>220|224=>221|225=>222|217=>279|266=>317|n=>n,fun|9=>9|4=>4|3=>3|5=>5|117=>211|116=>210|0=>0|124=>266|105=>308|21=>21|119=>340|46=>139|139=>343|138=>342|n=>n,fun|3=>2|4=>3|n=>n⟩
theorem Tryz.lays161:Go.Proofs.Lays.n161 prog Tryz.lays161_ren:=by constructor <;> intros <;> kernel_rfl
open Go.RowKit in
theorem Tryz.strings_TrimLeft_one (s:ByteArray)(c:UInt8)(hc:c.toNat<128)(w:World):
   Cf 267 #[.string s,.string ⟨#[c]⟩] w λe w'=>e=.returned (.string ⟨(Lib.trimLeftB s.data.toList c).toArray⟩)/\w'=w:=Any.strings_TrimLeft_one Tryz.lays161 s c hc w
def Tryz.lays160_ren:Go.Shelf.Ren:=⟨fun|160=>141|232=>214|231=>213|227=>145|234=>216|233=>215|236=>218|235=>217|228=>146|271=>278|151=>277|197=>276|120=>316|152=>143|260=>315|137=>219|119=>220|224=>221|225=>222|217=>279|266=>317|n=>n,fun|9=>9|4=>4|3=>3|5=>5|117=>211|116=>210|0=>0|124=>266|21=>21|105=>308|46=>139|119=>340|139=>343|138=>342|n=>n,fun|3=>2|4=>3|n=>n⟩
theorem Tryz.lays160:Go.Proofs.Lays.n160 prog Tryz.lays160_ren:=by constructor <;> intros <;> kernel_rfl
open Go.RowKit in
theorem Tryz.strings_Trim_one (s:ByteArray)(c:UInt8)(hc:c.toNat<128)(w:World)(hs:s.size <=9223372036854775807):
   Cf 141 #[.string s,.string ⟨#[c]⟩] w λe w'=>e=.returned (.string ⟨(Lib.trimB s.data.toList c).toArray⟩)/\(w'=w\/w'=w.drew):=Any.strings_Trim_one Tryz.lays160 s c hc w hs
def Tryz.lays119_ren:Go.Shelf.Ren:=⟨fun|119=>220|n=>n,fun|21=>21|4=>4|n=>n,fun|n=>n⟩
theorem Tryz.lays119:Go.Proofs.Lays.n119 prog Tryz.lays119_ren:=by constructor <;> intros <;> kernel_rfl
theorem Tryz.utf8_ValidRune (r:Int)(w:World):
   Cf 220 #[.int .i32 r] w λe w'=>e=.returned (.bool (Lib.validRune r))/\w'=w:=Any.utf8_ValidRune Tryz.lays119 r w
def Tryz.lays137_ren:Go.Shelf.Ren:=⟨fun|137=>219|217=>279|266=>317|n=>n,fun|9=>9|5=>5|3=>3|n=>n,fun|n=>n⟩
theorem Tryz.lays137:Go.Proofs.Lays.n137 prog Tryz.lays137_ren:=by constructor <;> intros <;> kernel_rfl
open Go.RowKit in
theorem Tryz.strings_IndexByte (s:ByteArray)(c:Int)(w:World):
   Cf 219 #[.string s,.int .u8 c] w λe w'=>e=.returned (vI (Lib.indexByte s.data.toList c.toNat.toUInt8))/\w'=w:=Any.strings_IndexByte Tryz.lays137 s c w
open Go.RowKit in
def Tryz.lays103_ren:Go.Shelf.Ren:=⟨fun|103=>147|210=>223|206=>142|n=>n,fun|9=>9|4=>4|24=>110|3=>3|n=>n,fun|n=>n⟩
theorem Tryz.lays103:Go.Proofs.Lays.n103 prog Tryz.lays103_ren:=by constructor <;> intros <;> kernel_rfl
open Go.RowKit in
theorem Tryz.strings_CutPrefix (s p:ByteArray)(w:World):
   Cf 147 #[.string s,.string p] w λe w'=>e=.returned (.tuple #[.string ⟨(Lib.trimPrefix s.data.toList p.data.toList).toArray⟩,.bool (Lib.hasPrefix s.data.toList p.data.toList)])/\w'=w:=Any.strings_CutPrefix Tryz.lays103 s p w
open Go.RowKit in
def Tryz.lays104_ren:Go.Shelf.Ren:=⟨fun|104=>148|211=>224|207=>176|n=>n,fun|9=>9|4=>4|24=>110|3=>3|n=>n,fun|n=>n⟩
theorem Tryz.lays104:Go.Proofs.Lays.n104 prog Tryz.lays104_ren:=by constructor <;> intros <;> kernel_rfl
open Go.RowKit in
theorem Tryz.strings_CutSuffix (s p:ByteArray)(w:World)(hs:s.size <=9223372036854775807):
   Cf 148 #[.string s,.string p] w λe w'=>e=.returned (.tuple #[.string ⟨(Lib.trimSuffix s.data.toList p.data.toList).toArray⟩,.bool (Lib.hasSuffix s.data.toList p.data.toList)])/\w'=w:=Any.strings_CutSuffix Tryz.lays104 s p w hs
open Go.RowKit in
def Tryz.lays172_ren:Go.Shelf.Ren:=⟨fun|172=>327|244=>335|245=>336|247=>339|279=>340|280=>341|281=>342|282=>343|287=>345|316=>346|171=>59|205=>347|321=>350|322=>351|243=>113|246=>174|283=>251|284=>252|285=>253|286=>254|129=>212|317=>299|318=>300|319=>301|320=>302|337=>324|338=>325|n=>n,fun|9=>9|3=>3|75=>88|76=>89|4=>4|5=>5|167=>352|37=>84|0=>0|85=>353|2=>2|168=>355|53=>263|175=>360|46=>139|210=>363|127=>168|145=>370|143=>368|21=>21|171=>287|173=>289|212=>321|51=>261|20=>20|213=>322|232=>346|233=>347|80=>94|n=>n,fun|15=>6|16=>7|17=>1|18=>4|19=>5|n=>n⟩
theorem Tryz.lays172:Go.Proofs.Lays.n172 prog Tryz.lays172_ren:=by constructor <;> intros <;> kernel_rfl
open Go.RowKit in
theorem Tryz.strconv_Atoi (s:ByteArray)(n:Int)(hl:s.size <=18)(h:Lib.atoi s.data.toList=some n)(w:World):
   Cf 327 #[.string s] w λe w'=>e=.returned (.tuple #[vI n,.nilIface])/\∃t,w'=Lib.bytesWorld w 5 t:=Any.strconv_Atoi Tryz.lays172 s n hl h w
open Go.Lib in
open Go.RowKit Go.Sort Go.Lib in
def Tryz.laysM246_ren:Go.Shelf.Ren:=⟨fun|246=>174|283=>251|284=>252|285=>253|286=>254|129=>212|317=>299|318=>300|319=>301|320=>302|337=>324|338=>325|n=>n,fun|2=>2|3=>3|9=>9|4=>4|171=>287|0=>0|53=>263|37=>84|5=>5|173=>289|212=>321|51=>261|20=>20|213=>322|46=>139|232=>346|233=>347|n=>n,fun|17=>1|18=>4|19=>5|n=>n⟩
theorem Tryz.laysM246:Go.Proofs.LaysM.n246 prog Tryz.laysM246_ren:=by constructor <;> first|(intros;kernel_rfl)|(constructor <;> intros <;> kernel_rfl)
open Go.RowKit Go.Sort Go.Lib in
theorem Tryz.internal_strconv_FormatInt_10 (n:Int)(h0: -9223372036854775808 <=n)(h1:n <=9223372036854775807)(w:World)(htab:Lib.TabIs prog w "internal/strconv.uint64pow10" .u64 Lib.pow10Tab):
   Cf 174 #[vI n,vI 10] w λe w'=>e=.returned (.string ⟨(Lib.itoa n).toArray⟩)/\∃k os,w'=grow (w.drewN k) os:=Any.internal_strconv_FormatInt_10 Tryz.laysM246 n h0 h1 w htab
open Go.RowKit Go.Sort Go.Lib in
def Tryz.laysM171_ren:Go.Shelf.Ren:=⟨fun|171=>59|243=>113|246=>174|283=>251|284=>252|285=>253|286=>254|129=>212|317=>299|318=>300|319=>301|320=>302|337=>324|338=>325|n=>n,fun|3=>3|9=>9|2=>2|4=>4|171=>287|0=>0|53=>263|37=>84|5=>5|173=>289|212=>321|51=>261|20=>20|213=>322|46=>139|232=>346|233=>347|n=>n,fun|17=>1|18=>4|19=>5|n=>n⟩
theorem Tryz.laysM171:Go.Proofs.LaysM.n171 prog Tryz.laysM171_ren:=by constructor <;> first|(intros;kernel_rfl)|(constructor <;> intros <;> kernel_rfl)
open Go.RowKit Go.Sort Go.Lib in
theorem Tryz.strconv_Itoa (n:Int)(h0: -9223372036854775808 <=n)(h1:n <=9223372036854775807)(w:World)(htab:Lib.TabIs prog w "internal/strconv.uint64pow10" .u64 Lib.pow10Tab):
   Cf 59 #[vI n] w λe w'=>e=.returned (.string ⟨(Lib.itoa n).toArray⟩)/\∃k os,w'=grow (w.drewN k) os:=Any.strconv_Itoa Tryz.laysM171 n h0 h1 w htab
def Tryz.lays171_ren:Go.Shelf.Ren:=⟨fun|171=>59|243=>113|246=>174|283=>251|284=>252|285=>253|286=>254|129=>212|317=>299|318=>300|319=>301|320=>302|337=>324|338=>325|n=>n,fun|3=>3|9=>9|2=>2|4=>4|171=>287|0=>0|53=>263|37=>84|5=>5|173=>289|212=>321|51=>261|20=>20|213=>322|46=>139|232=>346|233=>347|n=>n,fun|17=>1|18=>4|19=>5|n=>n⟩
theorem Tryz.lays171:Go.Proofs.Lays.n171 prog Tryz.lays171_ren:=by constructor <;> intros <;> kernel_rfl
open Go.RowKit Go.Sort Go.Lib in
theorem Tryz.strconv_Itoa_small (i:Nat)(hi:i<100)(w:World):
   Cf 59 #[vI i] w λe w'=>e=.returned (.string ⟨(Lib.decDigits i).toArray⟩)/\w'=w:=Any.strconv_Itoa_small Tryz.lays171 i hi w
open Go.RowKit Go.Sort Go.Lib in
open Go.RowKit in
open Go.RowKit Go.Lib in
def Tryz.lays145_ren:Go.Shelf.Ren:=⟨fun|145=>185|220=>263|219=>305|217=>279|225=>222|224=>221|267=>326|266=>317|314=>334|n=>n,fun|9=>9|4=>4|59=>178|3=>3|5=>5|46=>139|146=>348|51=>261|n=>n,fun|1=>0|n=>n⟩
theorem Tryz.lays145:Go.Proofs.Lays.n145 prog Tryz.lays145_ren:=by constructor <;> intros <;> kernel_rfl
open Go.RowKit Go.Lib in
theorem Tryz.strings_Cut (s sep:ByteArray)(m:Int)(w:World)(hs:s.size<4294967281)(hm:w.cell? ⟨0,0,none⟩=some (vI m)):
   Cf 185 #[.string s,.string sep] w λe w'=>e=.returned (.tuple #[.string ⟨(Lib.cut s.data.toList sep.data.toList).1.toArray⟩,.string ⟨(Lib.cut s.data.toList sep.data.toList).2.1.toArray⟩,.bool (Lib.cut s.data.toList sep.data.toList).2.2])/\∃n,w'=w.drewN n:=Any.strings_Cut Tryz.lays145 s sep m w hs hm
open Go.RowKit Go.Lib in
def Tryz.lays149_ren:Go.Shelf.Ren:=⟨fun|149=>194|222=>270|n=>n,fun|9=>9|5=>5|3=>3|4=>4|n=>n,fun|n=>n⟩
theorem Tryz.lays149:Go.Proofs.Lays.n149 prog Tryz.lays149_ren:=by constructor <;> intros <;> kernel_rfl
open Go.RowKit Go.Lib in
theorem Tryz.strings_LastIndexByte (s:ByteArray)(c:Int)(hs:s.size<4611686018427387904)(w:World):
   Cf 194 #[.string s,.int .u8 c] w λe w'=>e=.returned (vI (Lib.lastIndexByte s c))/\w'=w:=Any.strings_LastIndexByte Tryz.lays149 s c hs w
open Go.RowKit Go.Lib in
def Tryz.lays99_ren:Go.Shelf.Ren:=⟨fun|99=>77|206=>142|n=>n,fun|9=>9|4=>4|3=>3|n=>n,fun|n=>n⟩
theorem Tryz.lays99:Go.Proofs.Lays.n99 prog Tryz.lays99_ren:=by constructor <;> intros <;> kernel_rfl
open Go.RowKit Go.Lib in
theorem Tryz.strings_HasPrefix (s p:ByteArray)(w:World):
   Cf 77 #[.string s,.string p] w λe w'=>e=.returned (.bool (Lib.hasPrefix s.data.toList p.data.toList))/\w'=w:=Any.strings_HasPrefix Tryz.lays99 s p w
open Go.RowKit Go.Lib in
def Tryz.lays100_ren:Go.Shelf.Ren:=⟨fun|100=>196|207=>176|n=>n,fun|9=>9|4=>4|3=>3|n=>n,fun|n=>n⟩
theorem Tryz.lays100:Go.Proofs.Lays.n100 prog Tryz.lays100_ren:=by constructor <;> intros <;> kernel_rfl
open Go.RowKit Go.Lib in
theorem Tryz.strings_HasSuffix (s p:ByteArray)(w:World)(hs:s.size <=9223372036854775807):
   Cf 196 #[.string s,.string p] w λe w'=>e=.returned (.bool (Lib.hasSuffix s.data.toList p.data.toList))/\w'=w:=Any.strings_HasSuffix Tryz.lays100 s p w hs
open Go.RowKit Go.Lib in
def Tryz.lays101_ren:Go.Shelf.Ren:=⟨fun|101=>188|208=>268|206=>142|n=>n,fun|9=>9|4=>4|3=>3|n=>n,fun|n=>n⟩
theorem Tryz.lays101:Go.Proofs.Lays.n101 prog Tryz.lays101_ren:=by constructor <;> intros <;> kernel_rfl
open Go.RowKit Go.Lib in
theorem Tryz.strings_TrimPrefix (s p:ByteArray)(w:World):
   Cf 188 #[.string s,.string p] w λe w'=>e=.returned (.string ⟨(Lib.trimPrefix s.data.toList p.data.toList).toArray⟩)/\w'=w:=Any.strings_TrimPrefix Tryz.lays101 s p w
open Go.RowKit Go.Lib in
def Tryz.lays102_ren:Go.Shelf.Ren:=⟨fun|102=>45|209=>95|207=>176|n=>n,fun|9=>9|4=>4|3=>3|n=>n,fun|n=>n⟩
theorem Tryz.lays102:Go.Proofs.Lays.n102 prog Tryz.lays102_ren:=by constructor <;> intros <;> kernel_rfl
open Go.RowKit Go.Lib in
theorem Tryz.strings_TrimSuffix (s p:ByteArray)(w:World)(hs:s.size <=9223372036854775807):
   Cf 45 #[.string s,.string p] w λe w'=>e=.returned (.string ⟨(Lib.trimSuffix s.data.toList p.data.toList).toArray⟩)/\w'=w:=Any.strings_TrimSuffix Tryz.lays102 s p w hs
open Go.RowKit Go.Lib in
def Tryz.lays146_ren:Go.Shelf.Ren:=⟨fun|146=>94|221=>175|268=>255|138=>256|143=>257|195=>303|197=>276|218=>304|219=>305|260=>315|217=>279|225=>222|224=>221|267=>326|266=>317|314=>334|n=>n,fun|9=>9|31=>36|3=>3|4=>4|0=>0|105=>308|21=>21|5=>5|46=>139|119=>340|139=>343|138=>342|146=>348|51=>261|n=>n,fun|1=>0|3=>2|4=>3|n=>n⟩
theorem Tryz.lays146:Go.Proofs.Lays.n146 prog Tryz.lays146_ren:=by constructor <;> intros <;> kernel_rfl
open Go.RowKit Go.Lib in
theorem Tryz.strings_Split (s sep:ByteArray)(m:Int)(w:World)(hs:s.size<4294967281)(hm:w.cell? ⟨0,0,none⟩=some (vI m))(h1:1 <=sep.size):
   Cf 94 #[.string s,.string sep] w λe w'=>
     e=.returned (.slice (some ⟨w.heap.size,0,none⟩) (Lib.countB s sep+1) (Lib.countB s sep+1))/\w'=w.alloc (.cells ((Lib.splitB sep 0 (Lib.countB s sep) s).map Value.string).toArray 9):=Any.strings_Split Tryz.lays146 (by kernel_rfl) s sep m w hs hm h1
open Go.RowKit Go.Lib in
def Tryz.lays152_ren:Go.Shelf.Ren:=⟨fun|152=>143|137=>219|119=>220|224=>221|225=>222|217=>279|266=>317|n=>n,fun|9=>9|21=>21|3=>3|4=>4|5=>5|0=>0|46=>139|n=>n,fun|n=>n⟩
theorem Tryz.lays152:Go.Proofs.Lays.n152 prog Tryz.lays152_ren:=by constructor <;> intros <;> kernel_rfl
open Go.RowKit Go.Lib in
theorem Tryz.strings_IndexRune_ascii (s:ByteArray)(r:Int)(w:World)(h0:0 <=r)(h1:r<128):
   Cf 143 #[.string s,.int .i32 r] w λe w'=>e=.returned (vI (Lib.indexByte s.data.toList r.toNat.toUInt8))/\w'=w:=Any.strings_IndexRune_ascii Tryz.lays152 s r w h0 h1
open Go.RowKit Go.Lib in
def Tryz.lays226_ren:Go.Shelf.Ren:=⟨fun|226=>144|n=>n,fun|3=>3|4=>4|n=>n,fun|n=>n⟩
theorem Tryz.lays226:Go.Proofs.Lays.n226 prog Tryz.lays226_ren:=by constructor <;> intros <;> kernel_rfl
open Go.RowKit Go.Lib in
theorem Tryz.strings_shouldUseASCIISet (n:Int)(w:World):
   Cf 144 #[vI n] w λe w'=>e=.returned (.bool (decide (8<n)))/\w'=w:=Any.strings_shouldUseASCIISet Tryz.lays226 n w
def Tryz.lays153_ren:Go.Shelf.Ren:=⟨fun|153=>78|152=>143|226=>144|227=>145|228=>146|137=>219|119=>220|224=>221|225=>222|217=>279|266=>317|n=>n,fun|9=>9|3=>3|4=>4|5=>5|21=>21|117=>211|116=>210|0=>0|46=>139|124=>266|n=>n,fun|n=>n⟩
theorem Tryz.lays153:Go.Proofs.Lays.n153 prog Tryz.lays153_ren:=by constructor <;> intros <;> kernel_rfl
open Go.RowKit Go.Lib in
theorem Tryz.strings_IndexAny_long (hv116:∀w,(zeroValue 210).run prog w=.ok (.agg (Array.replicate 256 (.bool false))) w)(s chars:ByteArray)(w:World)(h2:2 <=chars.size)(h8:8<s.size)(hs:s.size<4294967281)(hcs:chars.size<4294967281)(hascii:∀(j:Nat) b,chars.data.toList[j]? =some b->b.toNat<128):
   Cf 78 #[.string s,.string chars] w λe w'=>e=.returned (vI (Lib.indexAny s.data.toList chars.data.toList))/\w'=((w.alloc (.cells (Lib.setCells chars.data.toList) 210)).alloc (.cells (Lib.setCells chars.data.toList) 210)):=Any.strings_IndexAny_long Tryz.lays153 hv116 (by kernel_rfl) s chars w h2 h8 hs hcs hascii
open Go.RowKit Go.Lib in
def Tryz.lays105_ren:Go.Shelf.Ren:=⟨fun|105=>337|212=>344|99=>77|165=>88|166=>36|170=>39|169=>40|263=>348|264=>349|206=>142|240=>87|241=>170|276=>169|277=>247|n=>n,fun|9=>9|3=>3|4=>4|20=>20|0=>0|46=>139|109=>358|5=>5|72=>86|76=>89|51=>261|146=>348|53=>263|148=>366|70=>83|37=>84|75=>88|127=>168|164=>233|80=>94|n=>n,fun|n=>n⟩
theorem Tryz.lays105:Go.Proofs.Lays.n105 prog Tryz.lays105_ren:=by constructor <;> intros <;> kernel_rfl
theorem Tryz.Builder_Extra_105:Builder.Extra prog Tryz.lays105_ren:= {
 sizeBuilder:=by kernel_rfl
 liesBuilder:=by kernel_rfl
 t5:=Tryz.underlying5
 a5:=Tryz.isAgg5
 z5:=Tryz.sizeOf5
 v5:=Tryz.zeroValue5
 infoByte:=by kernel_rfl
 cellsByte:=by kernel_rfl
 sizeByte:=by kernel_rfl
 neB5:=by decide }
open Go.RowKit Go.Lib in
theorem Tryz.strings_Repeat (s:ByteArray)(c:Nat)(w:World)(hc:c <=9223372036854775807)(hlen:s.size*c <=140737488355328):
   Cf 337 #[.string s,vI c] w λe w'=>e=.returned (.string ⟨(Lib.repeatL s.data.toList c).toArray⟩)/\bW w w':=Any.strings_Repeat Tryz.lays105 Tryz.Builder_Extra_105 s c w hc hlen
open Go.RowKit Go.Lib in
def Tryz.lays109_ren:Go.Shelf.Ren:=⟨fun|109=>177|n=>n,fun|31=>36|9=>9|3=>3|0=>0|4=>4|n=>n,fun|n=>n⟩
theorem Tryz.lays109:Go.Proofs.Lays.n109 prog Tryz.lays109_ren:=by constructor <;> intros <;> kernel_rfl
open Go.Lib in
theorem Tryz.slices_Index_string (b off n c:Nat)(zs:List ByteArray)(x:ByteArray)(w:World)(hz:n <=zs.length)(hbig:n <=9223372036854775807)(hc:∀j,j<zs.length->w.cell? ⟨b,off+j,none⟩=some (.string (zs.getD j ByteArray.empty))):
   Cf 177 #[.slice (some ⟨b,off,none⟩) n c,.string x] w λe w'=>e=.returned (vI (Lib.idxOfS (zs.take n) x))/\w'=w:=Any.slices_Index_string Tryz.lays109 b off n c zs x w hz hbig hc
open Go.Lib in
def Tryz.lays110_ren:Go.Shelf.Ren:=⟨fun|110=>96|109=>177|n=>n,fun|31=>36|9=>9|4=>4|3=>3|0=>0|n=>n,fun|n=>n⟩
theorem Tryz.lays110:Go.Proofs.Lays.n110 prog Tryz.lays110_ren:=by constructor <;> intros <;> kernel_rfl
open Go.Lib in
theorem Tryz.slices_Contains_string (b off n c:Nat)(zs:List ByteArray)(x:ByteArray)(w:World)(hz:n <=zs.length)(hbig:n <=9223372036854775807)(hc:∀j,j<zs.length->w.cell? ⟨b,off+j,none⟩=some (.string (zs.getD j ByteArray.empty))):
   Cf 96 #[.slice (some ⟨b,off,none⟩) n c,.string x] w λe w'=>e=.returned (.bool (Lib.containsS (zs.take n) x))/\w'=w:=Any.slices_Contains_string Tryz.lays110 b off n c zs x w hz hbig hc
open Go.Lib in
theorem Tryz.slices_Contains_string_empty (a:Option Addr)(c:Nat)(x:ByteArray)(w:World):
   Cf 96 #[.slice a 0 c,.string x] w λe w'=>e=.returned (.bool false)/\w'=w:=Any.slices_Contains_string_empty Tryz.lays110 a c x w
def Tryz.laysNm216_ren:Go.Shelf.Ren:=⟨fun|16=>46|n=>n,fun|24=>36|9=>9|4=>4|n=>n,fun|n=>n⟩
theorem Tryz.laysNm216:Go.Proofs.Lays2.n16 prog Tryz.laysNm216_ren:=by constructor <;> intros <;> kernel_rfl
open Go.RowKit Go.Lib in
theorem Tryz.slices_Clone_string (b off n c:Nat)(zs:List ByteArray)(w:World)(hz:n <=zs.length)(hbig:n*16 <=140737488355328)(hc:∀j,j<zs.length->w.cell? ⟨b,off+j,none⟩=some (.string (zs.getD j ByteArray.empty))):
   Cf 46 #[.slice (some ⟨b,off,none⟩) n c] w λe w'=>∃v',e=.returned v'/\w'.ownsRow w.heap.size 9 1 v' n ((zs.take n).map (Value.string))/\v'≠.slice none 0 0/\bW w w':=Any.slices_Clone_string Tryz.laysNm216 b off n c zs w hz hbig hc
open Go.RowKit Go.Lib in
theorem Tryz.slices_Clone_string_nil (n c:Nat)(w:World):
   Cf 46 #[.slice none n c] w λe w'=>e=.returned (.slice none 0 0)/\w'=w:=Any.slices_Clone_string_nil Tryz.laysNm216 n c w
open Go.RowKit Go.Lib in
theorem Tryz.slices_Clone_string_zero (a:Addr)(c:Nat)(w:World):
   Cf 46 #[.slice (some a) 0 c] w λe w'=>∃v',e=.returned v'/\w'.ownsRow w.heap.size 9 1 v' 0 []/\v'≠.slice none 0 0/\bW w w':=Any.slices_Clone_string_zero Tryz.laysNm216 a c w
open Go.RowKit Go.Lib in
open Go.RowKit in
theorem Tryz.strings_TrimLeft_laid (s cutset:ByteArray)(w:World)(hcs:cutset.size<4294967281)(hascii:∀(j:Nat) b,cutset.data.toList[j]? =some b->b.toNat<128):
   Cf 267 #[.string s,.string cutset] w λe w'=>e=.returned (.string ⟨(Lib.trimLeftS s.data.toList cutset.data.toList).toArray⟩)/\bW w w':=
 Any.strings_TrimLeft_laid Tryz.lays161 (by kernel_rfl) s cutset w hcs hascii
open Go.RowKit in
theorem Tryz.strings_Trim_laid (s cutset:ByteArray)(w:World)(hs:s.size <=9223372036854775807)(hcs:cutset.size<4294967281)(hascii:∀(j:Nat) b,cutset.data.toList[j]? =some b->b.toNat<128):
   Cf 141 #[.string s,.string cutset] w λe w'=>e=.returned (.string ⟨(Lib.trimS s.data.toList cutset.data.toList).toArray⟩)/\bW w w':=
 Any.strings_Trim_laid Tryz.lays160 (by kernel_rfl) s cutset w hs hcs hascii
end Go.Proofs
namespace Go.Pk
open Go.RowKit (Below)
open Go.Proofs
set_option linter.unusedVariables false
set_option linter.unusedSimpArgs false
set_option maxRecDepth 20000
def Ac (n:Int):Prop:=n=9\/(32 <=n/\n <=47)\/(59 <=n/\n <=64)\/(91 <=n/\n <=96)\/(123 <=n/\n <=126)
instance  (n:Int):Decidable (Ac n):=by unfold Ac;infer_instance
theorem AR (n:Int)(w:World):Cf nI #[.int .u8 n] w (Ret λv w'=>v=.bool (decide (Ac n))/\w'=w):=by
 apply zf
 repeat' (refine ab.of (λh=>?_) (λh=>?_))
 all_goals
   refine⟨?_,rfl⟩
   congr 1
   rw[Bool.eq_iff_iff]
   simp only[dTx]
   simp only[Ac,beq_iff_eq,beq_eq_false_iff_ne,ge_iff_le,dTx,dFx,true_iff,false_iff,iff_true,reduceCtorEq,Bool.false_eq_true]at*
   omega
def fW (c:UInt8):Bool:=decide (48 <=c)&&decide (c <=57)
def fp (s:List UInt8):List UInt8:=s.takeWhile fW
def gj (l:List UInt8):Int:=l.foldl (λn c=>n*10+((c.toNat:Int)-48)) 0
theorem En:∀n,n<256->([48,49,50,51,52,53,54,55,56,57]:List UInt8).contains (UInt8.ofNat n)=fW (UInt8.ofNat n):=by decide+kernel
theorem Ix (c:UInt8):([48,49,50,51,52,53,54,55,56,57]:List UInt8).contains c=fW c:=by
 have:=En c.toNat (by have:=c.toNat_lt;omega)
 rwa [UInt8.ofNat_toNat]at this
theorem Mo (s:List UInt8):Lib.trimLeftS s [48,49,50,51,52,53,54,55,56,57]=s.dropWhile fW:=by
 unfold Lib.trimLeftS
 congr 1
 funext c
 exact Ix c
theorem CO (s:List UInt8):fp s++s.dropWhile fW=s:=List.takeWhile_append_dropWhile
theorem Nt (s:List UInt8):(s.dropWhile fW).length+(fp s).length=s.length:=by
 have:=congrArg List.length (CO s)
 rw[List.length_append]at this;omega
theorem Lm (s:List UInt8):s.take (fp s).length=fp s:=by
 have h:(fp s++s.dropWhile fW).take (fp s).length=fp s:=List.take_left' rfl
 rwa [CO]at h
theorem FD {s:List UInt8} :∀c∈fp s,fW c=true:=λc hc=>List.all_eq_true.1 (List.all_takeWhile (p:=fW) (l:=s)) c hc
theorem jV {c:UInt8} :fW c=true ↔ 48 <=c.toNat/\c.toNat <=57:=by
 unfold fW
 rw[Bool.and_eq_true,dTx,dTx,UInt8.le_iff_toNat_le,UInt8.le_iff_toNat_le]
 exact Iff.rfl
theorem FB:∀(l:List UInt8) (acc:Nat),(∀c∈l,fW c=true)->∃n:Nat,Lib.decFrom acc l=some n/\(n:Int)=l.foldl (λn c=>n*10+((c.toNat:Int)-48)) (acc:Int)
 | [],acc,_=>⟨acc,rfl,rfl⟩
 | c::l,acc,h=>by
   have hc:=jV.1 (h c List.mem_cons_self)
   obtain⟨n,h1,h2⟩:=FB l (acc*10+(c.toNat-48)) λx hx=>h x (List.mem_cons_of_mem _ hx)
   refine⟨n,?_,?_⟩
   · unfold Lib.decFrom Lib.digitVal
     rw[if_pos hc];exact h1
   · rw[h2,List.foldl_cons]
     congr 1
     omega
theorem K5 {l:List UInt8}(hne:l≠[])(h:∀c∈l,fW c=true):Lib.atoi l=some (gj l):=by
 match l,hne with
 | c::r,_=>
   have hc:=jV.1 (h c List.mem_cons_self)
   unfold Lib.atoi
   have h1:(c==45)=false:=by rw[beq_eq_false_iff_ne];intro e;subst e;simp at hc
   have h2:(c==43)=false:=by rw[beq_eq_false_iff_ne];intro e;subst e;simp at hc
   obtain⟨n,e1,e2⟩:=FB (c::r) 0 h
   simp only[h1,h2,Bool.false_eq_true,if_false]
   unfold Lib.decNat
   simp only[List.isEmpty_cons,Bool.false_eq_true,if_false,e1,Option.map_some]
   rw[e2];rfl
def JQ (s:List UInt8)(least most:Int):Value:=if least <=((fp s).length:Int)/\((fp s).length:Int) <=most then .tuple #[vI (gj (fp s)),vS (s.drop (fp s).length),.bool true]else .tuple #[vI 0,vS s,.bool false]
theorem Ea (w:World)(e:TypeId)(s:ByteArray):bW w (Lib.bytesWorld w e s):=by
 unfold Lib.bytesWorld
 refine mq rfl rfl rfl (by simp[World.freeze]) λk hk=>?_
 simp only[World.freeze,if_neg (show ¬ (1:Nat)=0 by decide),Array.getElem?_modify]
 rw[if_neg (show ¬ w.heap.size=k by omega)]
 exact(Below.refl w.drew.heap.size w.drew |>.alloc (Nat.le_refl _) _).block k hk
theorem kI (s:List UInt8)(least most:Int)(h1:1 <=least)(h2:most <=18)(hs:s.length <=9223372036854775807)(w:World):
   Cf gH #[vS s,vI least,vI most] w (Ret λv w'=>v=JQ s least most/\bW w w'):=by
 apply xH
 refine(Tryz.strings_TrimLeft_laid (mkS s) (mkS [48,49,50,51,52,53,54,55,56,57]) w (by decide) (ascii_of_all (by decide))).mono ?_
 rintro _ w1 ⟨rfl,hb1⟩
 have e:(mkS s).data.toList=s:=rfl
 have e2:(mkS [48,49,50,51,52,53,54,55,56,57]).data.toList=[48,49,50,51,52,53,54,55,56,57]:=rfl
 rw[e,e2,Mo]
 refine⟨s.dropWhile fW,rfl,?_⟩
 have hl:=Nt s
 have ew:i64.wrap ((s.length:Int)-((s.dropWhile fW).length:Int))=((fp s).length:Int):=by rw[wrap_i64 (by omega) (by omega)];omega
 try dsimp only
 rw[ew]
 refine⟨λw'=>w'=w1/\least <=((fp s).length:Int)/\((fp s).length:Int) <=most,?_,?_⟩
 · refine ab.of (λh=>?_) (λh=>?_) <;> simp only[dTx,dFx]at h
   · exact⟨by unfold JQ;rw[if_neg (by omega)],hb1⟩
   · refine ab.of (λh3=>?_) (λh3=>?_) <;> simp only[gt_iff_lt,dTx,dFx]at h3
     · exact⟨by unfold JQ;rw[if_neg (by omega)],hb1⟩
     · exact⟨rfl,by omega,by omega⟩
 · refine aX.of ?_ _
   rintro w1 ⟨rfl,h3,h4⟩
   refine⟨⟨by omega,by omega⟩,?_⟩
   rintro _ rfl
   simp only[Int.toNat_natCast]
   rw[Lm]
   have hne:fp s≠[]:=λe=>by rw[e]at h3;simp at h3;omega
   refine(Tryz.strconv_Atoi (mkS (fp s)) (gj (fp s)) (by show(fp s).length <=18;omega) (K5 hne FD) w1).mono ?_
   rintro _ _ ⟨rfl,t,rfl⟩
   refine⟨_,_,rfl,⟨by omega,by omega⟩,?_⟩
   rintro _ rfl wq hq
   have hb2:=Ea w1 5 t
   refine⟨by unfold JQ;rw[if_pos ⟨h3,h4⟩],aa (aa hb1 hb2 hb1.size) hq (aa hb1 hb2 hb1.size).size⟩
def EM:List UInt8:=[74,97,110,70,101,98,77,97,114,65,112,114,77,97,121,74,117,110,74,117,108,65,117,103,83,101,112,79,99,116,78,111,118,68,101,99]
def JK (k:Nat):List UInt8:=cF ((EM.take (3*k+3)).drop (3*k))
def fX (s:List UInt8):Nat->Nat->Int
 | 0,_=>0
 | f+1,k=>if 3 <=s.length/\cF (s.take 3)=JK k then(k:Int)+1 else fX s f (k+1)
def jc (s:List UInt8):Int:=fX s 12 0
theorem nW {s:List UInt8}(h: ¬ 3 <=s.length):∀f k,fX s f k=0
 | 0,_=>rfl
 | f+1,k=>by unfold fX;rw[if_neg (λe=>h e.1)];exact nW h f (k+1)
theorem AQ (s:List UInt8)(hs:s.length <=9223372036854775800)(w:World):Cf nH #[vS s] w (Ret λv w'=>v=vI (jc s)/\bW w w'):=by
 apply ze
 refine⟨λm i w'=>∃k:Nat,k <=12/\i=(k:Int)/\m=12-k/\jc s=fX s (12-k) k/\bW w w',⟨_,0,by omega,rfl,rfl,rfl,Below.refl _ _⟩,?_⟩
 intro m i
 refine aX.of ?_ _
 rintro w1 ⟨k,hk,rfl,rfl,hv,hb⟩
 refine⟨λw'=>w'=w1/\k<12/\3 <=s.length,?_,?_⟩
 · refine ab.of (λh=>?_) (λh=>?_) <;> simp only[dTx,dFx]at h
   · refine ab.of (λh2=>?_) (λh2=>?_) <;> simp only[ge_iff_le,dTx,dFx]at h2
     · exact⟨rfl,by omega,by omega⟩
     · exact⟨by rw[hv,nW (by omega)],hb⟩
   · have:k=12:=by omega
     subst this
     exact⟨by rw[hv];rfl,hb⟩
 · refine aX.of ?_ _
   rintro w1 ⟨rfl,h1,h2⟩
   rw[wrap_i64 (n:=3*(k:Int)) (by omega) (by omega),wrap_i64 (n:=3*(k:Int)+3) (by omega) (by omega)]
   refine⟨⟨by omega,by omega⟩,?_⟩
   rintro _ rfl
   refine⟨⟨⟨by omega,by simp;omega⟩,by omega,by omega⟩,?_⟩
   rintro _ rfl
   have e1:Int.toNat (3*(k:Int))=3*k:=by omega
   have e2:Int.toNat (3*(k:Int)+3)=3*k+3:=by omega
   have e3:Int.toNat (3:Int)=3:=rfl
   rw[e1,e2,e3]
   refine⟨cF (s.take 3)==JK k,λu hu=>?_,?_⟩
   · refine(mv (s.take 3) ((EM.take (3*k+3)).drop (3*k)) (by simp;omega) (by simp[EM];omega) u).mono ?_
     rintro _ w2 ⟨_,rfl,rfl,hb2⟩
     exact⟨rfl,hb2.mono hu.size⟩
   · intro wq hq
     have ef:12-k=(12-(k+1))+1:=by omega
     rw[ef]at hv
     unfold fX at hv
     have ew:i64.wrap ((k:Int)+1)=(k:Int)+1:=by rw[wrap_i64 (by omega) (by omega)]
     refine ab.of (λh=>?_) (λh=>?_)
     · rw[beq_iff_eq]at h
       rw[if_pos ⟨h2,h⟩]at hv
       exact⟨by rw[ew,hv],aa hb hq hb.size⟩
     · rw[beq_eq_false_iff_ne]at h
       rw[if_neg (λe=>h e.2)]at hv
       exact⟨12-(k+1),by omega,k+1,by omega,by rw[ew];omega,rfl,hv,aa hb hq hb.size⟩
def wP (i:Nat)(s:List UInt8):Option (List UInt8):=if i=0 then some s else if s.head?=some 58 then some (s.drop 1)else none
def vL (i:Nat)(s:List UInt8):Option (Int×List UInt8):=(wP i s).bind λt=>if 1 <=(fp t).length/\(fp t).length <=2 then some (gj (fp t),t.drop (fp t).length)else none
def cR:Nat->Nat->List UInt8->Option (List Int)
 | 0,_,_=>some []
 | f+1,i,s=>(vL i s).bind λp=>(cR f (i+1) p.2).map (p.1:: ·)
def gv (s:List UInt8):Option (List Int):=cR 3 0 s
theorem Ir (s:List UInt8):Lib.hasPrefix s [58]=decide (s.head?=some 58)/\(s.head?=some 58->Lib.trimPrefix s [58]=s.drop 1):=by
 cases s with
 | nil=>exact⟨by decide,λh=>by cases h⟩
 | cons c s=>
   have ht:Lib.hasPrefix (58::s) [58]=true:=rfl
   by_cases h:c=58
   · subst h
     refine⟨by rw[ht];simp,λ_=>?_⟩
     unfold Lib.trimPrefix;rw[ht];rfl
   · have hf:Lib.hasPrefix (c::s) [58]=false:=by
       show((58==c)&&_)=false
       rw[beq_eq_false_iff_ne.2 (Ne.symm h)];rfl
     refine⟨by rw[hf];simp[h],λe=>absurd (by simpa using e) h⟩
theorem AJ (l:List Int):∀c∈(Value.agg (l.map λn=>vI n).toArray).cells.toList,c.oneCell'=true:=by
 intro c hc
 obtain⟨n,_,rfl⟩:∃n,n∈l/\vI n=c:=by simpa[Value.cells]using hc
 rfl
theorem CI (s:List UInt8)(w:World):Cf bS #[vS s,vS [58]] w (Ret λv w'=>v=.tuple #[vS (if s.head?=some 58 then s.drop 1 else s),.bool (decide (s.head?=some 58))]/\w'=w):=by
 refine(Tryz.strings_CutPrefix (mkS s) (mkS [58]) w).mono ?_
 rintro _ _ ⟨rfl,rfl⟩
 refine⟨_,rfl,?_,rfl⟩
 have h:=Ir s
 have e:(mkS s).data.toList=s:=rfl
 have e2:(mkS [58]).data.toList=[58]:=rfl
 rw[e,e2,h.1]
 by_cases hc:s.head?=some 58
 · rw[if_pos hc,h.2 hc];rfl
 · rw[if_neg hc]
   have:Lib.trimPrefix s [58]=s:=by unfold Lib.trimPrefix;rw[if_neg (by rw[h.1];simpa using hc)]
   rw[this];rfl
def wE (l:List Int):List Value:=l.map λn=>vI n
def wt (s:List UInt8)(w:World)(v:Value)(w':World):Prop:=
 (∃a b c b',v=.tuple #[.agg #[vI a,vI b,vI c],.bool b']/\(gv s=none/\b'=false\/gv s=some [a,b,c]/\b'=true))/\bW w w'
theorem three {α:Type}{l:List α}(h:l.length=3):∃a b c,l=[a,b,c]:=by
 match l,h with
 | [a,b,c],_=>exact⟨a,b,c,rfl⟩
theorem CB {w w':World}{k2 k4:Nat}{out us:List Int}{K:Value->World->Prop}{bo:Bool}(h2:am w' k2 be (wE us))(h4:am w' k4 be (wE out))(hl:out.length=3)(hu:us.length=3)
   (hb:bW w w') (hk2:w.heap.size <=k2)
   (hK:∀a b c wx,out=[a,b,c]->bW w wx->K (.tuple #[.agg #[vI a,vI b,vI c],.bool bo]) wx):
   ∃(n0:Int) (n1:Int) (n2:Int),(Instr.loadAt be (.pointer (some ⟨k4,0,none⟩))).run prog w'=.ok (.agg #[vI n0,vI n1,vI n2]) w'/\
     ∃(wx:World),(Instr.storeAt be (.pointer (some ⟨k2,0,none⟩)) (.agg #[vI n0,vI n1,vI n2])).run prog w'=.ok () wx/\
     ∃(r0:Int) (r1:Int) (r2:Int),(bG be (.pointer (some ⟨k2,0,none⟩))).run prog wx=.ok (.agg #[vI r0,vI r1,vI r2]) wx/\
     K (.tuple #[.agg #[vI r0,vI r1,vI r2],.bool bo]) wx:=by
 obtain⟨a,b,c,rfl⟩:=three hl
 obtain⟨d,e,f,rfl⟩:=three hu
 obtain⟨ti,hti,hsz,_,_⟩:=j6.info
 refine⟨a,b,c,h4.loadA rl rfl hti (us:=wE [a,b,c]) (i:=0) (by rw[hsz];rfl) (λj hj=>by rw[Nat.zero_add]),?_⟩
 obtain⟨wx,hs,h2',hg⟩:=h2.store (P:=prog) j6 (i:=0) (v:=.agg #[vI a,vI b,vI c]) rfl (by simp[wE]) (AJ [a,b,c])
 refine⟨wx,hs,a,b,c,?_,hK a b c wx rfl (hb.grown hg hb.size (λx e=>by cases e;exact hk2))⟩
 exact am.res (am.loadA rl rfl hti h2' (us:=wE [a,b,c]) (i:=0) (by rw[hsz];rfl) (λj hj=>by simp[wE,Value.cells]))
theorem xz (n:Int):∀c∈(vI n).cells.toList,c.oneCell'=true:=by
 intro c hc
 have:c=vI n:=by simpa[Value.cells]using hc
 subst this;rfl
theorem AP (s:List UInt8)(hs:s.length <=9223372036854775000)(w:World):Cf nG #[vS s] w (Ret (wt s w)):=by
 apply zd
 intro k2 w2 hk2 hw2 k4 w4 hk4 hw4
 have hB2:bW w w2:=hw2▸ai _ _
 have hB4:bW w2 w4:=hw4▸ai _ _
 have hBB:bW w w4:=aa hB2 hB4 hB2.size
 have ha2:am w4 k2 be (wE [0,0,0]):=(am.new (vs:=wE [0,0,0]) hk2 hw2).below hB4
 have ha4:am w4 k4 be (wE [0,0,0]):=am.new hk4 hw4
 have hs2:w2.heap.size=w.heap.size+1:=by rw[hw2];simp
 have hne:k2≠k4:=by omega
 have hge2:w.heap.size <=k2:=by omega
 have hge4:w.heap.size <=k4:=by omega
 refine⟨λm t i w'=>∃(k:Nat) (out:List Int),k <=3/\i=(k:Int)/\m=3-k/\out.length=3/\t.length <=s.length/\gv s=(cR (3-k) k t).map (out.take k++ ·)/\
     am w' k2 be (wE [0,0,0])/\am w' k4 be (wE out)/\bW w w',
   ⟨_,0,[0,0,0],by omega,rfl,rfl,rfl,Nat.le_refl _,by unfold gv;cases cR 3 0 s <;> rfl,ha2,ha4,hBB⟩,?_⟩
 intro m t i
 refine aX.of ?_ _
 rintro w1 ⟨k,out,hk,rfl,rfl,hlen,htl,hv,h2,h4,hb⟩
 refine ab.of (λh=>?_) (λh=>?_) <;> simp only[dTx,dFx]at h
 · have ef:3-k=(3-(k+1))+1:=by omega
   rw[ef]at hv
   unfold cR at hv
   have bad:∀{w':World},vL k t=none->am w' k2 be (wE [0,0,0])->am w' k4 be (wE out)->bW w w'->_:=fun{w'} he h2 h4 hb=>
     CB (K:=wt s w) (bo:=false) h2 h4 hlen rfl hb hge2 (λa b c wx _ hbx=>⟨⟨a,b,c,false,rfl,.inl ⟨by rw[hv,he];rfl,rfl⟩⟩,hbx⟩)
   refine⟨λu w'=>w'=w1/\wP k t=some u/\u.length <=s.length,?_,?_⟩
   · refine ab.of (λh5=>?_) (λh5=>?_) <;> simp only[gt_iff_lt,dTx,dFx]at h5
     · refine ax (CI t w1) ?_
       rintro _ w1 ⟨rfl,rfl⟩
       refine⟨_,_,rfl,?_⟩
       refine ab.of (λh6=>?_) (λh6=>?_) <;> simp only[Bool.not_eq_true',Bool.not_eq_false',dTx,dFx]at h6
       · exact bad (by unfold vL wP;rw[if_neg (by omega),if_neg h6];rfl) h2 h4 hb
       · exact⟨rfl,by unfold wP;rw[if_neg (by omega),if_pos h6,if_pos h6],by rw[if_pos h6];simp;omega⟩
     · exact⟨rfl,by unfold wP;rw[if_pos (by omega)],htl⟩
   · intro u
     refine aX.of ?_ _
     rintro w1 ⟨rfl,hc,hul⟩
     have hst:vL k t=if 1 <=(fp u).length/\(fp u).length <=2 then some (gj (fp u),u.drop (fp u).length)else none:=by unfold vL;rw[hc];rfl
     refine ax (kI u 1 2 (by omega) (by omega) (by omega) w1) ?_
     rintro _ w5 ⟨rfl,hb5⟩
     have h2':=h2.below hb5
     have h4':=h4.below hb5
     have hb':=aa hb hb5 hb.size
     unfold JQ
     by_cases hd:1 <=(fp u).length/\(fp u).length <=2
     · rw[if_pos (by omega)]
       rw[if_pos hd]at hst
       refine⟨_,_,_,rfl,ab.no rfl ?_⟩
       refine⟨⟨⟨by omega,by omega⟩,rfl⟩,?_⟩
       rw[iW,Nat.zero_add,Nat.mul_one,Int.toNat_natCast]
       obtain⟨w6,hs6,h6,hg6⟩:=h4'.store (P:=prog) (n:=1) (bytes:=8) (z:=vI 0) iO (i:=k) (v:=vI (gj (fp u))) rfl (by simp[wE,hlen];omega) (xz _)
       refine⟨w6,hs6,3-(k+1),by omega,k+1,out.set k (gj (fp u)),by omega,?_,rfl,by simpa using hlen,by simp;omega,?_,h2'.grown hg6 (λe=>hne (Option.some.inj e)),?_,hb'.grown hg6 hb'.size (λx e=>by cases e;exact hge4)⟩
       · rw[wrap_i64 (by omega) (by omega)];omega
       · rw[hv,hst]
         have e1:(out.set k (gj (fp u))).take (k+1)=out.take k++[gj (fp u)]:=by
           rw[List.take_succ_eq_append_getElem (by simp;omega),List.getElem_set_self,List.take_set_of_le (Nat.le_refl _)]
         rw[e1]
         show((cR (3-(k+1)) (k+1) (u.drop (fp u).length)).map _).map _=_
         rw[Option.map_map]
         congr 1
         funext x
         simp
       · have e2:wE (out.set k (gj (fp u)))=(wE out).take k++[vI (gj (fp u))]++(wE out).drop (k+1):=by
           unfold wE
           rw[List.map_set,List.set_eq_take_append_cons_drop,if_pos (by simp;omega)]
           simp
         rw[e2];exact h6
     · rw[if_neg (by omega)]
       rw[if_neg hd]at hst
       refine⟨_,_,_,rfl,ab.yes rfl ?_⟩
       exact bad hst h2' h4' hb'
 · have:k=3:=by omega
   subst this
   exact CB (K:=wt s w) (bo:=true) h2 h4 hlen rfl hb hge2 (λa b c wx e hbx=>⟨⟨a,b,c,true,rfl,.inr ⟨by rw[hv,e];rfl,rfl⟩⟩,hbx⟩)
structure Fnd where
 time:Bool
 day:Bool
 month:Bool
 year:Bool
 s0:Int
 s1:Int
 s2:Int
 y:Int
 m:Int
 d:Int
def Fnd.cells (f:Fnd):List Value:=[.bool f.time,.bool f.day,.bool f.month,.bool f.year,vI f.s0,vI f.s1,vI f.s2,vI f.y,vI f.m,vI f.d]
def gp (s:List UInt8)(least most:Int):Bool:=decide (least <=((fp s).length:Int)/\((fp s).length:Int) <=most)
def vQ (f:Fnd)(s:List UInt8):Fnd:=
 match gv s,f.time with
 | some [a,b,c],false=> { f with s0:=a,s1:=b,s2:=c,time:=true }
 | _,_=>if gp s 1 2=true/\f.day=false then{ f with d:=gj (fp s),day:=true }
   else if 0<jc s/\f.month=false then{ f with m:=jc s,month:=true }
   else if gp s 2 4=true/\f.year=false then{ f with y:=gj (fp s),year:=true } else f
theorem GV (w:World)(r:Option Nat):w.grownBy w r:=⟨rfl,rfl,rfl,Nat.le_refl _,λ_ _ _=>rfl⟩
theorem bz {a b c:World}{r:Option Nat}(h:a.grownBy b r)(k:b.grownBy c r):a.grownBy c r:=
 ⟨k.os.trans h.os,k.tape.trans h.tape,k.output.trans h.output,Nat.le_trans h.size k.size,λq hq hne=>(k.block q (Nat.lt_of_lt_of_le hq h.size) hne).trans (h.block q hq hne)⟩
theorem cX {a b:World}(h:bW a b)(r:Option Nat):a.grownBy b r:=⟨h.os,h.tape,h.output,h.size,λq hq _=>h.block q hq⟩
theorem wu (k o:Nat):Option.map (fun(x:Addr)=>x.add o) (some ⟨k,0,none⟩)=some ⟨k,o,none⟩:=by
 simp[fc]
theorem vT (b:Bool):∀c∈(Value.bool b).cells.toList,c.oneCell'=true:=by
 intro c hc
 have:c=.bool b:=by simpa[Value.cells]using hc
 subst this;rfl
def M3 (k:Nat)(f:Fnd)(s:List UInt8)(w:World)(v:Value)(w':World):Prop:=v=.tuple #[]/\am w' k cP (vQ f s).cells/\w.grownBy w' (some k)
theorem JR {s:List UInt8}{l m:Int}(h:gp s l m=true):JQ s l m=.tuple #[vI (gj (fp s)),vS (s.drop (fp s).length),.bool true]:=by
 unfold gp at h;unfold JQ;rw[if_pos (by simpa using h)]
theorem F9 {s:List UInt8}{l m:Int}(h:gp s l m=false):JQ s l m=.tuple #[vI 0,vS s,.bool false]:=by
 unfold gp at h;unfold JQ;rw[if_neg (by simpa using h)]
theorem DM {f:Fnd}{s:List UInt8}{a b c:Int}(h:gv s=some [a,b,c])(ht:f.time=false):vQ f s= { f with s0:=a,s1:=b,s2:=c,time:=true } :=by
 unfold vQ;rw[h,ht]
theorem KF {f:Fnd}{s:List UInt8}(h:gv s=none\/f.time=true):vQ f s=if gp s 1 2=true/\f.day=false then{ f with d:=gj (fp s),day:=true }
   else if 0<jc s/\f.month=false then{ f with m:=jc s,month:=true }
   else if gp s 2 4=true/\f.year=false then{ f with y:=gj (fp s),year:=true } else f:=by
 unfold vQ
 rcases h with h|h
 · rw[h]
 · rw[h]
   split
   · rename_i h1 h2;cases h2
   · rfl
theorem AU (k:Nat)(f:Fnd)(s:List UInt8)(hs:s.length <=9223372036854775000)(w:World)(hf:am w k cP f.cells):
   Cf gG #[.pointer (some ⟨k,0,none⟩),vS s] w (Ret (M3 k f s w)):=by
 apply pI
 simp only[wu]
 have h0:Option.isSome (some (⟨k,0,none⟩:Addr))=true:=rfl
 obtain⟨ti,hti,hsz,_,_⟩:=j6.info
 refine⟨λw'=>w.grownBy w' (some k)/\am w' k cP f.cells/\(gv s=none\/f.time=true),?_,?_⟩
 · refine ax (AP s hs w) ?_
   rintro _ w1 ⟨⟨a,b,c,bo,rfl,hcl⟩,hb1⟩
   refine⟨a,b,c,bo,rfl,?_⟩
   intro k4 w4 hk4 hw4
   have hB4:bW w w4:=aa hb1 (hw4▸ai _ _) hb1.size
   have h4:am w4 k4 be (wE [0,0,0]):=am.new hk4 hw4
   have hlt:=hf.lt
   have hne:k4≠k:=by have:=hb1.size;omega
   obtain⟨w5,hs5,h5,hg5⟩:=h4.store (P:=prog) j6 (i:=0) (v:=.agg #[vI a,vI b,vI c]) rfl (by simp[wE]) (AJ [a,b,c])
   have hB5:bW w w5:=hB4.grown hg5 hB4.size (λx e=>by cases e;have:=hb1.size;omega)
   have hf5:=hf.below hB5
   have h5':am w5 k4 be (wE [a,b,c]):=by simpa[wE,Value.cells]using h5
   refine⟨w5,hs5,λb' w'=>w'=w5/\b'=(bo && !f.time),?_,?_⟩
   · refine ab.of (λh=>?_) (λh=>?_)
     · refine⟨h0,h0,f.time,hf5.load1 cE rfl rfl,rfl,by rw[h];rfl⟩
     · exact⟨rfl,by rw[h];rfl⟩
   · intro b'
     refine aX.of ?_ _
     rintro w5 ⟨rfl,rfl⟩
     refine ab.of (λh=>?_) (λh=>?_)
     · rw[Bool.and_eq_true,Bool.not_eq_true']at h
       have hcl':gv s=some [a,b,c]:=by
         rcases hcl with⟨_,e⟩|⟨e,_⟩
         · rw[e]at h;cases h.1
         · exact e
       refine⟨a,b,c,h5'.loadA rl rfl hti (us:=wE [a,b,c]) (i:=0) (by rw[hsz];rfl) (λj hj=>by rw[Nat.zero_add]),h0,h0,?_⟩
       obtain⟨w6,hs6,h6,hg6⟩:=hf5.store (P:=prog) j6 (i:=4) (v:=.agg #[vI a,vI b,vI c]) rfl (by simp[Fnd.cells]) (AJ [a,b,c])
       refine⟨w6,hs6,h0,h0,?_⟩
       obtain⟨w7,hs7,h7,hg7⟩:=h6.store (P:=prog) mG (i:=0) (v:=.bool true) rfl (by simp[Fnd.cells,Value.cells]) (vT true)
       refine⟨w7,hs7,rfl,?_,bz (bz (cX hB5 _) hg6) hg7⟩
       rw[DM hcl' h.2]
       simpa[Fnd.cells,Value.cells]using h7
     · refine⟨cX hB5 _,hf5,?_⟩
       rcases hcl with⟨e,_⟩|⟨_,e⟩
       · exact .inl e
       · rw[e]at h;right;simpa using h
 · refine aX.of ?_ _
   rintro w1 ⟨hg1,hf1,hr1⟩
   have htok:=KF hr1
   refine⟨λw'=>w.grownBy w' (some k)/\am w' k cP f.cells/\ ¬ (gp s 1 2=true/\f.day=false),?_,?_⟩
   · refine ax (kI s 1 2 (by omega) (by omega) (by omega) w1) ?_
     rintro _ w2 ⟨rfl,hb2⟩
     have hf2:=hf1.below hb2
     have hg2:=bz hg1 (cX hb2 (some k))
     have hnum:∃(n:Int) (r:List UInt8),JQ s 1 2=.tuple #[vI n,vS r,.bool (gp s 1 2)]/\(gp s 1 2=true->n=gj (fp s)):=by
       cases hn:gp s 1 2
       · exact⟨_,_,F9 hn,λe=>by cases e⟩
       · exact⟨_,_,JR hn,λ_=>rfl⟩
     obtain⟨n,r,hne,hnv⟩:=hnum
     refine⟨n,r,gp s 1 2,by rw[hne],λb' w'=>w'=w2/\b'=(gp s 1 2 && !f.day),?_,?_⟩
     · refine ab.of (λh=>?_) (λh=>?_)
       · exact⟨h0,h0,f.day,hf2.load1 cE rfl rfl,rfl,by rw[h];rfl⟩
       · exact⟨rfl,by rw[h];rfl⟩
     · intro b'
       refine aX.of ?_ _
       rintro w2 ⟨rfl,rfl⟩
       refine ab.of (λh=>?_) (λh=>?_)
       · rw[Bool.and_eq_true,Bool.not_eq_true']at h
         refine⟨h0,h0,?_⟩
         obtain⟨w6,hs6,h6,hg6⟩:=hf2.store (P:=prog) iO (i:=9) (v:=vI n) rfl (by simp[Fnd.cells]) (xz n)
         refine⟨w6,hs6,h0,h0,?_⟩
         obtain⟨w7,hs7,h7,hg7⟩:=h6.store (P:=prog) mG (i:=1) (v:=.bool true) rfl (by simp[Fnd.cells,Value.cells]) (vT true)
         refine⟨w7,hs7,rfl,?_,bz (bz hg2 hg6) hg7⟩
         rw[htok,if_pos h,<- hnv h.1]
         simpa[Fnd.cells,Value.cells]using h7
       · refine⟨hg2,hf2,λhc=>?_⟩
         rw[hc.1,hc.2]at h;cases h
   · refine aX.of ?_ _
     rintro w2 ⟨hg2,hf2,hr2⟩
     rw[if_neg hr2]at htok
     refine⟨λw'=>w.grownBy w' (some k)/\am w' k cP f.cells/\ ¬ (0<jc s/\f.month=false),?_,?_⟩
     · refine ax (AQ s (by omega) w2) ?_
       rintro _ w3 ⟨rfl,hb3⟩
       have hf3:=hf2.below hb3
       have hg3:=bz hg2 (cX hb3 (some k))
       refine⟨_,rfl,λb' w'=>w'=w3/\b'=(decide (0<jc s) && !f.month),?_,?_⟩
       · refine ab.of (λh=>?_) (λh=>?_)
         · exact⟨h0,h0,f.month,hf3.load1 cE rfl rfl,rfl,by rw[show decide (0<jc s)=true from h];rfl⟩
         · exact⟨rfl,by rw[show decide (0<jc s)=false from h];rfl⟩
       · intro b'
         refine aX.of ?_ _
         rintro w3 ⟨rfl,rfl⟩
         refine ab.of (λh=>?_) (λh=>?_)
         · rw[Bool.and_eq_true,Bool.not_eq_true',dTx]at h
           refine⟨h0,h0,?_⟩
           obtain⟨w6,hs6,h6,hg6⟩:=hf3.store (P:=prog) iO (i:=8) (v:=vI (jc s)) rfl (by simp[Fnd.cells]) (xz _)
           refine⟨w6,hs6,h0,h0,?_⟩
           obtain⟨w7,hs7,h7,hg7⟩:=h6.store (P:=prog) mG (i:=2) (v:=.bool true) rfl (by simp[Fnd.cells,Value.cells]) (vT true)
           refine⟨w7,hs7,rfl,?_,bz (bz hg3 hg6) hg7⟩
           rw[htok,if_pos h]
           simpa[Fnd.cells,Value.cells]using h7
         · refine⟨hg3,hf3,λhc=>?_⟩
           rw[decide_eq_true hc.1,hc.2]at h;cases h
     · refine aX.of ?_ _
       rintro w3 ⟨hg3,hf3,hr3⟩
       rw[if_neg hr3]at htok
       refine ax (kI s 2 4 (by omega) (by omega) (by omega) w3) ?_
       rintro _ w4 ⟨rfl,hb4⟩
       have hf4:=hf3.below hb4
       have hg4:=bz hg3 (cX hb4 (some k))
       have hnum:∃(n:Int) (r:List UInt8),JQ s 2 4=.tuple #[vI n,vS r,.bool (gp s 2 4)]/\(gp s 2 4=true->n=gj (fp s)):=by
         cases hn:gp s 2 4
         · exact⟨_,_,F9 hn,λe=>by cases e⟩
         · exact⟨_,_,JR hn,λ_=>rfl⟩
       obtain⟨n,r,hne,hnv⟩:=hnum
       refine⟨n,r,gp s 2 4,by rw[hne],λb' w'=>w'=w4/\b'=(gp s 2 4 && !f.year),?_,?_⟩
       · refine ab.of (λh=>?_) (λh=>?_)
         · exact⟨h0,h0,f.year,hf4.load1 cE rfl rfl,rfl,by rw[h];rfl⟩
         · exact⟨rfl,by rw[h];rfl⟩
       · intro b'
         refine aX.of ?_ _
         rintro w4 ⟨rfl,rfl⟩
         refine ab.of (λh=>?_) (λh=>?_)
         · rw[Bool.and_eq_true,Bool.not_eq_true']at h
           refine⟨h0,h0,?_⟩
           obtain⟨w6,hs6,h6,hg6⟩:=hf4.store (P:=prog) iO (i:=7) (v:=vI n) rfl (by simp[Fnd.cells]) (xz n)
           refine⟨w6,hs6,h0,h0,?_⟩
           obtain⟨w7,hs7,h7,hg7⟩:=h6.store (P:=prog) mG (i:=3) (v:=.bool true) rfl (by simp[Fnd.cells,Value.cells]) (vT true)
           refine⟨w7,hs7,rfl,?_,bz (bz hg4 hg6) hg7⟩
           rw[htok,if_pos h,<- hnv h.1]
           simpa[Fnd.cells,Value.cells]using h7
         · refine⟨rfl,?_,hg4⟩
           rw[htok,if_neg (λhc=>by rw[hc.1,hc.2]at h;cases h)]
           exact hf4
def gQ (c:UInt8):Bool:=decide (Ac (c.toNat:Int))
def CG:List UInt8->List UInt8->List (List UInt8)
 | cur,[]=>[cur]
 | cur,c::r=>if gQ c then cur::CG [] r else CG (cur++[c]) r
def ND:Fnd:=⟨false,false,false,false,0,0,0,0,0,0⟩
def kY (s:List UInt8):Fnd:=(CG [] s).foldl vQ ND
def jS (y:Int):Int:=if 70 <=y/\y <=99 then y+1900 else if y<70 then y+2000 else y
def ta (f:Fnd):Prop:=dq (jS f.y) f.m f.d/\f.time=true/\f.year=true/\f.s0 <=23/\f.s1 <=59/\f.s2 <=59
instance  (f:Fnd):Decidable (ta f):=by unfold ta;infer_instance
def gi (f:Fnd):Int:=cS (jS f.y) f.m f.d*86400+f.s0*3600+f.s1*60+f.s2
def CE (f:Fnd):Value:=if ta f then .tuple #[vI (gi f),.bool true]else .tuple #[vI 0,.bool false]
structure Ap (f:Fnd):Prop where
 s0:0 <=f.s0/\f.s0 <=99
 s1:0 <=f.s1/\f.s1 <=99
 s2:0 <=f.s2/\f.s2 <=99
 y:0 <=f.y/\f.y <=9999
 d:0 <=f.d/\f.d <=99
 m:0 <=f.m/\f.m <=12
 m0:f.month=false ↔ f.m=0
 d0:f.day=false->f.d=0
 y0:f.year=false->f.y=0
theorem jC:∀(l:List UInt8) (acc:Int),0 <=acc->(∀c∈l,fW c=true)->0 <=l.foldl (λn c=>n*10+((c.toNat:Int)-48)) acc/\l.foldl (λn c=>n*10+((c.toNat:Int)-48)) acc<(acc+1)*10 ^ l.length
 | [],acc,h,_=>by simp;omega
 | c::l,acc,h,hd=>by
   have hc:=jV.1 (hd c List.mem_cons_self)
   obtain⟨h1,h2⟩:=jC l (acc*10+((c.toNat:Int)-48)) (by omega) λx hx=>hd x (List.mem_cons_of_mem _ hx)
   rw[List.foldl_cons]
   refine⟨h1,Int.lt_of_lt_of_le h2 ?_⟩
   rw[List.length_cons,Int.pow_succ,Int.mul_comm (10 ^ l.length) 10,<- Int.mul_assoc]
   exact Int.mul_le_mul_of_nonneg_right (by omega) (Int.pow_nonneg (by decide))
theorem Bv {a b:Nat}(h:a <=b):(10:Int) ^ a <=10 ^ b:=by
 have:=Nat.pow_le_pow_right (n:=10) (by decide) h
 have e:∀k:Nat,((10 ^ k:Nat):Int)=10 ^ k:=λk=>by simp
 rw[<- e,<- e];omega
theorem El {s:List UInt8}(k:Nat)(h:(fp s).length <=k):0 <=gj (fp s)/\gj (fp s)<10 ^ k:=by
 obtain⟨h1,h2⟩:=jC (fp s) 0 (by decide) FD
 refine⟨h1,Int.lt_of_lt_of_le h2 ?_⟩
 rw[Int.zero_add,Int.one_mul]
 exact Bv h
theorem nu:∀(f i:Nat) (s:List UInt8) (l:List Int),cR f i s=some l->l.length=f/\∀x∈l,0 <=x/\x <=99
 | 0,i,s,l,h=>by simp[cR]at h;subst h;simp
 | f+1,i,s,l,h=>by
   unfold cR at h
   cases hs:vL i s with
   | none=>rw[hs]at h;cases h
   | some p=>
     rw[hs]at h
     simp only[Option.bind_some]at h
     cases hr:cR f (i+1) p.2 with
     | none=>rw[hr]at h;cases h
     | some r=>
       rw[hr]at h
       simp only[Option.map_some,Option.some.injEq]at h
       subst h
       obtain⟨h1,h2⟩:=nu f (i+1) p.2 r hr
       refine⟨by simp[h1],λx hx=>?_⟩
       rcases List.mem_cons.1 hx with rfl|hx
       · unfold vL at hs
         cases hc:wP i s with
         | none=>rw[hc]at hs;cases hs
         | some t=>
           rw[hc]at hs
           simp only[Option.bind_some]at hs
           split at hs
           · rename_i hd
             simp only[Option.some.injEq]at hs
             subst hs
             have:=El 2 hd.2
             simp only;omega
           · cases hs
       · exact h2 x hx
theorem um (s:List UInt8):∀(f k:Nat),0 <=fX s f k/\fX s f k <=(k:Int)+f
 | 0,k=>by simp[fX]
 | f+1,k=>by
   unfold fX
   have:=um s f (k+1)
   split <;> omega
theorem jD (f:Fnd)(s:List UInt8):(∃a b c,gv s=some [a,b,c]/\f.time=false/\vQ f s= { f with s0:=a,s1:=b,s2:=c,time:=true })\/
   (gv s=none\/f.time=true)/\vQ f s=if gp s 1 2=true/\f.day=false then{ f with d:=gj (fp s),day:=true }
   else if 0<jc s/\f.month=false then{ f with m:=jc s,month:=true }
   else if gp s 2 4=true/\f.year=false then{ f with y:=gj (fp s),year:=true } else f:=by
 cases hc:gv s with
 | none=>right;refine⟨.inl rfl,?_⟩;unfold vQ;rw[hc]
 | some l=>
   obtain⟨hl,_⟩:=nu 3 0 s l hc
   match l,hl with
   | [a,b,c],_=>
     cases ht:f.time with
     | false=>left;refine⟨a,b,c,rfl,rfl,?_⟩;unfold vQ;rw[hc,ht]
     | true=>
       right;refine⟨.inr rfl,?_⟩;unfold vQ;rw[hc,ht]
theorem KE {f:Fnd}(h:Ap f)(s:List UInt8):Ap (vQ f s):=by
 rcases jD f s with⟨a,b,c,hc,ht,e⟩|⟨_,e⟩
 · rw[e]
   obtain⟨_,hr⟩:=nu 3 0 s _ hc
   exact⟨hr a (by simp),hr b (by simp),hr c (by simp),h.y,h.d,h.m,h.m0,h.d0,h.y0⟩
 · rw[e]
   split
   · rename_i h1
     have hn:(fp s).length <=2:=by have:=h1.1;unfold gp at this;simp at this;omega
     have:=El 2 hn
     exact⟨h.s0,h.s1,h.s2,h.y,⟨this.1,by simp only;omega⟩,h.m,h.m0,(λe=>by cases e),h.y0⟩
   · split
     · rename_i h1
       have:=um s 12 0
       have h2:=h1.1
       unfold jc at h2 ⊢
       refine⟨h.s0,h.s1,h.s2,h.y,h.d,⟨by simp only;omega,by simp only;omega⟩,⟨(λe=>by cases e),λe=>?_⟩,h.d0,h.y0⟩
       simp only at e;omega
     · split
       · rename_i h1
         have hn:(fp s).length <=4:=by have:=h1.1;unfold gp at this;simp at this;omega
         have:=El 4 hn
         exact⟨h.s0,h.s1,h.s2,⟨this.1,by simp only;omega⟩,h.d,h.m,h.m0,h.d0,λe=>by cases e⟩
       · exact h
theorem IQ:Ap ND:=⟨by decide,by decide,by decide,by decide,by decide,by decide,by decide,by decide,by decide⟩
theorem KI:∀(l:List (List UInt8)) {f:Fnd},Ap f->Ap (l.foldl vQ f)
 | [],f,h=>h
 | s::l,f,h=>KI l (KE h s)
theorem Gq (f:Fnd):vQ f []=f:=by
 rcases jD f []with⟨a,b,c,hc,_⟩|⟨_,e⟩
 · have:gv []=none:=by decide
   rw[this]at hc;cases hc
 · rw[e,if_neg (λh=>by have:gp [] 1 2=false:=(by decide);rw[this]at h;cases h.1),
     if_neg (λh=>by have:jc []=0:=(by decide);rw[this]at h;exact absurd h.1 (by decide)),
     if_neg (λh=>by have:gp [] 2 4=false:=(by decide);rw[this]at h;cases h.1)]
theorem Io {f:Fnd}(h:dq (jS f.y) f.m f.d): -134774 <=cS (jS f.y) f.m f.d/\cS (jS f.y) f.m f.d <=2932896:=by
 have hh:=Fz h
 obtain⟨h1,h2,h3,h4,h5,h6⟩:=h
 have e1:=lP (a:=1601) (b:=jS f.y) (by omega) h1
 have e2:=lP (a:=jS f.y+1) (b:=10000) (by omega) (by omega)
 have e3:dY 1601=584388:=by decide
 have e4:dY 10000=3652059:=by decide
 omega
theorem MM {n:Int}(h1: -134774 <=n)(h2:n <=2932896):∃y m d,dq y m d/\cS y m d=n:=by
 have h:=AM h1 h2 _ _ _ _ _ _ rfl rfl rfl rfl rfl rfl
 exact⟨_,_,_,h.2.2.2.2.2.2.2.2.2.2.2.2⟩
def GR (n:Int):UInt8:=UInt8.ofNat (48+n.toNat%10)
def gu (n:Int):List UInt8:=[GR (n/10),GR n]
def QJ:List (List UInt8):=[[84,104,117],[70,114,105],[83,97,116],[83,117,110],[77,111,110],[84,117,101],[87,101,100]]
def Qw:List (List UInt8):=[[74,97,110],[70,101,98],[77,97,114],[65,112,114],[77,97,121],[74,117,110],[74,117,108],[65,117,103],[83,101,112],[79,99,116],[78,111,118],[68,101,99]]
def yt (k:Int):List UInt8:=QJ[k.toNat]?.getD []
def EL (m:Int):List UInt8:=Qw[(m-1).toNat]?.getD []
def mJ (s:Int):List UInt8:=gu (s/3600)++[58]++gu (s/60%60)++[58]++gu (s%60)
def zC (n y m d s:Int):List UInt8:=yt (n%7)++[44,32]++gu d++[32]++EL m++[32]++(gu (y/100)++gu (y%100))++[32]++mJ s++[32,71,77,84]
open Classical in
noncomputable def j5 (t:Int):List UInt8:=if h:∃p:Int×Int×Int,dq p.1 p.2.1 p.2.2/\cS p.1 p.2.1 p.2.2=t/86400 then
 zC (t/86400) (Classical.choose h).1 (Classical.choose h).2.1 (Classical.choose h).2.2 (t%86400)else[]
theorem BW {t y m d:Int}(h:dq y m d)(e:cS y m d=t/86400):j5 t=zC (t/86400) y m d (t%86400):=by
 have hex:∃p:Int×Int×Int,dq p.1 p.2.1 p.2.2/\cS p.1 p.2.1 p.2.2=t/86400:=⟨(y,m,d),h,e⟩
 unfold j5
 rw[dif_pos hex]
 obtain⟨h1,h2⟩:=Classical.choose_spec hex
 obtain⟨e1,e2,e3⟩:=FA h1 h (h2.trans e.symm)
 rw[e1,e2,e3]
theorem Ai {t:Int}(h:t/86400 < -134774\/2932896<t/86400):j5 t=[]:=by
 unfold j5
 rw[dif_neg]
 rintro⟨p,h1,h2⟩
 have:=wS h1
 omega
theorem C0:∀n,n<100->10 <=n->Lib.decDigits n=gu (n:Int):=by decide+kernel
theorem Jk:∀n,n<10->(48:UInt8)::Lib.decDigits n=gu (n:Int):=by decide+kernel
theorem Li:∀n,n<10->(Lib.decDigits n).length=1:=by decide+kernel
theorem FC (u:Nat)(h:10 <=u):Lib.decDigits u=Lib.decDigits (u/10)++[UInt8.ofNat (48+u%10)]:=by
 rw[Lib.decDigits,dif_neg (by omega)]
theorem Qt {y:Int}(h1:1000 <=y)(h2:y <=9999):Lib.itoa y=gu (y/100)++gu (y%100):=by
 obtain⟨n,rfl⟩:∃n:Nat,y=(n:Int):=⟨y.toNat,by omega⟩
 rw[Lib.itoa_nonneg,FC n (by omega),FC (n/10) (by omega),show n/10/10=n/100 by omega,C0 (n/100) (by omega) (by omega)]
 unfold gu GR
 rw[show(((n/100:Nat):Int))=(n:Int)/100 by omega]
 have e1:((n:Int)%100/10).toNat%10=n/10%10:=by omega
 have e2:((n:Int)%100).toNat%10=n%10:=by omega
 rw[e1,e2];rfl
theorem fN (n:Int):(gu n).length=2:=rfl
theorem nw (n:Int):fW (GR n)=true/\((GR n).toNat:Int)=48+n.toNat%10:=by
 have h:(GR n).toNat=48+n.toNat%10:=by
   unfold GR;rw[UInt8.toNat_ofNat'];omega
 exact⟨jV.2 (by omega),by omega⟩
theorem Mf {P:Program}{name:String}{k:IntKind}{zs:List Int}{w w':World}(h:Lib.TabIs P w name k zs)(hb:∀b,b<w.heap.size->P.globalNamed name=some b->w'.heap[b]? =w.heap[b]?):Lib.TabIs P w' name k zs:=by
 unfold Lib.TabIs World.var? at h ⊢
 cases hg:P.globalNamed name with
 | none=>rw[hg]at h;cases h
 | some g=>
   rw[hg]at h
   simp only[Option.bind_some]at h ⊢
   have hlt:g<w.heap.size:=by
     cases hh:w.heap[g]? with
     | none=>rw[hh]at h;cases h
     | some o=>exact(Array.getElem?_eq_some_iff.1 hh).1
   rw[hb g hlt hg];exact h
theorem Gm {P:Program}{name:String}{k:IntKind}{zs:List Int}{w w':World}(h:Lib.TabIs P w name k zs)(hb:bW w w'):Lib.TabIs P w' name k zs:=
 Mf h λb hlt _=>hb.block b hlt
theorem It (l:List UInt8)(c:UInt8):gj (l++[c])=gj l*10+((c.toNat:Int)-48):=by unfold gj;rw[List.foldl_append];rfl
def Oc (u:List UInt8):Option (Int×List UInt8):=if 1 <=(fp u).length/\(fp u).length <=2 then some (gj (fp u),u.drop (fp u).length)else none
def CA (f i:Nat)(u:List UInt8):Option (List Int):=(Oc u).bind λp=>(cR f (i+1) p.2).map (p.1:: ·)
theorem yF (f i:Nat)(s:List UInt8):cR (f+1) i s=(wP i s).bind (CA f i):=by
 show(vL i s).bind _=_
 unfold vL CA
 cases wP i s <;> rfl
theorem GO:∀(s cur:List UInt8) (k:Nat) (h:k<s.length),CG cur (s.drop k)=if gQ s[k]then cur::CG [] (s.drop (k+1))else CG (cur++[s[k]]) (s.drop (k+1)):=λs cur k h=>by
 rw[List.drop_eq_getElem_cons h];rfl
theorem L3 {s:List UInt8}{k:Nat}(h:k<s.length):decide (Ac (dp s (k:Int)))=gQ s[k]:=by
 unfold gQ;rw[zQ (i:=(k:Int)) (by simpa using h)];simp only[Int.toNat_natCast]
theorem Lt (f:Fnd):f.cells[7]? =some (vI f.y):=rfl
theorem yG (s:List UInt8)(hs:s.length <=10000000)(w:World):Cf lT #[vS s] w (Ret λv w'=>v=CE (kY s)/\bW w w'):=by
 apply xF
 intro k4 w4 hk4 hw4
 have hB4:bW w w4:=hw4▸ai _ _
 have hf4:am w4 k4 cP ND.cells:=am.new hk4 hw4
 have htr:true=true:=rfl
 have hk4w:∀x,some k4=some x->w.heap.size <=x:=λx e=>by cases e;omega
 refine⟨λm fr i w'=>∃(k j:Nat) (f:Fnd),k <=s.length+1/\i=(k:Int)/\fr=(j:Int)/\j <=k/\m=s.length+1-k/\Ap f/\
     kY s=(if k <=s.length then(CG ((s.take k).drop j) (s.drop k)).foldl vQ f else f)/\am w' k4 cP f.cells/\bW w w',
   ⟨_,0,0,ND,by omega,rfl,rfl,Nat.le_refl _,rfl,IQ,by rw[if_pos (Nat.zero_le _)];rfl,hf4,hB4⟩,?_⟩
 intro m fr i
 refine aX.of ?_ _
 rintro w1 ⟨k,j,f,hk,rfl,rfl,hj,rfl,hok,htold,hf1,hb1⟩
 have ew:k <=s.length->i64.wrap ((k:Int)+1)=((k+1:Nat):Int):=λhle=>by rw[wrap_i64 (by omega) (by omega)];omega
 refine ab.of (λh=>?_) (λh=>?_) <;> simp only[dTx,dFx]at h
 · have hle:k <=s.length:=by omega
   rw[if_pos hle]at htold
   rw[ew hle]
   refine qC (w:=w1) (decide (k=s.length\/∃h:k<s.length,gQ s[k]=true)) ?_ ?_
   · refine ab.of (λh2=>?_) (λh2=>?_)
     · rw[beq_iff_eq]at h2
       exact⟨rfl,(decide_eq_true (.inl (by omega))).symm⟩
     · rw[beq_eq_false_iff_ne]at h2
       have hlt:k<s.length:=by omega
       refine⟨⟨by omega,by omega⟩,?_⟩
       refine ax (AR _ w1) ?_
       rintro _ w1 ⟨rfl,rfl⟩
       refine⟨_,rfl,rfl,?_⟩
       rw[L3 hlt]
       cases hp:gQ s[k]
       · exact(decide_eq_false (by rintro(e|⟨_,e⟩) <;> first|omega|(rw[hp]at e;cases e))).symm
       · exact(decide_eq_true (.inr ⟨hlt,hp⟩)).symm
   · have hcut:(CG ((s.take k).drop j) (s.drop k))=if(k=s.length\/∃h:k<s.length,gQ s[k]=true)then(s.take k).drop j::(if k<s.length then CG [] (s.drop (k+1))else[])else CG ((s.take (k+1)).drop j) (s.drop (k+1)):=by
       by_cases hlt:k<s.length
       · rw[GO s _ k hlt]
         cases hp:gQ s[k]
         · rw[if_neg (by decide),if_neg (by rintro(e|⟨_,e⟩) <;> first|omega|(rw[hp]at e;cases e))]
           rw[List.take_succ_eq_append_getElem hlt,List.drop_append_of_le_length (by rw[List.length_take];omega)]
         · rw[if_pos rfl,if_pos (.inr ⟨hlt,hp⟩),if_pos hlt]
       · have:k=s.length:=by omega
         subst this
         rw[if_pos (.inl rfl),if_neg hlt]
         simp[CG]
     refine ab.of (λh2=>?_) (λh2=>?_) <;> simp only[dTx,dFx]at h2
     · rw[if_pos h2]at hcut
       rw[hcut,List.foldl_cons]at htold
       have fin:∀{f':Fnd} {w':World},f'=vQ f ((s.take k).drop j)->am w' k4 cP f'.cells->bW w w'->
           ∃q:Nat,q<s.length+1-k/\∃(k2 j:Nat) (f:Fnd),k2 <=s.length+1/\((k+1:Nat):Int)=(k2:Int)/\((k+1:Nat):Int)=(j:Int)/\j <=k2/\q=s.length+1-k2/\Ap f/\
             kY s=(if k2 <=s.length then(CG ((s.take k2).drop j) (s.drop k2)).foldl vQ f else f)/\am w' k4 cP f.cells/\bW w w':=by
         rintro f' w' rfl ha hb'
         refine⟨s.length+1-(k+1),by omega,k+1,k+1,_,by omega,rfl,rfl,Nat.le_refl _,rfl,KE hok _,?_,ha,hb'⟩
         rw[htold]
         by_cases hlt:k<s.length
         · rw[if_pos hlt,if_pos (show k+1 <=s.length from hlt)]
           congr 2
           rw[List.drop_eq_nil_of_le (by rw[List.length_take];omega)]
         · rw[if_neg hlt,if_neg (by omega)];rfl
       refine ab.of (λh3=>?_) (λh3=>?_) <;> simp only[gt_iff_lt,dTx,dFx]at h3
       · refine⟨⟨⟨by omega,by omega⟩,by omega,by omega⟩,?_⟩
         rintro _ rfl
         simp only[Int.toNat_natCast]
         refine ax (AU k4 f _ (by simp;omega) w1 hf1) ?_
         rintro _ w5 ⟨rfl,hf5,hg5⟩
         exact⟨rfl,fin rfl hf5 (hb1.grown hg5 hb1.size hk4w)⟩
       · refine fin ?_ hf1 hb1
         have:(s.take k).drop j=[]:=List.drop_eq_nil_of_le (by rw[List.length_take];omega)
         rw[this,Gq]
     · rw[if_neg h2]at hcut
       have hlt:k<s.length:=by
         by_cases e:k=s.length
         · exact absurd (.inl e) h2
         · omega
       refine⟨s.length+1-(k+1),by omega,k+1,j,f,by omega,rfl,rfl,by omega,rfl,hok,?_,hf1,hb1⟩
       rw[if_pos (show k+1 <=s.length from hlt),htold,hcut]
 · rw[if_neg (by omega)]at htold
   subst htold
   generalize kY s=f at*
   have hy:=hok.y
   have l7:=hf1.load1 (P:=prog) (i:=7) bT rfl (Lt f)
   have bad:∀{w':World},¬ ta f->bW w w'->(.tuple #[vI 0,.bool false]:Value)=CE f/\bW w w':=λhn hb'=>⟨by unfold CE;rw[if_neg hn],hb'⟩
   refine lJ (λw'=>am w' k4 cP ({ f with y:=jS f.y } :Fnd).cells/\bW w w') ?_ ?_
   · refine qC (w:=w1) (decide (70 <=f.y/\f.y <=99)) ?_ ?_
     · refine⟨htr,_,l7,?_⟩
       refine ab.of (λh2=>?_) (λh2=>?_) <;> simp only[ge_iff_le,dTx,dFx]at h2
       · refine⟨htr,_,l7,rfl,?_⟩
         simp[h2]
       · refine⟨rfl,?_⟩
         simp[h2]
     · have st:∀n:Int,n=jS f.y->∃wx:World,(Instr.storeAt bp (.pointer (some ⟨k4,7,none⟩)) (vI n)).run prog w1=.ok () wx/\am wx k4 cP ({ f with y:=jS f.y } :Fnd).cells/\bW w wx:=by
         rintro _ rfl
         obtain⟨w7,hs7,h7,hg7⟩:=hf1.store (P:=prog) iO (i:=7) (v:=vI (jS f.y)) rfl (by simp[Fnd.cells]) (xz _)
         exact⟨w7,hs7,by simpa[Fnd.cells,Value.cells]using h7,hb1.grown hg7 hb1.size hk4w⟩
       refine ab.of (λh2=>?_) (λh2=>?_) <;> simp only[dTx,dFx]at h2
       · exact⟨htr,_,l7,htr,st _ (by unfold jS;rw[if_pos h2,wrap_i64 (by omega) (by omega)])⟩
       · refine⟨htr,_,l7,?_⟩
         refine ab.of (λh3=>?_) (λh3=>?_) <;> simp only[dTx,dFx]at h3
         · exact⟨htr,_,l7,htr,st _ (by unfold jS;rw[if_neg h2,if_pos h3,wrap_i64 (by omega) (by omega)])⟩
         · have:jS f.y=f.y:=by unfold jS;rw[if_neg h2,if_neg h3]
           rw[this];exact⟨hf1,hb1⟩
   · rintro w2 ⟨hf2,hb2⟩
     refine⟨htr,_,hf2.load1 bT rfl rfl,htr,_,hf2.load1 bT rfl rfl,htr,_,hf2.load1 bT rfl rfl,?_⟩
     have hd9:=hok.d
     refine ax (nv _ _ _ (by simp only;omega) w2) ?_
     rintro _ w3 ⟨rfl,hb3⟩
     refine⟨_,_,rfl,?_⟩
     have hf3:=hf2.below hb3
     have hb23:=aa hb2 hb3 hb2.size
     have tr3:∀i:Int,0 <=i->i<3->((0 <=i/\i<((3:Nat):Int))/\true=true):=λi h1 h2=>⟨⟨h1,h2⟩,rfl⟩
     have l4:(Instr.loadAt bp (.pointer (an (some ⟨k4,4,none⟩) (0:Int) 1))).run prog w3=.ok (vI f.s0) w3:=by rw[iW];exact hf3.load1 bT rfl rfl
     have l5:(Instr.loadAt bp (.pointer (an (some ⟨k4,4,none⟩) (1:Int) 1))).run prog w3=.ok (vI f.s1) w3:=by rw[iW];exact hf3.load1 bT rfl rfl
     have l6:(Instr.loadAt bp (.pointer (an (some ⟨k4,4,none⟩) (2:Int) 1))).run prog w3=.ok (vI f.s2) w3:=by rw[iW];exact hf3.load1 bT rfl rfl
     refine wZ (w:=w3) (ta f) ?_ ?_
     · refine ab.of (λh3=>?_) (λh3=>?_) <;> simp only[Bool.not_eq_true',Bool.not_eq_false',dTx,dFx]at h3
       · exact bad (λhc=>h3 hc.1) hb23
       refine⟨htr,_,hf3.load1 cE rfl rfl,?_⟩
       refine ab.of (λh4=>?_) (λh4=>?_) <;> simp only[Bool.not_eq_true',Bool.not_eq_false']at h4
       · exact bad (λhc=>by rw[hc.2.1]at h4;cases h4) hb23
       refine⟨htr,_,hf3.load1 cE rfl rfl,?_⟩
       refine ab.of (λh5=>?_) (λh5=>?_) <;> simp only[Bool.not_eq_true',Bool.not_eq_false']at h5
       · exact bad (λhc=>by rw[hc.2.2.1]at h5;cases h5) hb23
       refine⟨htr,tr3 0 (by decide) (by decide),_,l4,?_⟩
       refine ab.of (λh6=>?_) (λh6=>?_) <;> simp only[gt_iff_lt,dTx,dFx]at h6
       · exact bad (λhc=>by have:=hc.2.2.2.1;omega) hb23
       refine⟨htr,tr3 1 (by decide) (by decide),_,l5,?_⟩
       refine ab.of (λh7=>?_) (λh7=>?_) <;> simp only[gt_iff_lt,dTx,dFx]at h7
       · exact bad (λhc=>by have:=hc.2.2.2.2.1;omega) hb23
       refine⟨htr,tr3 2 (by decide) (by decide),_,l6,?_⟩
       refine ab.of (λh8=>?_) (λh8=>?_) <;> simp only[gt_iff_lt,dTx,dFx]at h8
       · exact bad (λhc=>by have:=hc.2.2.2.2.2;omega) hb23
       exact⟨rfl,h3,h4,h5,by omega,by omega,by omega⟩
     · intro hc
       refine⟨htr,tr3 0 (by decide) (by decide),_,l4,htr,tr3 1 (by decide) (by decide),_,l5,htr,tr3 2 (by decide) (by decide),_,l6,?_,hb23⟩
       have hr:=Io hc.1
       have h0:=hok.s0;have h1:=hok.s1;have h2:=hok.s2
       unfold CE
       rw[if_pos hc,if_pos hc.1]
       unfold gi
       rw[wrap_i64 (n:=cS (jS f.y) f.m f.d*86400) (by omega) (by omega),wrap_i64 (n:=f.s0*3600) (by omega) (by omega),wrap_i64 (n:=f.s1*60) (by omega) (by omega),wrap_i64 (n:=cS (jS f.y) f.m f.d*86400+f.s0*3600) (by omega) (by omega),
         wrap_i64 (n:=cS (jS f.y) f.m f.d*86400+f.s0*3600+f.s1*60) (by omega) (by omega),wrap_i64 (by omega) (by omega)]
theorem qB (w:World)(k:Nat)(os:Array Obj):bW w (Go.Sort.grow (w.drewN k) os):=by
 refine mq rfl rfl rfl (by simp[Go.Sort.grow,World.drewN]) λj hj=>?_
 show(w.heap++os)[j]? =_
 rw[Array.getElem?_append_left hj]
abbrev Cq (P:Program)(w:World):Prop:=Lib.TabIs P w "internal/strconv.uint64pow10" .u64 Lib.pow10Tab
theorem gF (n:Int)(h0:0 <=n)(h1:n<100)(w:World):Cf dH #[vI n,vI 2] w (Ret λv w'=>v=vS (gu n)/\bW w w'):=by
 obtain⟨k,rfl⟩:∃k:Nat,n=(k:Int):=⟨n.toNat,by omega⟩
 apply oa
 refine(Tryz.strconv_Itoa_small k (by omega) w).mono ?_
 rintro _ _ ⟨rfl,rfl⟩
 refine⟨Lib.decDigits k,rfl,?_⟩
 by_cases h:k<10
 · have hl:=Li k h
   have e1:i64.wrap ((2:Int)-(((Lib.decDigits k).length:Nat):Int))=((1:Nat):Int):=by rw[hl,wrap_i64 (by omega) (by omega)];omega
   try dsimp only
   rw[e1]
   refine(Tryz.strings_Repeat (mkS [48]) 1 _ (by decide) (by decide)).mono ?_
   rintro _ w1 ⟨rfl,hb⟩
   refine⟨[48],rfl,by rw[hl];decide,?_⟩
   rintro _ rfl
   exact⟨by rw[<- Jk k h];rfl,hb⟩
 · have e2:=C0 k (by omega) (by omega)
   have hl:(Lib.decDigits k).length=2:=by rw[e2];rfl
   have e1:i64.wrap ((2:Int)-(((Lib.decDigits k).length:Nat):Int))=((0:Nat):Int):=by rw[hl,wrap_i64 (by omega) (by omega)];omega
   try dsimp only
   rw[e1]
   refine(Tryz.strings_Repeat (mkS [48]) 0 _ (by decide) (by decide)).mono ?_
   rintro _ w1 ⟨rfl,hb⟩
   refine⟨[],rfl,by rw[hl];decide,?_⟩
   rintro _ rfl
   exact⟨by rw[<- e2];rfl,hb⟩
theorem wR (n:Int)(h0:1000 <=n)(h1:n <=9999)(w:World)(ht:Cq prog w):Cf dH #[vI n,vI 4] w (Ret λv w'=>v=vS (gu (n/100)++gu (n%100))/\bW w w'):=by
 apply oa
 refine(Tryz.strconv_Itoa n (by omega) (by omega) w ht).mono ?_
 rintro _ _ ⟨rfl,k,os,rfl⟩
 have e2:=Qt h0 h1
 refine⟨Lib.itoa n,rfl,?_⟩
 have hl:(Lib.itoa n).length=4:=by rw[e2];rfl
 have e1:i64.wrap ((4:Int)-(((Lib.itoa n).length:Nat):Int))=((0:Nat):Int):=by rw[hl,wrap_i64 (by omega) (by omega)];omega
 try dsimp only
 rw[e1]
 refine(Tryz.strings_Repeat (mkS [48]) 0 _ (by decide) (by decide)).mono ?_
 rintro _ w1 ⟨rfl,hb⟩
 refine⟨[],rfl,by rw[hl];decide,?_⟩
 rintro _ rfl
 have hb0:=qB w k os
 exact⟨by rw[<- e2];rfl,aa hb0 hb hb0.size⟩
theorem Mw:∀k,k<7->(([84,104,117,70,114,105,83,97,116,83,117,110,77,111,110,84,117,101,87,101,100]:List UInt8).take (3*k+3)).drop (3*k)=yt (k:Int):=by decide
theorem NV:∀k,k<12->(([74,97,110,70,101,98,77,97,114,65,112,114,77,97,121,74,117,110,74,117,108,65,117,103,83,101,112,79,99,116,78,111,118,68,101,99]:List UInt8).take (3*k+3)).drop (3*k)=EL ((k:Int)+1):=by decide
theorem Mx:∀k:Nat,k<7->(yt (k:Int)).length=3:=by decide
theorem NW:∀k:Nat,k<12->(EL ((k:Int)+1)).length=3:=by decide
theorem KM {k:Int}(h0:0 <=k)(h1:k<7):(yt k).length=3:=by
 have:=Mx k.toNat (by omega)
 rwa [show((k.toNat:Nat):Int)=k by omega]at this
theorem LU {k:Int}(h0:1 <=k)(h1:k <=12):(EL k).length=3:=by
 have:=NW (k-1).toNat (by omega)
 rwa [show(((k-1).toNat:Nat):Int)+1=k by omega]at this
theorem CJ (t:Int)(h0: -9223372036854775808 <=t)(h1:t <=9223372036854775807)(w:World)(ht:Cq prog w):Cf jJ #[vI t] w (Ret λv w'=>v=vS (j5 t)/\bW w w'):=by
 apply BC
 obtain⟨e1,e2⟩:=DN (t:=t) (b:=86400) (by decide)
 refine⟨by decide,?_⟩
 rintro _ rfl
 refine⟨by decide,?_⟩
 rintro _ rfl
 refine⟨λn s w'=>w'=w/\n=t/86400/\s=t%86400,?_,?_⟩
 · refine ab.of (λh=>?_) (λh=>?_) <;> simp only[dTx,dFx]at h
   · have hneg:t<0:=by
       by_cases c:0 <=t
       · have:=(e1 c).2;omega
       · omega
     obtain⟨e3,e4⟩:=e2 hneg
     rw[e4]at h
     rw[e3,e4,wrap_i64 (n:= -(-t/86400)) (by omega) (by omega),wrap_i64 (by omega) (by omega),wrap_i64 (by omega) (by omega)]
     exact⟨rfl,by omega,by omega⟩
   · by_cases c:0 <=t
     · rw[(e1 c).1,(e1 c).2,wrap_i64 (by omega) (by omega)];exact⟨rfl,rfl,rfl⟩
     · obtain⟨e3,e4⟩:=e2 (by omega)
       rw[e4]at h
       rw[e3,e4,wrap_i64 (by omega) (by omega)];exact⟨rfl,by omega,by omega⟩
 · clear e1 e2
   intro n s
   refine aX.of ?_ _
   rintro w ⟨rfl,rfl,rfl⟩
   refine ax (AO _ w (by omega)) ?_
   rintro _ w1 ⟨rfl,hb1⟩
   by_cases hr:t/86400 < -134774\/2932896<t/86400
   · rw[wL hr]
     refine⟨_,_,_,_,rfl,ab.yes rfl ⟨by rw[Ai hr],hb1⟩⟩
   obtain⟨y,m,d,hd,he⟩:=MM (n:=t/86400) (by omega) (by omega)
   rw[BW hd he,<- he,Eh hd,he]
   refine⟨y,m,d,true,rfl,ab.no rfl ?_⟩
   have hdd:=hd
   obtain⟨hy1,hy2,hm1,hm2,hd1,hd2⟩:=hdd
   have hd3:=Bh y m
   generalize hn:t/86400=n at*
   generalize hs:t%86400=s at*
   have hs0:0 <=s/\s<86400:=by omega
   clear h0 h1 hn hs he
   obtain⟨e1,e2⟩:=DN (t:=n) (b:=7) (by decide)
   have e7: -7<Int.tmod n 7/\Int.tmod n 7<7/\(Int.tmod n 7+7)%7=n%7:=by
     by_cases c:0 <=n
     · rw[(e1 c).2];omega
     · rw[(e2 (by omega)).2];omega
   clear e1 e2
   refine⟨by decide,?_⟩
   rintro _ rfl
   refine⟨by decide,?_⟩
   rintro _ rfl
   have e8:Int.tmod (i64.wrap (Int.tmod n 7+7)) 7=n%7:=by rw[wrap_i64 (by omega) (by omega),kv (by omega),e7.2.2]
   try dsimp only
   rw[e8]
   clear e7 e8
   have hk0:0 <=n%7/\n%7<7:=by omega
   have hwl:=KM hk0.1 hk0.2
   have hml:=LU hm1 hm2
   obtain⟨k,hk⟩:∃k:Nat,n%7=(k:Int):=⟨(n%7).toNat,by omega⟩
   obtain⟨j,hj⟩:∃j:Nat,m=(j:Int)+1:=⟨(m-1).toNat,by omega⟩
   have hwk:=Mw k (by omega)
   have hmk:=NV j (by omega)
   rw[<- hk]at hwk
   rw[<- hj]at hmk
   rw[wrap_i64 (n:=3*(n%7)) (by omega) (by omega),wrap_i64 (n:=3*(n%7)+3) (by omega) (by omega),show(3*(n%7)+3).toNat=3*k+3 by omega,show(3*(n%7)).toNat=3*k by omega,hwk]
   refine⟨⟨⟨by omega,by simp only[List.length_cons,List.length_nil];omega⟩,by omega,by omega⟩,?_⟩
   rintro _ rfl
   refine⟨fits (by simp only[List.length_append,fN,hwl,hml,List.length_cons,List.length_nil];omega),?_⟩
   rintro _ rfl
   refine⟨gu d,λu hu=>gT (gF d (by omega) (by omega) u) hu,?_⟩
   refine⟨fits (by simp only[List.length_append,fN,hwl,hml,List.length_cons,List.length_nil];omega),?_⟩
   rintro _ rfl
   refine⟨fits (by simp only[List.length_append,fN,hwl,hml,List.length_cons,List.length_nil];omega),?_⟩
   rintro _ rfl
   rw[wrap_i64 (n:=3*m) (by omega) (by omega),wrap_i64 (n:=3*m-3) (by omega) (by omega),show(3*m).toNat=3*j+3 by omega,show(3*m-3).toNat=3*j by omega,hmk]
   refine⟨⟨⟨by omega,by simp only[List.length_cons,List.length_nil];omega⟩,by omega,by omega⟩,?_⟩
   rintro _ rfl
   refine⟨fits (by simp only[List.length_append,fN,hwl,hml,List.length_cons,List.length_nil];omega),?_⟩
   rintro _ rfl
   refine⟨fits (by simp only[List.length_append,fN,hwl,hml,List.length_cons,List.length_nil];omega),?_⟩
   rintro _ rfl
   refine⟨gu (y/100)++gu (y%100),λu hu=>gT (wR y (by omega) (by omega) u (Gm (Gm ht hb1) hu)) hu,?_⟩
   refine⟨fits (by simp only[List.length_append,fN,hwl,hml,List.length_cons,List.length_nil];omega),?_⟩
   rintro _ rfl
   refine⟨fits (by simp only[List.length_append,fN,hwl,hml,List.length_cons,List.length_nil];omega),?_⟩
   rintro _ rfl
   refine⟨by decide,?_⟩
   rintro _ rfl
   rw[eO hs0.1,wrap_i64 (n:=s/3600) (by omega) (by omega)]
   refine⟨gu (s/3600),λu hu=>gT (gF _ (by omega) (by omega) u) hu,?_⟩
   refine⟨fits (by simp only[List.length_append,fN,hwl,hml,List.length_cons,List.length_nil];omega),?_⟩
   rintro _ rfl
   refine⟨fits (by simp only[List.length_append,fN,hwl,hml,List.length_cons,List.length_nil];omega),?_⟩
   rintro _ rfl
   refine⟨by decide,?_⟩
   rintro _ rfl
   refine⟨by decide,?_⟩
   rintro _ rfl
   rw[eO hs0.1,wrap_i64 (n:=s/60) (by omega) (by omega),kv (a:=s/60) (by omega)]
   refine⟨gu (s/60%60),λu hu=>gT (gF _ (by omega) (by omega) u) hu,?_⟩
   refine⟨fits (by simp only[List.length_append,fN,hwl,hml,List.length_cons,List.length_nil];omega),?_⟩
   rintro _ rfl
   refine⟨fits (by simp only[List.length_append,fN,hwl,hml,List.length_cons,List.length_nil];omega),?_⟩
   rintro _ rfl
   refine⟨by decide,?_⟩
   rintro _ rfl
   rw[kv (a:=s) hs0.1]
   refine⟨gu (s%60),λu hu=>gT (gF _ (by omega) (by omega) u) hu,?_⟩
   refine⟨fits (by simp only[List.length_append,fN,hwl,hml,List.length_cons,List.length_nil];omega),?_⟩
   rintro _ rfl
   refine⟨fits (by simp only[List.length_append,fN,hwl,hml,List.length_cons,List.length_nil];omega),?_⟩
   rintro _ rfl
   intro wq hq
   refine⟨?_,aa hb1 hq hb1.size⟩
   congr 2
   simp[zC,mJ,List.append_assoc]
def stripR (p:UInt8->Bool)(s:List UInt8):List UInt8:=(s.reverse.dropWhile p).reverse
def je (p:UInt8->Bool)(s:List UInt8):List UInt8:=stripR p (s.dropWhile p)
theorem j4 (p:UInt8->Bool)(x:UInt8)(s:List UInt8):stripR p (x::s)=if stripR p s=[]then(if p x then[]else[x])else x::stripR p s:=by
 unfold stripR
 rw[List.reverse_cons]
 have key:∀t:List UInt8,List.dropWhile p (t++[x])=if List.dropWhile p t=[]then(if p x then[]else[x])else List.dropWhile p t++[x]:=by
   intro t
   induction t with
   | nil=>simp[List.dropWhile_cons]
   | cons y t ih=>
     rw[List.cons_append,List.dropWhile_cons,List.dropWhile_cons]
     split
     · exact ih
     · rw[if_neg (by simp)];rfl
 rw[key]
 by_cases h:List.dropWhile p s.reverse=[]
 · have h':(List.dropWhile p s.reverse).reverse=[]:=by rw[h];rfl
   rw[if_pos h,if_pos h']
   split <;> rfl
 · have h': ¬ (List.dropWhile p s.reverse).reverse=[]:=by simpa using h
   rw[if_neg h,if_neg h']
   simp
theorem pu (p:UInt8->Bool):∀s:List UInt8,(stripR p s).dropWhile p=je p s
 | []=>rfl
 | x::s=>by
   have ih:=pu p s
   unfold je at ih ⊢
   cases hx:p x with
   | true=>
     have e1:List.dropWhile p (x::s)=List.dropWhile p s:=by rw[List.dropWhile_cons,if_pos hx]
     rw[e1,<- ih,j4]
     by_cases h:stripR p s=[]
     · rw[if_pos h,if_pos hx,h]
     · rw[if_neg h,List.dropWhile_cons,if_pos hx]
   | false=>
     have hx': ¬ p x=true:=by rw[hx];decide
     have e1:List.dropWhile p (x::s)=x::s:=by rw[List.dropWhile_cons,if_neg hx']
     rw[e1,j4]
     by_cases h:stripR p s=[]
     · rw[if_pos h,if_neg hx',List.dropWhile_cons,if_neg hx']
     · rw[if_neg h,List.dropWhile_cons,if_neg hx']
theorem p5 (p:UInt8->Bool):∀s:List UInt8,stripR p s=[] ↔ s.all p=true
 | []=>by simp[stripR]
 | x::s=>by
   have ih:=p5 p s
   rw[j4,List.all_cons,Bool.and_eq_true,<- ih]
   by_cases h:stripR p s=[]
   · rw[if_pos h]
     cases p x <;> simp[h]
   · rw[if_neg h];simp[h]
theorem iC (p:UInt8->Bool):∀s:List UInt8,je p s=[] ↔ s.all p=true
 | []=>by simp[je,stripR]
 | x::s=>by
   unfold je
   rw[List.dropWhile_cons]
   cases hx:p x with
   | true=>rw[if_pos rfl,List.all_cons,hx,Bool.true_and];exact iC p s
   | false=>rw[if_neg (by decide),p5]
theorem HB (p:UInt8->Bool)(s:List UInt8):∀x∈stripR p s,x∈s:=λx hx=>by
 unfold stripR at hx
 rw[List.mem_reverse]at hx
 exact List.mem_reverse.1 ((List.dropWhile_sublist p).subset hx)
theorem Ah (p:UInt8->Bool)(s:List UInt8):∀x∈je p s,x∈s:=λx hx=>(List.dropWhile_sublist p).subset (HB p _ x hx)
theorem tO (p:UInt8->Bool)(s:List UInt8):(je p s).length <=s.length:=by
 unfold je stripR
 rw[List.length_reverse]
 have h1:=(List.dropWhile_sublist p (l:=(s.dropWhile p).reverse)).length_le
 have h2:=(List.dropWhile_sublist p (l:=s)).length_le
 rw[List.length_reverse]at h1;omega
theorem yj (s cs:List UInt8):Lib.trimS s cs=je (cs.contains ·) s:=pu _ s
def tq (c:UInt8):Bool:=c==32 || c==9
def trimB (s:List UInt8):List UInt8:=je tq s
theorem GD:∀n,n<256->([32,9]:List UInt8).contains (UInt8.ofNat n)=tq (UInt8.ofNat n):=by decide+kernel
theorem O0 (c:UInt8):([32,9]:List UInt8).contains c=tq c:=by
 have:=GD c.toNat (by have:=c.toNat_lt;omega)
 rwa [UInt8.ofNat_toNat]at this
theorem Ou (s:List UInt8):Lib.trimS s [32,9]=trimB s:=by
 rw[yj];unfold trimB;congr 1;exact funext O0
def fI (s:List UInt8):Bool:= !(s==[])&&s.all fW
theorem Fg (s:List UInt8):(Lib.trimS s [48,49,50,51,52,53,54,55,56,57]==[])=s.all fW:=by
 rw[yj]
 have e:(λx=>([48,49,50,51,52,53,54,55,56,57]:List UInt8).contains x)=fW:=funext Ix
 rw[e,Bool.eq_iff_iff,beq_iff_eq,iC]
def vj (s:List UInt8):Prop:=fI s=true/\s.length <=18/\ ¬ (s.head?=some 48/\1<s.length)
instance  (s:List UInt8):Decidable (vj s):=by unfold vj;infer_instance
theorem jy (s:List UInt8)(hs:s.length <=9223372036854775807)(w:World):Cf gx #[vS s] w (Ret λv w'=>v=vS (trimB s)/\bW w w'):=by
 apply zn
 refine(Tryz.strings_Trim_laid (mkS s) (mkS [32,9]) w hs (by decide) (ascii_of_all (by decide))).mono ?_
 rintro _ w1 ⟨rfl,hb⟩
 have e:Lib.trimS (mkS s).data.toList (mkS [32,9]).data.toList=trimB s:=Ou s
 rw[e]
 exact⟨_,rfl,rfl,hb⟩
theorem jY (s:List UInt8)(hs:s.length <=9223372036854775807)(w:World):Cf fU #[vS s] w (Ret λv w'=>v=.bool (fI s)/\bW w w'):=by
 apply vD
 unfold fI
 refine ab.of (λh=>?_) (λh=>?_)
 · refine⟨⟨by decide,by decide⟩,?_⟩
   rintro _ rfl
   refine(Tryz.strings_Trim_laid (mkS s) (mkS [48,49,50,51,52,53,54,55,56,57]) w hs (by decide) (ascii_of_all (by decide))).mono ?_
   rintro _ w1 ⟨rfl,hb⟩
   refine⟨_,rfl,?_,hb⟩
   have e:=Fg s
   rw[h,Bool.true_and,<- e];rfl
 · rw[h];exact⟨rfl,Below.refl _ _⟩
theorem gS (s:List UInt8)(hs:s.length <=9223372036854775000)(w:World):
   Cf eU #[vS s] w (Ret λv w'=>v=(if vj s then .tuple #[vI (gj s),.bool true]else .tuple #[vI 0,.bool false])/\bW w w'):=by
 apply vE
 have bad:∀{w':World},¬ vj s->bW w w'->(.tuple #[vI 0,.bool false]:Value)=(if vj s then .tuple #[vI (gj s),.bool true]else .tuple #[vI 0,.bool false])/\bW w w':=λhn hb=>⟨by rw[if_neg hn],hb⟩
 refine lJ (λw'=>vj s/\bW w w') ?_ ?_
 · refine ax (jY s (by omega) w) ?_
   rintro _ w1 ⟨rfl,hb⟩
   refine⟨_,rfl,?_⟩
   refine ab.of (λh=>?_) (λh=>?_) <;> simp only[Bool.not_eq_true',Bool.not_eq_false']at h
   · exact bad (λhc=>by rw[hc.1]at h;cases h) hb
   refine ab.of (λh2=>?_) (λh2=>?_) <;> simp only[gt_iff_lt,dTx,dFx]at h2
   · exact bad (λhc=>by have:=hc.2.1;omega) hb
   have hne:s≠[]:=λe=>by rw[e]at h;cases h
   match s,hne with
   | c::r,_=>
     have hx:dp (c::r) 0=((c.toNat:Nat):Int):=rfl
     rw[hx]
     refine⟨⟨by decide,by simp only[List.length_cons];omega⟩,?_⟩
     refine ab.of (λh3=>?_) (λh3=>?_)
     · have hc:c=48:=DO (by simpa using h3)
       refine ab.of (λh4=>?_) (λh4=>?_) <;> simp only[gt_iff_lt,dTx,dFx]at h4
       · exact bad (λhcn=>hcn.2.2 ⟨by rw[hc];rfl,by omega⟩) hb
       · exact⟨⟨h,by omega,λhcn=>by omega⟩,hb⟩
     · have hc:c≠48:=λe=>by subst e;cases h3
       exact⟨⟨h,by omega,λhcn=>hc (by simpa using hcn.1)⟩,hb⟩
 · rintro w1 ⟨hn,hb⟩
   rw[if_pos hn]
   obtain⟨hd,hl,_⟩:=hn
   have hall:∀c∈s,fW c=true:=λc hc=>by
     unfold fI at hd
     rw[Bool.and_eq_true]at hd
     exact List.all_eq_true.1 hd.2 c hc
   obtain⟨w2,a,n,c,hr,ho,hb2,hf⟩:=lO aw cg cB w1 s (by omega) NoB
   have hnn:=ho.len
   subst hnn
   have hb12:=aa hb hb2 hb.size
   refine⟨w2,a,_,c,hr,?_⟩
   refine⟨λm n i w'=>∃k:Nat,k <=s.length/\i=(k:Int)/\n=gj (s.take k)/\m=s.length-k/\w'=w2,⟨_,0,by omega,rfl,rfl,rfl,rfl⟩,?_⟩
   intro m n i
   refine aX.of ?_ _
   rintro w' ⟨k,hk,rfl,rfl,rfl,rfl⟩
   refine ab.of (λh=>?_) (λh=>?_) <;> simp only[dTx,dFx]at h
   · have hlt:k<s.length:=by omega
     have hc:=jV.1 (hall s[k] (List.getElem_mem hlt))
     have hbd:=jC (s.take k) 0 (by decide) λc hc=>hall c (List.mem_of_mem_take hc)
     have hp:(10:Int) ^ (s.take k).length <=10 ^ 17:=Bv (by rw[List.length_take];omega)
     have e17:(10:Int) ^ 17=100000000000000000:=by decide
     have hV:(s.take k).foldl (λn c=>n*10+((c.toNat:Int)-48)) 0=gj (s.take k):=rfl
     rw[hV]at hbd
     have hbb:=hbd.2
     rw[Int.zero_add,Int.one_mul]at hbb
     obtain⟨v,hv,hrep⟩:=ho.all.load1 (i:=(k:Int)) cB rfl rfl (by simpa using hlt)
     have:=yk hrep
     subst this
     simp only[Int.toNat_natCast]at hv
     refine⟨⟨⟨by omega,h⟩,ho.all.isSome hlt⟩,_,hv,s.length-(k+1),by omega,k+1,by omega,by rw[wrap_i64 (by omega) (by omega)];omega,?_,rfl,rfl⟩
     rw[List.take_succ_eq_append_getElem hlt,It,wrap_i64 (n:=10*gj (s.take k)) (by omega) (by omega),wrap_u8 (n:=((s[k].toNat:Nat):Int)-48) (by omega) (by omega),wrap_i64 (n:=((s[k].toNat:Nat):Int)-48) (by omega) (by omega),wrap_i64 (by omega) (by omega)]
     omega
   · have:k=s.length:=by omega
     subst this
     rw[List.take_length];exact⟨rfl,hb12⟩
theorem dv (s:List UInt8)(c:UInt8)(hs:s.length<4294967281)(w:World)(he:Env w):
   Cf cY #[vS s,.int .u8 ((c.toNat:Nat):Int)] w (Ret λv w'=>∃a n cp,v=.slice a n cp/\Ow tS ah w' NoB a n cp (dr c [] s)/\bZ w.heap.size a/\bW w w'):=by
 apply xT
 intro k w1 hk hw
 have hB:=(hw▸ai w _:bW w w1)
 have ho:Ow tU8 bI w1 NoB (some ⟨k,0,none⟩) 1 1 [c]:=Ow.newF (l:=[_]) Ev hk hw (fP.one (xC rfl)) (show 1 <=maxLen by decide)
 refine⟨_,tP cg aw cB ho.all,?_⟩
 obtain⟨m,hm⟩:=(he.step hB).max
 refine(Tryz.strings_Split (mkS s) (mkS [c]) m w1 hs hm (Nat.le_refl 1)).mono ?_
 rintro _ w2 ⟨rfl,hw2⟩
 have hcnt:=dF c s []
 rw[yf,E9]at*
 refine⟨_,_,_,rfl,_,_,_,rfl,Ow.newF (gM _) rfl hw2 (rr λ_ _=>trivial) (by show _ <=2 ^ 63-1;omega),jR rfl |>.mono hB.size,aa hB (hw2▸ai _ _) hB.size⟩
def zM (s:List UInt8):List UInt8:=trimB (s.takeWhile (· !=61))
def tY (s:List UInt8):List UInt8:=trimB ((s.dropWhile (· !=61)).drop 1)
def I6 (s:List UInt8):Bool:=decide ((61:UInt8)∈s)
theorem Q6 (c:UInt8):((c !=61)=true) ↔ c≠61:=by simp
theorem Pu {s:List UInt8}(h:(61:UInt8) ∉ s):s.takeWhile (· !=61)=s/\s.dropWhile (· !=61)=[]:=by
 have hp:∀x∈s,(x !=61)=true:=λx hx=>(Q6 x).2 λe=>h (e▸hx)
 have h1:s.takeWhile (· !=61)=s:=by
   have:=List.takeWhile_append_of_pos (p:=(· !=61)) (l₁:=s) (l₂:=[]) hp
   simpa using this
 have h2:=List.takeWhile_append_dropWhile (p:=(· !=(61:UInt8))) (l:=s)
 refine⟨h1,?_⟩
 rw[h1]at h2
 exact List.append_cancel_left (h2.trans (List.append_nil s).symm)
def ng (c:UInt8):Bool:=(decide (c.toNat<32) && !(c==9)) || c==127
theorem zI (c n:UInt8):((((c.toNat:Nat):Int))==((n.toNat:Nat):Int))=(c==n):=by
 rw[Bool.eq_iff_iff,beq_iff_eq,beq_iff_eq]
 exact⟨λh=>DO h,λh=>by rw[h]⟩
theorem byte_at {s:List UInt8}{k:Nat}(h:k<s.length):dp s (k:Int)=((s[k].toNat:Nat):Int):=by
 rw[zQ (i:=(k:Int)) (by simpa using h)];simp only[Int.toNat_natCast]
theorem pU (s:List UInt8)(hs:s.length<4294967281)(w:World)(he:Env w):
   Cf jq #[vS s] w (Ret λv w'=>v=.tuple #[vS (zM s),vS (tY s),.bool (I6 s)]/\bW w w'):=by
 apply xI
 obtain⟨m,hm⟩:=he.max
 refine(Tryz.strings_Cut (mkS s) (mkS [61]) m w hs hm).mono ?_
 rintro _ w1 ⟨rfl,n,rfl⟩
 have e:Lib.cut (mkS s).data.toList (mkS [61]).data.toList=(s.takeWhile (· !=61),(s.dropWhile (· !=61)).drop 1,I6 s):=by
   show Lib.cut s [61]=_
   rw[Lf]
   unfold I6
   by_cases hm:(61:UInt8)∈s
   · rw[if_pos hm,decide_eq_true hm]
   · rw[if_neg hm,decide_eq_false hm,(Pu hm).1,(Pu hm).2];rfl
 rw[e]
 refine⟨s.takeWhile (· !=61),(s.dropWhile (· !=61)).drop 1,_,rfl,?_⟩
 have h1:=ko (· !=(61:UInt8)) s
 have h2:=(List.dropWhile_sublist (· !=(61:UInt8)) (l:=s)).length_le
 refine ax (jy _ (by omega) _) ?_
 rintro _ w2 ⟨rfl,hb2⟩
 refine⟨_,rfl,?_⟩
 refine ax (jy _ (by rw[List.length_drop];omega) w2) ?_
 rintro _ w3 ⟨rfl,hb3⟩
 have hb0:bW w (w.drewN n):=mq rfl rfl rfl (Nat.le_refl _) (λ_ _=>rfl)
 have hb02:=aa hb0 hb2 hb0.size
 exact⟨_,rfl,rfl,aa hb02 hb3 hb02.size⟩
theorem tg (s:List UInt8)(hs:s.length <=9223372036854775807)(w:World):Cf iX #[vS s] w (Ret λv w'=>v=.bool (s.any ng)/\bW w w'):=by
 apply sb
 obtain⟨w2,a,n,c,hr,ho,hb2,hf⟩:=lO aw cg cB w s hs NoB
 have hnn:=ho.len
 subst hnn
 refine⟨w2,a,_,c,hr,?_⟩
 refine⟨λm i w'=>∃k:Nat,k <=s.length/\i=(k:Int)/\m=s.length-k/\(s.take k).any ng=false/\w'=w2,⟨_,0,by omega,rfl,rfl,rfl,rfl⟩,?_⟩
 intro m i
 refine aX.of ?_ _
 rintro w' ⟨k,hk,rfl,rfl,hno,rfl⟩
 refine ab.of (λh=>?_) (λh=>?_) <;> simp only[dTx,dFx]at h
 · have hlt:k<s.length:=by omega
   obtain⟨v,hv,hrep⟩:=ho.all.load1 (i:=(k:Int)) cB rfl rfl (by simpa using hlt)
   have:=yk hrep
   subst this
   simp only[Int.toNat_natCast]at hv
   have bad:ng s[k]=true->(.bool true:Value)=.bool (s.any ng)/\bW w w':=λhc=>⟨by
     congr 1;symm
     exact List.any_eq_true.2 ⟨_,List.getElem_mem hlt,hc⟩,hb2⟩
   have good:ng s[k]=false->∃m':Nat,m'<s.length-k/\∃k2:Nat,k2 <=s.length/\i64.wrap ((k:Int)+1)=(k2:Int)/\m'=s.length-k2/\(s.take k2).any ng=false/\w'=w':=λhc=>
     ⟨s.length-(k+1),by omega,k+1,by omega,by rw[wrap_i64 (by omega) (by omega)];omega,rfl,by rw[List.take_succ_eq_append_getElem hlt,List.any_append,hno];simp[hc],rfl⟩
   have e9:=zI s[k] 9
   have e127:=zI s[k] 127
   refine⟨⟨⟨by omega,h⟩,ho.all.isSome hlt⟩,_,hv,?_⟩
   refine ab.of (λh2=>?_) (λh2=>?_)
   · simp only[dTx]at h2
     refine ab.of (λh3=>?_) (λh3=>?_)
     · refine bad ?_
       have h9:(s[k]==9)=false:=by rw[<- e9];simpa using h3
       unfold ng
       rw[h9,decide_eq_true (show s[k].toNat<32 by omega)];rfl
     · have h9:(s[k]==9)=true:=by rw[<- e9];simpa using h3
       refine ab.of (λh4=>?_) (λh4=>?_)
       · refine bad ?_
         unfold ng
         rw[<- e127,show((((s[k].toNat:Nat):Int))==((UInt8.toNat 127:Nat):Int))=true from h4,Bool.or_true]
       · refine good ?_
         unfold ng
         rw[<- e127,show((((s[k].toNat:Nat):Int))==((UInt8.toNat 127:Nat):Int))=false from h4,h9]
         simp
   · simp only[dFx]at h2
     refine ab.of (λh4=>?_) (λh4=>?_)
     · refine bad ?_
       unfold ng
       rw[<- e127,show((((s[k].toNat:Nat):Int))==((UInt8.toNat 127:Nat):Int))=true from h4,Bool.or_true]
     · refine good ?_
       unfold ng
       rw[<- e127,show((((s[k].toNat:Nat):Int))==((UInt8.toNat 127:Nat):Int))=false from h4,decide_eq_false (show ¬ s[k].toNat<32 by omega)]
       rfl
 · have:k=s.length:=by omega
   subst this
   rw[List.take_length]at hno
   exact⟨by rw[hno],hb2⟩
def MH (s:List UInt8):Option Int:=if s.head?=some 45 then(if fI (s.drop 1)then some 0 else none)else if fI s then some (min (gj s) 34560000)else none
theorem wh (s:List UInt8)(c:UInt8):Lib.hasPrefix s [c]=decide (s.head?=some c)/\Lib.trimPrefix s [c]=if s.head?=some c then s.drop 1 else s:=by
 cases s with
 | nil=>exact⟨by simp[Lib.hasPrefix],rfl⟩
 | cons x s=>
   by_cases h:x=c
   · subst h
     have ht:Lib.hasPrefix (x::s) [x]=true:=by simp[Lib.hasPrefix,List.isPrefixOf]
     refine⟨by rw[ht];simp,?_⟩
     unfold Lib.trimPrefix;rw[ht];simp
   · have hf:Lib.hasPrefix (x::s) [c]=false:=by simp[Lib.hasPrefix,List.isPrefixOf,Ne.symm h]
     refine⟨by rw[hf];simp[h],?_⟩
     unfold Lib.trimPrefix;rw[hf];simp[h]
theorem MO (p:UInt8->Bool):∀s:List UInt8,s.dropWhile p=[] ↔ s.all p=true
 | []=>by simp
 | x::s=>by
   rw[List.dropWhile_cons,List.all_cons]
   cases h:p x with
   | true=>rw[if_pos rfl,Bool.true_and];exact MO p s
   | false=>simp
theorem CL:∀(l:List UInt8) (acc:Int),l.foldl (λn c=>n*10+((c.toNat:Int)-48)) acc=(l.dropWhile (· ==48)).foldl (λn c=>n*10+((c.toNat:Int)-48)) acc\/acc≠0
 | [],acc=>.inl rfl
 | c::l,acc=>by
   by_cases ha:acc=0
   · subst ha
     left
     rw[List.dropWhile_cons]
     split
     · rename_i h
       have:c=48:=by simpa using h
       subst this
       rw[List.foldl_cons]
       have e:(0:Int)*10+(((48:UInt8).toNat:Int)-48)=0:=by decide
       rw[e]
       rcases CL l 0 with h|h
       · exact h
       · exact absurd rfl h
     · rfl
   · exact .inr ha
theorem GP (l:List UInt8):gj l=gj (l.dropWhile (· ==48)):=by
 rcases CL l 0 with h|h
 · exact h
 · exact absurd rfl h
theorem Iu:∀(l:List UInt8) (acc:Int),0 <=acc->(∀c∈l,fW c=true)->acc*10 ^ l.length <=l.foldl (λn c=>n*10+((c.toNat:Int)-48)) acc
 | [],acc,h,_=>by simp
 | c::l,acc,h,hd=>by
   have hc:=jV.1 (hd c List.mem_cons_self)
   have h1:=Iu l (acc*10+((c.toNat:Int)-48)) (by omega) λx hx=>hd x (List.mem_cons_of_mem _ hx)
   rw[List.foldl_cons]
   refine Int.le_trans ?_ h1
   rw[List.length_cons,Int.pow_succ,Int.mul_comm (10 ^ l.length) 10,<- Int.mul_assoc]
   exact Int.mul_le_mul_of_nonneg_right (by omega) (Int.pow_nonneg (by decide))
theorem Lj {l:List UInt8}(hd:∀c∈l,fW c=true)(h0:l.head?≠some 48)(hl:19 <=l.length):34560000<gj l:=by
 match l,hl with
 | c::r,hl=>
   have hc:=jV.1 (hd c List.mem_cons_self)
   have hne:c.toNat≠48:=λe=>h0 (by have:c=48:=UInt8.toNat_inj.1 e;rw[this];rfl)
   have h1:=Iu r (0*10+((c.toNat:Int)-48)) (by omega) λx hx=>hd x (List.mem_cons_of_mem _ hx)
   have h2:gj (c::r)=r.foldl (λn c=>n*10+((c.toNat:Int)-48)) (0*10+((c.toNat:Int)-48)):=rfl
   rw[h2]
   have h3:(10:Int) ^ 18 <=10 ^ r.length:=Bv (by simp at hl;omega)
   have e18:(10:Int) ^ 18=1000000000000000000:=by decide
   have h4:(1:Int)*10 ^ r.length <=(0*10+((c.toNat:Int)-48))*10 ^ r.length:=Int.mul_le_mul_of_nonneg_right (by omega) (Int.pow_nonneg (by decide))
   omega
structure Hdr where
 name:List UInt8
 value:List UInt8
 domain:List UInt8
 path:List UInt8
 hasE:Bool
 exp:Int
 hasA:Bool
 age:Int
 sec:Bool
 http:Bool
 same:Int
def Hdr.cells (h:Hdr):List Value:=[vS h.name,vS h.value,vS h.domain,vS h.path,.bool h.hasE,vI h.exp,.bool h.hasA,vI h.age,.bool h.sec,.bool h.http,vI h.same]
def Hdr.v (h:Hdr):Value:=.agg h.cells.toArray
def yJ:Hdr:=⟨[],[],[],[],false,0,false,0,false,false,0⟩
def E6 (v:List UInt8):Int:=if cF v=[110,111,110,101]then 1 else if cF v=[108,97,120]then 2 else if cF v=[115,116,114,105,99,116]then 3 else 0
def wF (h:Hdr)(key value:List UInt8):Hdr:=
 if key=[101,120,112,105,114,101,115]then(if ta (kY value)then{ h with hasE:=true,exp:=gi (kY value) } else h)
 else if key=[109,97,120,45,97,103,101]then(match MH value with|some n=> { h with hasA:=true,age:=n }|none=>h)
 else if key=[100,111,109,97,105,110]then{ h with domain:=cF (if value.head?=some 46 then value.drop 1 else value) }
 else if key=[112,97,116,104]then{ h with path:=if value.head?=some 47 then value else[] }
 else if key=[115,101,99,117,114,101]then{ h with sec:=true }
 else if key=[104,116,116,112,111,110,108,121]then{ h with http:=true }
 else if key=[115,97,109,101,115,105,116,101]then{ h with same:=E6 value }
 else h
theorem am.put {P:Program}{u:TypeId}{bytes:Nat}{z:Value}(tf:TF P u 1 bytes z){w:World}{k:Nat}{t:TypeId}{vs:List Value}(h:am w k t vs){i:Nat}{v:Value}(hi:i<vs.length)(h1:v.oneCell'=true)(hc:v.cells= #[v]):
   ∃w',(Instr.storeAt u (.pointer (some ⟨k,i,none⟩)) v).run P w=.ok () w'/\am w' k t (vs.set i v)/\w.grownBy w' (some k):=by
 obtain⟨w',hs,ha,hg⟩:=h.store tf (i:=i) (v:=v) (by rw[hc];rfl) (by omega) (by rw[hc];intro c hcc;simp at hcc;subst hcc;exact h1)
 refine⟨w',hs,?_,hg⟩
 rw[hc]at ha
 have:vs.set i v=vs.take i++[v]++vs.drop (i+1):=by
   rw[List.set_eq_take_append_cons_drop,if_pos hi];simp
 rw[this];exact ha
theorem CH (s:List UInt8)(c:UInt8)(w:World):Cf bS #[vS s,vS [c]] w (Ret λv w'=>v=.tuple #[vS (if s.head?=some c then s.drop 1 else s),.bool (decide (s.head?=some c))]/\w'=w):=by
 refine(Tryz.strings_CutPrefix (mkS s) (mkS [c]) w).mono ?_
 rintro _ _ ⟨rfl,rfl⟩
 refine⟨_,rfl,?_,rfl⟩
 have h:=wh s c
 have e:(mkS s).data.toList=s:=rfl
 have e2:(mkS [c]).data.toList=[c]:=rfl
 rw[e,e2,h.1]
 by_cases hc:s.head?=some c
 · rw[if_pos hc]
   have h2:=h.2
   rw[if_pos hc]at h2
   rw[h2];rfl
 · rw[if_neg hc]
   have h2:=h.2
   rw[if_neg hc]at h2
   rw[h2];rfl
def PT (s:List UInt8):Value:=match MH s with|some n=>.tuple #[vI n,.bool true]|none=>.tuple #[vI 0,.bool false]
theorem A3 (s:List UInt8)(hs:s.length <=10000000)(w:World):Cf nJ #[vS s] w (Ret λv w'=>v=PT s/\bW w w'):=by
 apply zg
 refine ax (CH s 45 w) ?_
 rintro _ w ⟨rfl,rfl⟩
 refine⟨_,_,rfl,?_⟩
 have hl:(if s.head?=some 45 then s.drop 1 else s).length <=s.length:=by split <;> simp
 refine ax (jY _ (by omega) w) ?_
 rintro _ w1 ⟨rfl,hb1⟩
 refine⟨_,rfl,?_⟩
 by_cases h45:s.head?=some 45
 · rw[if_pos h45,decide_eq_true h45]
   unfold PT MH
   rw[if_pos h45]
   cases hd:fI (s.drop 1)
   · exact ab.yes rfl ⟨rfl,hb1⟩
   · exact ab.no rfl (ab.yes rfl ⟨rfl,hb1⟩)
 · rw[if_neg h45,decide_eq_false h45]
   unfold PT MH
   rw[if_neg h45]
   cases hd:fI s
   · exact ab.yes rfl ⟨rfl,hb1⟩
   · refine ab.no rfl (ab.no rfl ?_)
     refine(Tryz.strings_TrimLeft_one (mkS s) 48 (by decide) w1).mono ?_
     rintro _ _ ⟨rfl,rfl⟩
     have e:Lib.trimLeftB (mkS s).data.toList 48=s.dropWhile (· ==48):=rfl
     rw[e]
     refine⟨s.dropWhile (· ==48),rfl,?_⟩
     have hall:∀c∈s,fW c=true:=λc hc=>by
       unfold fI at hd
       rw[Bool.and_eq_true]at hd
       exact List.all_eq_true.1 hd.2 c hc
     have hsub:=List.dropWhile_sublist (λc:UInt8=>c==48) (l:=s)
     have hall2:∀c∈s.dropWhile (· ==48),fW c=true:=λc hc=>hall c (hsub.subset hc)
     have hhead:(s.dropWhile (· ==48)).head?≠some 48:=λe=>by
       have:=List.head?_dropWhile_not (λc:UInt8=>c==48) s
       rw[e]at this
       simp at this
     have hlen:=hsub.length_le
     have hz:=GP s
     refine ax (gS _ (by omega) _) ?_
     rintro _ w3 ⟨rfl,hb3⟩
     have hb13:=aa hb1 hb3 hb1.size
     rw[hz]
     have htrim:(s.dropWhile (· ==48)=[]) ↔ s.all (· ==48)=true:=by
       exact MO _ s
     generalize s.dropWhile (· ==48)=t at*
     have hbd:=jC t 0 (by decide) hall2
     have hge:0 <=gj t:=hbd.1
     by_cases hn:vj t
     · rw[if_pos hn]
       refine⟨_,_,rfl,ab.no rfl ?_⟩
       refine ab.of (λh=>?_) (λh=>?_) <;> simp only[gt_iff_lt,dTx,dFx]at h
       · exact⟨by rw[if_pos rfl];simp only[];rw[Int.min_eq_right (by omega)],hb13⟩
       · exact⟨by rw[if_pos rfl];simp only[];rw[Int.min_eq_left (by omega)],hb13⟩
     · rw[if_neg hn]
       refine⟨_,_,rfl,ab.yes rfl ?_⟩
       refine(Tryz.strings_Trim_one (mkS s) 48 (by decide) w3 (by show s.length <=_;omega)).mono ?_
       rintro _ w4 ⟨rfl,hw4⟩
       have hb4:bW w3 w4:=by
         rcases hw4 with rfl|rfl
         · exact Below.refl _ _
         · exact ec _
       have hb14:=aa hb13 hb4 hb13.size
       have e2:Lib.trimB (mkS s).data.toList 48=je (· ==48) s:=pu _ s
       rw[e2]
       refine⟨je (· ==48) s,rfl,?_⟩
       by_cases ht:t=[]
       · have hst:je (· ==48) s=[]:=(iC _ s).2 (htrim.1 ht)
         rw[hst]
         refine ab.no rfl (ab.no rfl ⟨?_,hb14⟩)
         rw[ht,if_pos rfl];rfl
       · have hst:je (· ==48) s≠[]:=λe=>ht (htrim.2 ((iC _ s).1 e))
         have hdt:fI t=true:=by
           unfold fI
           rw[Bool.and_eq_true]
           exact⟨by simpa using ht,List.all_eq_true.2 hall2⟩
         have hbig:34560000<gj t:=Lj hall2 hhead (by
           by_cases c:t.length <=18
           · exact absurd ⟨hdt,c,λh=>hhead h.1⟩ hn
           · omega)
         refine ab.yes (by simpa using hst) ⟨?_,hb14⟩
         rw[if_pos rfl];simp only[];rw[Int.min_eq_right (by omega)]
structure Whl (P:Program)(t:TypeId)(n:Nat):Prop where
 tf:∃bytes z,TF P t n bytes z
 ag:(P.underlying t).map yz=some true
def uX (cs:List Value):Prop:=∀c∈cs,c.oneCell'=true
theorem qW {a b:List Value}(h:uX a)(k:uX b):uX (a++b):=λc hc=>(List.mem_append.1 hc).elim (h c) (k c)
theorem br {x:Value}{b:List Value}(h:x.oneCell'=true)(k:uX b):uX (x::b):=λc hc=>(List.mem_cons.1 hc).elim (λe=>e▸h) (k c)
theorem jZ:uX []:=λ_ h=>by cases h
theorem Pv (a:List UInt8):uX (a.map λc=>Value.int .u8 ((c.toNat:Nat):Int)):=λc hc=>by
 obtain⟨x,_,rfl⟩:=List.mem_map.1 hc;rfl
theorem Whl.store {P:Program}{t:TypeId}{n:Nat}(h:Whl P t n){cs:List Value}(hl:cs.length=n)(h1:uX cs){w:World}{k:Nat}{T:TypeId}{vs:List Value}(ha:am w k T vs){i:Nat}(hfit:i+n <=vs.length):
   ∃wx,(Instr.storeAt t (.pointer (some ⟨k,i,none⟩)) (.agg cs.toArray)).run P w=.ok () wx/\am wx k T (vs.take i++cs++vs.drop (i+n))/\w.grownBy wx (some k):=by
 obtain⟨bytes,z,tf⟩:=h.tf
 exact ha.store tf (i:=i) (v:=.agg cs.toArray) (by simpa[Value.cells]using hl) hfit (λc hc=>h1 c (by simpa[Value.cells]using hc))
theorem Whl.store0 {P:Program}{t:TypeId}{n:Nat}(h:Whl P t n){cs:List Value}(hl:cs.length=n)(h1:uX cs){w:World}{k:Nat}{T:TypeId}{vs:List Value}(ha:am w k T vs)(hv:vs.length=n):
   ∃wx,(Instr.storeAt t (.pointer (some ⟨k,0,none⟩)) (.agg cs.toArray)).run P w=.ok () wx/\am wx k T cs/\w.grownBy wx (some k):=by
 obtain⟨wx,hs,h2,hg⟩:=h.store hl h1 ha (i:=0) (by omega)
 refine⟨wx,hs,?_,hg⟩
 rw[List.take_zero,List.nil_append,List.drop_eq_nil_of_le (by omega),List.append_nil]at h2
 exact h2
theorem Whl.load {P:Program}{t:TypeId}{n:Nat}(h:Whl P t n){w:World}{k:Nat}{T:TypeId}{vs us:List Value}(ha:am w k T vs){i:Nat}(hl:us.length=n)(hv:∀j,j<n->vs[i+j]? =us[j]?):
   (Instr.loadAt t (.pointer (some ⟨k,i,none⟩))).run P w=.ok (.agg us.toArray) w:=by
 obtain⟨bytes,z,tf⟩:=h.tf
 obtain⟨ti,hti,hsz,_,_⟩:=tf.info
 have hag:=h.ag
 cases hu:P.underlying t with
 | none=>rw[hu]at hag;cases hag
 | some d=>
   rw[hu]at hag
   simp only[Option.map_some,Option.some.injEq]at hag
   exact ha.loadA hu hag hti (us:=us) (i:=i) (by rw[hsz];exact hl) (λj hj=>hv j (by omega))
theorem Whl.load0 {P:Program}{t:TypeId}{n:Nat}(h:Whl P t n){w:World}{k:Nat}{T:TypeId}{cs:List Value}(ha:am w k T cs)(hl:cs.length=n):
   (Instr.loadAt t (.pointer (some ⟨k,0,none⟩))).run P w=.ok (.agg cs.toArray) w:=h.load ha hl λj _=>by rw[Nat.zero_add]
theorem Whl.new {P:Program}{t:TypeId}{n:Nat}(h:Whl P t n){zs cs:List Value}(hz:zs.length=n)(hl:cs.length=n)(h1:uX cs)(w:World){R:Nat->World->Prop}
   (H:∀k wx,k=w.heap.size->am wx k t cs->bW w wx->R k wx):
   ∀(k:Nat) (w1:World),k=w.heap.size->w1=w.alloc (.cells zs.toArray t)->∃(wx:World),(Instr.storeAt t (.pointer (some ⟨k,0,none⟩)) (.agg cs.toArray)).run P w1=.ok () wx/\R k wx:=by
 intro k w1 hk hw
 have hB:=(hw▸ai w _:bW w w1)
 obtain⟨wx,hs,h3,hg⟩:=h.store0 hl h1 (am.new hk hw:am w1 k t zs) hz
 exact⟨wx,hs,H k wx hk h3 (hB.grown hg hB.size λx e=>by cases e;omega)⟩
theorem Whl.fin {P:Program}{t:TypeId}{n:Nat}(h:Whl P t n){cs:List Value}(hl:cs.length=n)(h1:uX cs){w w':World}{k2:Nat}{vs:List Value}(h2:am w' k2 t vs)(hv:vs.length=n)(hb:bW w w')(hk:w.heap.size <=k2)
   {K:Value->World->Prop} (hK:∀wx,bW w wx->K (.agg cs.toArray) wx):
   ∃(wx:World),(Instr.storeAt t (.pointer (some ⟨k2,0,none⟩)) (.agg cs.toArray)).run P w'=.ok () wx/\∃vr:Value,(bG t (.pointer (some ⟨k2,0,none⟩))).run P wx=.ok vr wx/\K vr wx:=by
 obtain⟨wx,hs,h3,hg⟩:=h.store0 hl h1 h2 hv
 exact⟨wx,hs,_,am.res (h.load0 h3 hl),hK wx (hb.grown hg hb.size λx e=>by cases e;exact hk)⟩
theorem Below.put {w0 w w':World}{k:Nat}(h:bW w0 w)(hg:w.grownBy w' (some k))(hk:w0.heap.size <=k):bW w0 w':=h.grown hg h.size λx e=>by cases e;exact hk
theorem bP {x y:Nat}(h:x≠y):some x≠some y:=λe=>h (Option.some.inj e)
theorem kJ (k o i:Nat):an (some ⟨k,o,none⟩) (i:Int) 1=some ⟨k,o+i,none⟩:=by
 unfold an
 simp only[Option.map_some,Int.toNat_natCast,Nat.mul_one,Option.some.injEq]
 unfold Addr.add;split <;> simp_all
theorem Ow.put {α:Type}{T:Ty α}{t:TypeId}{w w':World}{a:Option Addr}{n c k:Nat}{xs:List α}(h:Ow T t w NoB a n c xs)(hog:∀g,eY a=some g->g≠k)(hg:w.grownBy w' (some k)):Ow T t w' NoB a n c xs:=
 h.keep (eV hg λb hb e=>by
   rcases hb with hb|hb
   · exact hb
   · exact hog b hb.symm (Option.some.inj e))
theorem Sl.text {P:Program}{u:TypeId}(hu:P.underlying u=some .string){w:World}{A:Bl}{a:Option Addr}{n c:Nat}{xs:List (List UInt8)}(h:Sl tS w A a n c xs){i:Nat}(hi:i<xs.length):(Instr.loadAt u (.pointer (an a (i:Int) 1))).run P w=.ok (.string (mkS xs[i])) w:=by
 obtain⟨v,hv,hrep⟩:=h.load1 (i:=(i:Int)) hu rfl rfl (by simpa using hi)
 obtain⟨rfl,-⟩:=kX hrep
 simpa using hv
end Go.Pk
