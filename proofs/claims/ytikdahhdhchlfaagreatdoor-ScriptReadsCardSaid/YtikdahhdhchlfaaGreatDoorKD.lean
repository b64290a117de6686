/- What the laws lean on: Shelf, DateE, DateF, DateG, DateH, DateI, DateJ, DateK, DateL, DateM, DateN, DateO, DateR, DateS, DateT, HdrA, HdrB, HdrC, Big; what is used. Its conditions: none. -/
import Derived.Test.YtikdahhdhchlfaaGreatDoorKC
import Derived.Shelf.Strings.SlTrimAscii
import Derived.Shelf.Strings.Builder1
import Derived.Shelf.Strings.Builder2
import Derived.Shelf.Strings.OnBuilder
import Derived.Shelf.Strings.Trim
import Derived.Shelf.Small.Utf8
import Derived.Shelf.Small.Bits
import Derived.Shelf.Small.Strs
import Derived.Shelf.Small.Wraps
import Derived.Shelf.Strings.BuilderF
import Derived.Shelf.Strings.BuilderK
import Derived.Shelf.Utf8.RuneCount
import Derived.Shelf.Strings.Builder2Cap
import Derived.Shelf.Strconv.Atoi
import Derived.Shelf.Strconv.Itoa0
import Derived.Shelf.Strconv.Itoa1
import Derived.Shelf.LaysM
import Derived.Shelf.Strconv.Itoa2
import Derived.Shelf.Strconv.Itoa3
import Derived.Shelf.Strconv.Itoa4
import Derived.Shelf.Strconv.AtoiErrFast
import Derived.Shelf.Strconv.ParseIntEmpty
import Derived.Shelf.Strconv.AtoiFail
import Derived.Shelf.Strconv.Clone
import Derived.Shelf.Strconv.SyntaxError
import Derived.Shelf.LaysC
import Derived.Shelf.Strconv.ToError
import Derived.Shelf.Strconv.AtoiErr
import Derived.Shelf.Strconv.Lower
import Derived.Shelf.Strconv.ParseUint10
import Derived.Shelf.Strconv.ParseUint10Empty
import Derived.Shelf.Strconv.ParseUint10Any
import Derived.Shelf.Strconv.RangeError
import Derived.Shelf.Strconv.ToErrorRange
import Derived.Shelf.Strconv.ParseUintEmpty
import Derived.Shelf.Strconv.ParseUint10b64
import Derived.Shelf.Strconv.ParseUint10b32
import Derived.Shelf.Strconv.ParseUint10b16
import Derived.Shelf.Strconv.ParseUint10b8
import Derived.Shelf.Strconv.ParseUint10At
import Derived.Shelf.Strings.Search1
import Derived.Shelf.Strings.Search2
import Derived.Shelf.Strings.Search3
import Derived.Shelf.Strings.Cut
import Derived.Shelf.Strings.Count
import Derived.Shelf.Strings.Shaped
import Derived.Shelf.Strings.LastIndex
import Derived.Shelf.Strings.Prefix
import Derived.Shelf.Strings.Split
import Derived.Shelf.Strings.SplitShaped
import Derived.Shelf.Unicode.Decode
import Derived.Shelf.Strings.Runes
import Derived.Shelf.Strings.RuneCount
import Derived.Shelf.Strings.IndexAny
import Derived.Shelf.Strings.AsciiSet
import Derived.Shelf.Strings.IndexAnyAll
import Derived.Shelf.Strings.Explode
import Derived.Shelf.Bits.Mul64
import Derived.Shelf.Strings.Repeat
import Derived.Shelf.Unicode.DecodeSlow
import Derived.Shelf.Unicode.DecodeAny
import Derived.Shelf.Unicode.DecodeLast
import Derived.Shelf.Strings.BuilderCap
import Derived.Shelf.Slices.Turned
import Derived.Ground.Names2Prog
import Derived.Shelf.Slices.Clone
import Derived.Ground.SlgnProg
import Derived.Shelf.SlicesE.Clone
import Derived.Ground.PaProg
import Derived.Shelf.Path.Small
set_option linter.unusedVariables false
set_option linter.unusedSimpArgs false
set_option linter.unusedSectionVars false
set_option maxRecDepth 100000
open Go.IntKind (i64)
open Go.Proofs.Tryz
namespace Go.Pk
open Go.RowKit (Below)
open Go.Proofs
end Go.Pk
namespace Go.Proofs
open Go.Pk (Cf vS vI bW)
open Go.Shelf
open Go.RowKit in
def Tryz.lays156_ren:Go.Shelf.Ren:=⟨fun|156=>37|165=>88|166=>36|169=>40|240=>87|241=>170|276=>169|277=>247|n=>n,fun|31=>36|9=>9|3=>3|4=>4|0=>0|20=>20|72=>86|76=>89|70=>83|37=>84|75=>88|127=>168|164=>233|5=>5|80=>94|n=>n,fun|n=>n⟩
theorem Tryz.lays156:Go.Proofs.Lays.n156 prog Tryz.lays156_ren:=by constructor <;> intros <;> kernel_rfl
theorem Tryz.Builder_Extra_156:Builder.Extra prog Tryz.lays156_ren:= {
 sizeBuilder:=by kernel_rfl
 liesBuilder:=by kernel_rfl
 t5:=Tryz.underlying5
 a5:=Tryz.isAgg5
 z5:=Tryz.sizeOf5
 v5:=Tryz.zeroValue5
 infoByte:=by kernel_rfl
 cellsByte:=by kernel_rfl
 sizeByte:=by kernel_rfl
 neB5:=by decide }
open Go.RowKit in
theorem Tryz.strings_Join_none (a:Option Addr)(c:Nat)(sep:ByteArray)(w:World):
   Cf 37 #[.slice a 0 c,.string sep] w λe w'=>e=.returned (.string ⟨#[]⟩)/\w'=w:=Any.strings_Join_none Tryz.lays156 Tryz.Builder_Extra_156 a c sep w
open Go.RowKit in
theorem Tryz.strings_Join (bk o c:Nat)(xs:List ByteArray)(sep:ByteArray)(w:World)(hcells:∀(j:Nat) x,xs[j]? =some x->w.cell? ⟨bk,o+j,none⟩=some (.string x))(hbk:bk<w.heap.size)(hN:xs.length <=140737488355328)(hcap:xs.length <=c)(hlen:(Lib.join (xs.map (·.data.toList)) sep.data.toList).length <=140737488355328):
   Cf 37 #[.slice (some ⟨bk,o,none⟩) xs.length c,.string sep] w λe w'=>e=.returned (.string ⟨(Lib.join (xs.map (·.data.toList)) sep.data.toList).toArray⟩)/\bW w w':=Any.strings_Join Tryz.lays156 Tryz.Builder_Extra_156 bk o c xs sep w hcells hbk hN hcap hlen
open Go.RowKit in
def Tryz.lays161_ren:Go.Shelf.Ren:=⟨fun|161=>267|231=>213|227=>145|233=>215|235=>217|228=>146|197=>276|151=>277|260=>315|152=>143|137=>219|119=>220|224=>221|225=>222|217=>279|266=>317|n=>n,fun|9=>9|4=>4|3=>3|5=>5|117=>211|116=>210|0=>0|124=>266|105=>308|21=>21|119=>340|46=>139|139=>343|138=>342|n=>n,fun|3=>2|4=>3|n=>n⟩
theorem Tryz.lays161:Go.Proofs.Lays.n161 prog Tryz.lays161_ren:=by constructor <;> intros <;> kernel_rfl
open Go.RowKit in
theorem Tryz.strings_TrimLeft_one (s:ByteArray)(c:UInt8)(hc:c.toNat<128)(w:World):
   Cf 267 #[.string s,.string ⟨#[c]⟩] w λe w'=>e=.returned (.string ⟨(Lib.trimLeftB s.data.toList c).toArray⟩)/\w'=w:=Any.strings_TrimLeft_one Tryz.lays161 s c hc w
def Tryz.lays160_ren:Go.Shelf.Ren:=⟨fun|160=>141|232=>214|231=>213|227=>145|234=>216|233=>215|236=>218|235=>217|228=>146|271=>278|151=>277|197=>276|120=>316|152=>143|260=>315|137=>219|119=>220|224=>221|225=>222|217=>279|266=>317|n=>n,fun|9=>9|4=>4|3=>3|5=>5|117=>211|116=>210|0=>0|124=>266|21=>21|105=>308|46=>139|119=>340|139=>343|138=>342|n=>n,fun|3=>2|4=>3|n=>n⟩
theorem Tryz.lays160:Go.Proofs.Lays.n160 prog Tryz.lays160_ren:=by constructor <;> intros <;> kernel_rfl
open Go.RowKit in
theorem Tryz.strings_Trim_one (s:ByteArray)(c:UInt8)(hc:c.toNat<128)(w:World)(hs:s.size <=9223372036854775807):
   Cf 141 #[.string s,.string ⟨#[c]⟩] w λe w'=>e=.returned (.string ⟨(Lib.trimB s.data.toList c).toArray⟩)/\(w'=w\/w'=w.drew):=Any.strings_Trim_one Tryz.lays160 s c hc w hs
def Tryz.lays119_ren:Go.Shelf.Ren:=⟨fun|119=>220|n=>n,fun|21=>21|4=>4|n=>n,fun|n=>n⟩
theorem Tryz.lays119:Go.Proofs.Lays.n119 prog Tryz.lays119_ren:=by constructor <;> intros <;> kernel_rfl
theorem Tryz.utf8_ValidRune (r:Int)(w:World):
   Cf 220 #[.int .i32 r] w λe w'=>e=.returned (.bool (Lib.validRune r))/\w'=w:=Any.utf8_ValidRune Tryz.lays119 r w
def Tryz.lays137_ren:Go.Shelf.Ren:=⟨fun|137=>219|217=>279|266=>317|n=>n,fun|9=>9|5=>5|3=>3|n=>n,fun|n=>n⟩
theorem Tryz.lays137:Go.Proofs.Lays.n137 prog Tryz.lays137_ren:=by constructor <;> intros <;> kernel_rfl
open Go.RowKit in
theorem Tryz.strings_IndexByte (s:ByteArray)(c:Int)(w:World):
   Cf 219 #[.string s,.int .u8 c] w λe w'=>e=.returned (vI (Lib.indexByte s.data.toList c.toNat.toUInt8))/\w'=w:=Any.strings_IndexByte Tryz.lays137 s c w
open Go.RowKit in
def Tryz.lays103_ren:Go.Shelf.Ren:=⟨fun|103=>147|210=>223|206=>142|n=>n,fun|9=>9|4=>4|24=>110|3=>3|n=>n,fun|n=>n⟩
theorem Tryz.lays103:Go.Proofs.Lays.n103 prog Tryz.lays103_ren:=by constructor <;> intros <;> kernel_rfl
open Go.RowKit in
theorem Tryz.strings_CutPrefix (s p:ByteArray)(w:World):
   Cf 147 #[.string s,.string p] w λe w'=>e=.returned (.tuple #[.string ⟨(Lib.trimPrefix s.data.toList p.data.toList).toArray⟩,.bool (Lib.hasPrefix s.data.toList p.data.toList)])/\w'=w:=Any.strings_CutPrefix Tryz.lays103 s p w
open Go.RowKit in
def Tryz.lays104_ren:Go.Shelf.Ren:=⟨fun|104=>148|211=>224|207=>176|n=>n,fun|9=>9|4=>4|24=>110|3=>3|n=>n,fun|n=>n⟩
theorem Tryz.lays104:Go.Proofs.Lays.n104 prog Tryz.lays104_ren:=by constructor <;> intros <;> kernel_rfl
open Go.RowKit in
theorem Tryz.strings_CutSuffix (s p:ByteArray)(w:World)(hs:s.size <=9223372036854775807):
   Cf 148 #[.string s,.string p] w λe w'=>e=.returned (.tuple #[.string ⟨(Lib.trimSuffix s.data.toList p.data.toList).toArray⟩,.bool (Lib.hasSuffix s.data.toList p.data.toList)])/\w'=w:=Any.strings_CutSuffix Tryz.lays104 s p w hs
open Go.RowKit in
def Tryz.lays172_ren:Go.Shelf.Ren:=⟨fun|172=>327|244=>335|245=>336|247=>339|279=>340|280=>341|281=>342|282=>343|287=>345|316=>346|171=>59|205=>347|321=>350|322=>351|243=>113|246=>174|283=>251|284=>252|285=>253|286=>254|129=>212|317=>299|318=>300|319=>301|320=>302|337=>324|338=>325|n=>n,fun|9=>9|3=>3|75=>88|76=>89|4=>4|5=>5|167=>352|37=>84|0=>0|85=>353|2=>2|168=>355|53=>263|175=>360|46=>139|210=>363|127=>168|145=>370|143=>368|21=>21|171=>287|173=>289|212=>321|51=>261|20=>20|213=>322|232=>346|233=>347|80=>94|n=>n,fun|15=>6|16=>7|17=>1|18=>4|19=>5|n=>n⟩
theorem Tryz.lays172:Go.Proofs.Lays.n172 prog Tryz.lays172_ren:=by constructor <;> intros <;> kernel_rfl
open Go.RowKit in
theorem Tryz.strconv_Atoi (s:ByteArray)(n:Int)(hl:s.size <=18)(h:Lib.atoi s.data.toList=some n)(w:World):
   Cf 327 #[.string s] w λe w'=>e=.returned (.tuple #[vI n,.nilIface])/\∃t,w'=Lib.bytesWorld w 5 t:=Any.strconv_Atoi Tryz.lays172 s n hl h w
open Go.Lib in
open Go.RowKit Go.Sort Go.Lib in
def Tryz.laysM246_ren:Go.Shelf.Ren:=⟨fun|246=>174|283=>251|284=>252|285=>253|286=>254|129=>212|317=>299|318=>300|319=>301|320=>302|337=>324|338=>325|n=>n,fun|2=>2|3=>3|9=>9|4=>4|171=>287|0=>0|53=>263|37=>84|5=>5|173=>289|212=>321|51=>261|20=>20|213=>322|46=>139|232=>346|233=>347|n=>n,fun|17=>1|18=>4|19=>5|n=>n⟩
theorem Tryz.laysM246:Go.Proofs.LaysM.n246 prog Tryz.laysM246_ren:=by constructor <;> first|(intros;kernel_rfl)|(constructor <;> intros <;> kernel_rfl)
open Go.RowKit Go.Sort Go.Lib in
theorem Tryz.internal_strconv_FormatInt_10 (n:Int)(h0: -9223372036854775808 <=n)(h1:n <=9223372036854775807)(w:World)(htab:Lib.TabIs prog w "internal/strconv.uint64pow10" .u64 Lib.pow10Tab):
   Cf 174 #[vI n,vI 10] w λe w'=>e=.returned (.string ⟨(Lib.itoa n).toArray⟩)/\∃k os,w'=grow (w.drewN k) os:=Any.internal_strconv_FormatInt_10 Tryz.laysM246 n h0 h1 w htab
open Go.RowKit Go.Sort Go.Lib in
def Tryz.laysM171_ren:Go.Shelf.Ren:=⟨fun|171=>59|243=>113|246=>174|283=>251|284=>252|285=>253|286=>254|129=>212|317=>299|318=>300|319=>301|320=>302|337=>324|338=>325|n=>n,fun|3=>3|9=>9|2=>2|4=>4|171=>287|0=>0|53=>263|37=>84|5=>5|173=>289|212=>321|51=>261|20=>20|213=>322|46=>139|232=>346|233=>347|n=>n,fun|17=>1|18=>4|19=>5|n=>n⟩
theorem Tryz.laysM171:Go.Proofs.LaysM.n171 prog Tryz.laysM171_ren:=by constructor <;> first|(intros;kernel_rfl)|(constructor <;> intros <;> kernel_rfl)
open Go.RowKit Go.Sort Go.Lib in
theorem Tryz.strconv_Itoa (n:Int)(h0: -9223372036854775808 <=n)(h1:n <=9223372036854775807)(w:World)(htab:Lib.TabIs prog w "internal/strconv.uint64pow10" .u64 Lib.pow10Tab):
   Cf 59 #[vI n] w λe w'=>e=.returned (.string ⟨(Lib.itoa n).toArray⟩)/\∃k os,w'=grow (w.drewN k) os:=Any.strconv_Itoa Tryz.laysM171 n h0 h1 w htab
def Tryz.lays171_ren:Go.Shelf.Ren:=⟨fun|171=>59|243=>113|246=>174|283=>251|284=>252|285=>253|286=>254|129=>212|317=>299|318=>300|319=>301|320=>302|337=>324|338=>325|n=>n,fun|3=>3|9=>9|2=>2|4=>4|171=>287|0=>0|53=>263|37=>84|5=>5|173=>289|212=>321|51=>261|20=>20|213=>322|46=>139|232=>346|233=>347|n=>n,fun|17=>1|18=>4|19=>5|n=>n⟩
theorem Tryz.lays171:Go.Proofs.Lays.n171 prog Tryz.lays171_ren:=by constructor <;> intros <;> kernel_rfl
open Go.RowKit Go.Sort Go.Lib in
theorem Tryz.strconv_Itoa_small (i:Nat)(hi:i<100)(w:World):
   Cf 59 #[vI i] w λe w'=>e=.returned (.string ⟨(Lib.decDigits i).toArray⟩)/\w'=w:=Any.strconv_Itoa_small Tryz.lays171 i hi w
open Go.RowKit Go.Sort Go.Lib in
open Go.RowKit in
open Go.RowKit Go.Lib in
def Tryz.lays145_ren:Go.Shelf.Ren:=⟨fun|145=>185|220=>263|219=>305|217=>279|225=>222|224=>221|267=>326|266=>317|314=>334|n=>n,fun|9=>9|4=>4|59=>178|3=>3|5=>5|46=>139|146=>348|51=>261|n=>n,fun|1=>0|n=>n⟩
theorem Tryz.lays145:Go.Proofs.Lays.n145 prog Tryz.lays145_ren:=by constructor <;> intros <;> kernel_rfl
open Go.RowKit Go.Lib in
theorem Tryz.strings_Cut (s sep:ByteArray)(m:Int)(w:World)(hs:s.size<4294967281)(hm:w.cell? ⟨0,0,none⟩=some (vI m)):
   Cf 185 #[.string s,.string sep] w λe w'=>e=.returned (.tuple #[.string ⟨(Lib.cut s.data.toList sep.data.toList).1.toArray⟩,.string ⟨(Lib.cut s.data.toList sep.data.toList).2.1.toArray⟩,.bool (Lib.cut s.data.toList sep.data.toList).2.2])/\∃n,w'=w.drewN n:=Any.strings_Cut Tryz.lays145 s sep m w hs hm
open Go.RowKit Go.Lib in
def Tryz.lays149_ren:Go.Shelf.Ren:=⟨fun|149=>194|222=>270|n=>n,fun|9=>9|5=>5|3=>3|4=>4|n=>n,fun|n=>n⟩
theorem Tryz.lays149:Go.Proofs.Lays.n149 prog Tryz.lays149_ren:=by constructor <;> intros <;> kernel_rfl
open Go.RowKit Go.Lib in
theorem Tryz.strings_LastIndexByte (s:ByteArray)(c:Int)(hs:s.size<4611686018427387904)(w:World):
   Cf 194 #[.string s,.int .u8 c] w λe w'=>e=.returned (vI (Lib.lastIndexByte s c))/\w'=w:=Any.strings_LastIndexByte Tryz.lays149 s c hs w
open Go.RowKit Go.Lib in
def Tryz.lays99_ren:Go.Shelf.Ren:=⟨fun|99=>77|206=>142|n=>n,fun|9=>9|4=>4|3=>3|n=>n,fun|n=>n⟩
theorem Tryz.lays99:Go.Proofs.Lays.n99 prog Tryz.lays99_ren:=by constructor <;> intros <;> kernel_rfl
open Go.RowKit Go.Lib in
theorem Tryz.strings_HasPrefix (s p:ByteArray)(w:World):
   Cf 77 #[.string s,.string p] w λe w'=>e=.returned (.bool (Lib.hasPrefix s.data.toList p.data.toList))/\w'=w:=Any.strings_HasPrefix Tryz.lays99 s p w
open Go.RowKit Go.Lib in
def Tryz.lays100_ren:Go.Shelf.Ren:=⟨fun|100=>196|207=>176|n=>n,fun|9=>9|4=>4|3=>3|n=>n,fun|n=>n⟩
theorem Tryz.lays100:Go.Proofs.Lays.n100 prog Tryz.lays100_ren:=by constructor <;> intros <;> kernel_rfl
open Go.RowKit Go.Lib in
theorem Tryz.strings_HasSuffix (s p:ByteArray)(w:World)(hs:s.size <=9223372036854775807):
   Cf 196 #[.string s,.string p] w λe w'=>e=.returned (.bool (Lib.hasSuffix s.data.toList p.data.toList))/\w'=w:=Any.strings_HasSuffix Tryz.lays100 s p w hs
open Go.RowKit Go.Lib in
def Tryz.lays101_ren:Go.Shelf.Ren:=⟨fun|101=>188|208=>268|206=>142|n=>n,fun|9=>9|4=>4|3=>3|n=>n,fun|n=>n⟩
theorem Tryz.lays101:Go.Proofs.Lays.n101 prog Tryz.lays101_ren:=by constructor <;> intros <;> kernel_rfl
open Go.RowKit Go.Lib in
theorem Tryz.strings_TrimPrefix (s p:ByteArray)(w:World):
   Cf 188 #[.string s,.string p] w λe w'=>e=.returned (.string ⟨(Lib.trimPrefix s.data.toList p.data.toList).toArray⟩)/\w'=w:=Any.strings_TrimPrefix Tryz.lays101 s p w
open Go.RowKit Go.Lib in
def Tryz.lays102_ren:Go.Shelf.Ren:=⟨fun|102=>45|209=>95|207=>176|n=>n,fun|9=>9|4=>4|3=>3|n=>n,fun|n=>n⟩
theorem Tryz.lays102:Go.Proofs.Lays.n102 prog Tryz.lays102_ren:=by constructor <;> intros <;> kernel_rfl
open Go.RowKit Go.Lib in
theorem Tryz.strings_TrimSuffix (s p:ByteArray)(w:World)(hs:s.size <=9223372036854775807):
   Cf 45 #[.string s,.string p] w λe w'=>e=.returned (.string ⟨(Lib.trimSuffix s.data.toList p.data.toList).toArray⟩)/\w'=w:=Any.strings_TrimSuffix Tryz.lays102 s p w hs
open Go.RowKit Go.Lib in
def Tryz.lays146_ren:Go.Shelf.Ren:=⟨fun|146=>94|221=>175|268=>255|138=>256|143=>257|195=>303|197=>276|218=>304|219=>305|260=>315|217=>279|225=>222|224=>221|267=>326|266=>317|314=>334|n=>n,fun|9=>9|31=>36|3=>3|4=>4|0=>0|105=>308|21=>21|5=>5|46=>139|119=>340|139=>343|138=>342|146=>348|51=>261|n=>n,fun|1=>0|3=>2|4=>3|n=>n⟩
theorem Tryz.lays146:Go.Proofs.Lays.n146 prog Tryz.lays146_ren:=by constructor <;> intros <;> kernel_rfl
open Go.RowKit Go.Lib in
theorem Tryz.strings_Split (s sep:ByteArray)(m:Int)(w:World)(hs:s.size<4294967281)(hm:w.cell? ⟨0,0,none⟩=some (vI m))(h1:1 <=sep.size):
   Cf 94 #[.string s,.string sep] w λe w'=>
     e=.returned (.slice (some ⟨w.heap.size,0,none⟩) (Lib.countB s sep+1) (Lib.countB s sep+1))/\w'=w.alloc (.cells ((Lib.splitB sep 0 (Lib.countB s sep) s).map Value.string).toArray 9):=Any.strings_Split Tryz.lays146 (by kernel_rfl) s sep m w hs hm h1
open Go.RowKit Go.Lib in
def Tryz.lays152_ren:Go.Shelf.Ren:=⟨fun|152=>143|137=>219|119=>220|224=>221|225=>222|217=>279|266=>317|n=>n,fun|9=>9|21=>21|3=>3|4=>4|5=>5|0=>0|46=>139|n=>n,fun|n=>n⟩
theorem Tryz.lays152:Go.Proofs.Lays.n152 prog Tryz.lays152_ren:=by constructor <;> intros <;> kernel_rfl
open Go.RowKit Go.Lib in
theorem Tryz.strings_IndexRune_ascii (s:ByteArray)(r:Int)(w:World)(h0:0 <=r)(h1:r<128):
   Cf 143 #[.string s,.int .i32 r] w λe w'=>e=.returned (vI (Lib.indexByte s.data.toList r.toNat.toUInt8))/\w'=w:=Any.strings_IndexRune_ascii Tryz.lays152 s r w h0 h1
open Go.RowKit Go.Lib in
def Tryz.lays226_ren:Go.Shelf.Ren:=⟨fun|226=>144|n=>n,fun|3=>3|4=>4|n=>n,fun|n=>n⟩
theorem Tryz.lays226:Go.Proofs.Lays.n226 prog Tryz.lays226_ren:=by constructor <;> intros <;> kernel_rfl
open Go.RowKit Go.Lib in
theorem Tryz.strings_shouldUseASCIISet (n:Int)(w:World):
   Cf 144 #[vI n] w λe w'=>e=.returned (.bool (decide (8<n)))/\w'=w:=Any.strings_shouldUseASCIISet Tryz.lays226 n w
def Tryz.lays153_ren:Go.Shelf.Ren:=⟨fun|153=>78|152=>143|226=>144|227=>145|228=>146|137=>219|119=>220|224=>221|225=>222|217=>279|266=>317|n=>n,fun|9=>9|3=>3|4=>4|5=>5|21=>21|117=>211|116=>210|0=>0|46=>139|124=>266|n=>n,fun|n=>n⟩
theorem Tryz.lays153:Go.Proofs.Lays.n153 prog Tryz.lays153_ren:=by constructor <;> intros <;> kernel_rfl
open Go.RowKit Go.Lib in
theorem Tryz.strings_IndexAny_long (hv116:∀w,(zeroValue 210).run prog w=.ok (.agg (Array.replicate 256 (.bool false))) w)(s chars:ByteArray)(w:World)(h2:2 <=chars.size)(h8:8<s.size)(hs:s.size<4294967281)(hcs:chars.size<4294967281)(hascii:∀(j:Nat) b,chars.data.toList[j]? =some b->b.toNat<128):
   Cf 78 #[.string s,.string chars] w λe w'=>e=.returned (vI (Lib.indexAny s.data.toList chars.data.toList))/\w'=((w.alloc (.cells (Lib.setCells chars.data.toList) 210)).alloc (.cells (Lib.setCells chars.data.toList) 210)):=Any.strings_IndexAny_long Tryz.lays153 hv116 (by kernel_rfl) s chars w h2 h8 hs hcs hascii
open Go.RowKit Go.Lib in
def Tryz.lays105_ren:Go.Shelf.Ren:=⟨fun|105=>337|212=>344|99=>77|165=>88|166=>36|170=>39|169=>40|263=>348|264=>349|206=>142|240=>87|241=>170|276=>169|277=>247|n=>n,fun|9=>9|3=>3|4=>4|20=>20|0=>0|46=>139|109=>358|5=>5|72=>86|76=>89|51=>261|146=>348|53=>263|148=>366|70=>83|37=>84|75=>88|127=>168|164=>233|80=>94|n=>n,fun|n=>n⟩
theorem Tryz.lays105:Go.Proofs.Lays.n105 prog Tryz.lays105_ren:=by constructor <;> intros <;> kernel_rfl
theorem Tryz.Builder_Extra_105:Builder.Extra prog Tryz.lays105_ren:= {
 sizeBuilder:=by kernel_rfl
 liesBuilder:=by kernel_rfl
 t5:=Tryz.underlying5
 a5:=Tryz.isAgg5
 z5:=Tryz.sizeOf5
 v5:=Tryz.zeroValue5
 infoByte:=by kernel_rfl
 cellsByte:=by kernel_rfl
 sizeByte:=by kernel_rfl
 neB5:=by decide }
open Go.RowKit Go.Lib in
theorem Tryz.strings_Repeat (s:ByteArray)(c:Nat)(w:World)(hc:c <=9223372036854775807)(hlen:s.size*c <=140737488355328):
   Cf 337 #[.string s,vI c] w λe w'=>e=.returned (.string ⟨(Lib.repeatL s.data.toList c).toArray⟩)/\bW w w':=Any.strings_Repeat Tryz.lays105 Tryz.Builder_Extra_105 s c w hc hlen
open Go.RowKit Go.Lib in
def Tryz.lays109_ren:Go.Shelf.Ren:=⟨fun|109=>177|n=>n,fun|31=>36|9=>9|3=>3|0=>0|4=>4|n=>n,fun|n=>n⟩
theorem Tryz.lays109:Go.Proofs.Lays.n109 prog Tryz.lays109_ren:=by constructor <;> intros <;> kernel_rfl
open Go.Lib in
theorem Tryz.slices_Index_string (b off n c:Nat)(zs:List ByteArray)(x:ByteArray)(w:World)(hz:n <=zs.length)(hbig:n <=9223372036854775807)(hc:∀j,j<zs.length->w.cell? ⟨b,off+j,none⟩=some (.string (zs.getD j ByteArray.empty))):
   Cf 177 #[.slice (some ⟨b,off,none⟩) n c,.string x] w λe w'=>e=.returned (vI (Lib.idxOfS (zs.take n) x))/\w'=w:=Any.slices_Index_string Tryz.lays109 b off n c zs x w hz hbig hc
open Go.Lib in
def Tryz.lays110_ren:Go.Shelf.Ren:=⟨fun|110=>96|109=>177|n=>n,fun|31=>36|9=>9|4=>4|3=>3|0=>0|n=>n,fun|n=>n⟩
theorem Tryz.lays110:Go.Proofs.Lays.n110 prog Tryz.lays110_ren:=by constructor <;> intros <;> kernel_rfl
open Go.Lib in
theorem Tryz.slices_Contains_string (b off n c:Nat)(zs:List ByteArray)(x:ByteArray)(w:World)(hz:n <=zs.length)(hbig:n <=9223372036854775807)(hc:∀j,j<zs.length->w.cell? ⟨b,off+j,none⟩=some (.string (zs.getD j ByteArray.empty))):
   Cf 96 #[.slice (some ⟨b,off,none⟩) n c,.string x] w λe w'=>e=.returned (.bool (Lib.containsS (zs.take n) x))/\w'=w:=Any.slices_Contains_string Tryz.lays110 b off n c zs x w hz hbig hc
open Go.Lib in
theorem Tryz.slices_Contains_string_empty (a:Option Addr)(c:Nat)(x:ByteArray)(w:World):
   Cf 96 #[.slice a 0 c,.string x] w λe w'=>e=.returned (.bool false)/\w'=w:=Any.slices_Contains_string_empty Tryz.lays110 a c x w
def Tryz.laysNm216_ren:Go.Shelf.Ren:=⟨fun|16=>46|n=>n,fun|24=>36|9=>9|4=>4|n=>n,fun|n=>n⟩
theorem Tryz.laysNm216:Go.Proofs.Lays2.n16 prog Tryz.laysNm216_ren:=by constructor <;> intros <;> kernel_rfl
open Go.RowKit Go.Lib in
theorem Tryz.slices_Clone_string (b off n c:Nat)(zs:List ByteArray)(w:World)(hz:n <=zs.length)(hbig:n*16 <=140737488355328)(hc:∀j,j<zs.length->w.cell? ⟨b,off+j,none⟩=some (.string (zs.getD j ByteArray.empty))):
   Cf 46 #[.slice (some ⟨b,off,none⟩) n c] w λe w'=>∃v',e=.returned v'/\w'.ownsRow w.heap.size 9 1 v' n ((zs.take n).map (Value.string))/\v'≠.slice none 0 0/\bW w w':=Any.slices_Clone_string Tryz.laysNm216 b off n c zs w hz hbig hc
open Go.RowKit Go.Lib in
theorem Tryz.slices_Clone_string_nil (n c:Nat)(w:World):
   Cf 46 #[.slice none n c] w λe w'=>e=.returned (.slice none 0 0)/\w'=w:=Any.slices_Clone_string_nil Tryz.laysNm216 n c w
open Go.RowKit Go.Lib in
theorem Tryz.slices_Clone_string_zero (a:Addr)(c:Nat)(w:World):
   Cf 46 #[.slice (some a) 0 c] w λe w'=>∃v',e=.returned v'/\w'.ownsRow w.heap.size 9 1 v' 0 []/\v'≠.slice none 0 0/\bW w w':=Any.slices_Clone_string_zero Tryz.laysNm216 a c w
open Go.RowKit Go.Lib in
open Go.RowKit in
theorem Tryz.strings_TrimLeft_laid (s cutset:ByteArray)(w:World)(hcs:cutset.size<4294967281)(hascii:∀(j:Nat) b,cutset.data.toList[j]? =some b->b.toNat<128):
   Cf 267 #[.string s,.string cutset] w λe w'=>e=.returned (.string ⟨(Lib.trimLeftS s.data.toList cutset.data.toList).toArray⟩)/\bW w w':=
 Any.strings_TrimLeft_laid Tryz.lays161 (by kernel_rfl) s cutset w hcs hascii
open Go.RowKit in
theorem Tryz.strings_Trim_laid (s cutset:ByteArray)(w:World)(hs:s.size <=9223372036854775807)(hcs:cutset.size<4294967281)(hascii:∀(j:Nat) b,cutset.data.toList[j]? =some b->b.toNat<128):
   Cf 141 #[.string s,.string cutset] w λe w'=>e=.returned (.string ⟨(Lib.trimS s.data.toList cutset.data.toList).toArray⟩)/\bW w w':=
 Any.strings_Trim_laid Tryz.lays160 (by kernel_rfl) s cutset w hs hcs hascii
end Go.Proofs
namespace Go.Pk
open Go.RowKit (Below)
open Go.Proofs
def Ev (n:Int):Prop:=n=9\/(32 <=n/\n <=47)\/(59 <=n/\n <=64)\/(91 <=n/\n <=96)\/(123 <=n/\n <=126)
instance  (n:Int):Decidable (Ev n):=by unfold Ev;infer_instance
theorem Fh (n:Int)(w:World):Cf qx #[.int .u8 n] w (Ret λv w'=>v=.bool (decide (Ev n))/\w'=w):=by
 apply Dm
 repeat' (refine ab.of (λh=>?_) (λh=>?_))
 all_goals
   refine⟨?_,rfl⟩
   congr 1
   rw[Bool.eq_iff_iff]
   simp only[dTx]
   simp only[Ev,beq_iff_eq,beq_eq_false_iff_ne,ge_iff_le,dTx,dFx,true_iff,false_iff,iff_true,reduceCtorEq,Bool.false_eq_true]at*
   omega
def eA (c:UInt8):Bool:=decide (48 <=c)&&decide (c <=57)
def gw (s:List UInt8):List UInt8:=s.takeWhile eA
def ez (l:List UInt8):Int:=l.foldl (λn c=>n*10+((c.toNat:Int)-48)) 0
theorem I4:∀n,n<256->([48,49,50,51,52,53,54,55,56,57]:List UInt8).contains (UInt8.ofNat n)=eA (UInt8.ofNat n):=by decide+kernel
theorem Nc (c:UInt8):([48,49,50,51,52,53,54,55,56,57]:List UInt8).contains c=eA c:=by
 have:=I4 c.toNat (by have:=c.toNat_lt;omega)
 rwa [UInt8.ofNat_toNat]at this
theorem Rl (s:List UInt8):Lib.trimLeftS s [48,49,50,51,52,53,54,55,56,57]=s.dropWhile eA:=by
 unfold Lib.trimLeftS
 congr 1
 funext c
 exact Nc c
theorem Hh (s:List UInt8):gw s++s.dropWhile eA=s:=List.takeWhile_append_dropWhile
theorem SO (s:List UInt8):(s.dropWhile eA).length+(gw s).length=s.length:=by
 have:=congrArg List.length (Hh s)
 rw[List.length_append]at this;omega
theorem Qi (s:List UInt8):s.take (gw s).length=gw s:=by
 have h:(gw s++s.dropWhile eA).take (gw s).length=gw s:=List.take_left' rfl
 rwa [Hh]at h
theorem Kr {s:List UInt8} :∀c∈gw s,eA c=true:=λc hc=>List.all_eq_true.1 (List.all_takeWhile (p:=eA) (l:=s)) c hc
theorem jT {c:UInt8} :eA c=true ↔ 48 <=c.toNat/\c.toNat <=57:=by
 unfold eA
 rw[Bool.and_eq_true,dTx,dTx,UInt8.le_iff_toNat_le,UInt8.le_iff_toNat_le]
 exact Iff.rfl
theorem Kp:∀(l:List UInt8) (acc:Nat),(∀c∈l,eA c=true)->∃n:Nat,Lib.decFrom acc l=some n/\(n:Int)=l.foldl (λn c=>n*10+((c.toNat:Int)-48)) (acc:Int)
 | [],acc,_=>⟨acc,rfl,rfl⟩
 | c::l,acc,h=>by
   have hc:=jT.1 (h c List.mem_cons_self)
   obtain⟨n,h1,h2⟩:=Kp l (acc*10+(c.toNat-48)) λx hx=>h x (List.mem_cons_of_mem _ hx)
   refine⟨n,?_,?_⟩
   · unfold Lib.decFrom Lib.digitVal
     rw[if_pos hc];exact h1
   · rw[h2,List.foldl_cons]
     congr 1
     omega
theorem PW {l:List UInt8}(hne:l≠[])(h:∀c∈l,eA c=true):Lib.atoi l=some (ez l):=by
 match l,hne with
 | c::r,_=>
   have hc:=jT.1 (h c List.mem_cons_self)
   unfold Lib.atoi
   have h1:(c==45)=false:=by rw[beq_eq_false_iff_ne];intro e;subst e;simp at hc
   have h2:(c==43)=false:=by rw[beq_eq_false_iff_ne];intro e;subst e;simp at hc
   obtain⟨n,e1,e2⟩:=Kp (c::r) 0 h
   simp only[h1,h2,Bool.false_eq_true,if_false]
   unfold Lib.decNat
   simp only[List.isEmpty_cons,Bool.false_eq_true,if_false,e1,Option.map_some]
   rw[e2];rfl
def Oj (s:List UInt8)(least most:Int):Value:=if least <=((gw s).length:Int)/\((gw s).length:Int) <=most then .tuple #[vI (ez (gw s)),vS (s.drop (gw s).length),.bool true]else .tuple #[vI 0,vS s,.bool false]
theorem IL (w:World)(e:TypeId)(s:ByteArray):bW w (Lib.bytesWorld w e s):=by
 unfold Lib.bytesWorld
 refine kO rfl rfl rfl (by simp[World.freeze]) λk hk=>?_
 simp only[World.freeze,if_neg (show ¬ (1:Nat)=0 by decide),Array.getElem?_modify]
 rw[if_neg (show ¬ w.heap.size=k by omega)]
 exact(Below.refl w.drew.heap.size w.drew |>.alloc (Nat.le_refl _) _).block k hk
theorem mU (s:List UInt8)(least most:Int)(h1:1 <=least)(h2:most <=18)(hs:s.length <=9223372036854775807)(w:World):
   Cf iX #[vS s,vI least,vI most] w (Ret λv w'=>v=Oj s least most/\bW w w'):=by
 apply Be
 refine(Tryz.strings_TrimLeft_laid (mkS s) (mkS [48,49,50,51,52,53,54,55,56,57]) w (by decide) (ascii_of_all (by decide))).mono ?_
 rintro _ w1 ⟨rfl,hb1⟩
 have e:(mkS s).data.toList=s:=rfl
 have e2:(mkS [48,49,50,51,52,53,54,55,56,57]).data.toList=[48,49,50,51,52,53,54,55,56,57]:=rfl
 rw[e,e2,Rl]
 refine⟨s.dropWhile eA,rfl,?_⟩
 have hl:=SO s
 have ew:i64.wrap ((s.length:Int)-((s.dropWhile eA).length:Int))=((gw s).length:Int):=by rw[wrap_i64 (by omega) (by omega)];omega
 try dsimp only
 rw[ew]
 refine⟨λw'=>w'=w1/\least <=((gw s).length:Int)/\((gw s).length:Int) <=most,?_,?_⟩
 · refine ab.of (λh=>?_) (λh=>?_) <;> simp only[dTx,dFx]at h
   · exact⟨by unfold Oj;rw[if_neg (by omega)],hb1⟩
   · refine ab.of (λh3=>?_) (λh3=>?_) <;> simp only[gt_iff_lt,dTx,dFx]at h3
     · exact⟨by unfold Oj;rw[if_neg (by omega)],hb1⟩
     · exact⟨rfl,by omega,by omega⟩
 · refine aJ.of ?_ _
   rintro w1 ⟨rfl,h3,h4⟩
   refine⟨⟨by omega,by omega⟩,?_⟩
   rintro _ rfl
   simp only[Int.toNat_natCast]
   rw[Qi]
   have hne:gw s≠[]:=λe=>by rw[e]at h3;simp at h3;omega
   refine(Tryz.strconv_Atoi (mkS (gw s)) (ez (gw s)) (by show(gw s).length <=18;omega) (PW hne Kr) w1).mono ?_
   rintro _ _ ⟨rfl,t,rfl⟩
   refine⟨_,_,rfl,⟨by omega,by omega⟩,?_⟩
   rintro _ rfl wq hq
   have hb2:=IL w1 5 t
   refine⟨by unfold Oj;rw[if_pos ⟨h3,h4⟩],aa (aa hb1 hb2 hb1.size) hq (aa hb1 hb2 hb1.size).size⟩
def Jz:List UInt8:=[74,97,110,70,101,98,77,97,114,65,112,114,77,97,121,74,117,110,74,117,108,65,117,103,83,101,112,79,99,116,78,111,118,68,101,99]
def Oe (k:Nat):List UInt8:=co ((Jz.take (3*k+3)).drop (3*k))
def ig (s:List UInt8):Nat->Nat->Int
 | 0,_=>0
 | f+1,k=>if 3 <=s.length/\co (s.take 3)=Oe k then(k:Int)+1 else ig s f (k+1)
def ke (s:List UInt8):Int:=ig s 12 0
theorem qM {s:List UInt8}(h: ¬ 3 <=s.length):∀f k,ig s f k=0
 | 0,_=>rfl
 | f+1,k=>by unfold ig;rw[if_neg (λe=>h e.1)];exact qM h f (k+1)
theorem Fg (s:List UInt8)(hs:s.length <=9223372036854775800)(w:World):Cf qw #[vS s] w (Ret λv w'=>v=vI (ke s)/\bW w w'):=by
 apply Dl
 refine⟨λm i w'=>∃k:Nat,k <=12/\i=(k:Int)/\m=12-k/\ke s=ig s (12-k) k/\bW w w',⟨_,0,by omega,rfl,rfl,rfl,Below.refl _ _⟩,?_⟩
 intro m i
 refine aJ.of ?_ _
 rintro w1 ⟨k,hk,rfl,rfl,hv,hb⟩
 refine⟨λw'=>w'=w1/\k<12/\3 <=s.length,?_,?_⟩
 · refine ab.of (λh=>?_) (λh=>?_) <;> simp only[dTx,dFx]at h
   · refine ab.of (λh2=>?_) (λh2=>?_) <;> simp only[ge_iff_le,dTx,dFx]at h2
     · exact⟨rfl,by omega,by omega⟩
     · exact⟨by rw[hv,qM (by omega)],hb⟩
   · have:k=12:=by omega
     subst this
     exact⟨by rw[hv];rfl,hb⟩
 · refine aJ.of ?_ _
   rintro w1 ⟨rfl,h1,h2⟩
   rw[wrap_i64 (n:=3*(k:Int)) (by omega) (by omega),wrap_i64 (n:=3*(k:Int)+3) (by omega) (by omega)]
   refine⟨⟨by omega,by omega⟩,?_⟩
   rintro _ rfl
   refine⟨⟨⟨by omega,by simp;omega⟩,by omega,by omega⟩,?_⟩
   rintro _ rfl
   have e1:Int.toNat (3*(k:Int))=3*k:=by omega
   have e2:Int.toNat (3*(k:Int)+3)=3*k+3:=by omega
   have e3:Int.toNat (3:Int)=3:=rfl
   rw[e1,e2,e3]
   refine⟨co (s.take 3)==Oe k,λu hu=>?_,?_⟩
   · refine(pg (s.take 3) ((Jz.take (3*k+3)).drop (3*k)) (by simp;omega) (by simp[Jz];omega) u).mono ?_
     rintro _ w2 ⟨_,rfl,rfl,hb2⟩
     exact⟨rfl,hb2.mono hu.size⟩
   · intro wq hq
     have ef:12-k=(12-(k+1))+1:=by omega
     rw[ef]at hv
     unfold ig at hv
     have ew:i64.wrap ((k:Int)+1)=(k:Int)+1:=by rw[wrap_i64 (by omega) (by omega)]
     refine ab.of (λh=>?_) (λh=>?_)
     · rw[beq_iff_eq]at h
       rw[if_pos ⟨h2,h⟩]at hv
       exact⟨by rw[ew,hv],aa hb hq hb.size⟩
     · rw[beq_eq_false_iff_ne]at h
       rw[if_neg (λe=>h e.2)]at hv
       exact⟨12-(k+1),by omega,k+1,by omega,by rw[ew];omega,rfl,hv,aa hb hq hb.size⟩
def Aq (i:Nat)(s:List UInt8):Option (List UInt8):=if i=0 then some s else if s.head?=some 58 then some (s.drop 1)else none
def zw (i:Nat)(s:List UInt8):Option (Int×List UInt8):=(Aq i s).bind λt=>if 1 <=(gw t).length/\(gw t).length <=2 then some (ez (gw t),t.drop (gw t).length)else none
def du:Nat->Nat->List UInt8->Option (List Int)
 | 0,_,_=>some []
 | f+1,i,s=>(zw i s).bind λp=>(du f (i+1) p.2).map (p.1:: ·)
def iI (s:List UInt8):Option (List Int):=du 3 0 s
theorem M3 (s:List UInt8):Lib.hasPrefix s [58]=decide (s.head?=some 58)/\(s.head?=some 58->Lib.trimPrefix s [58]=s.drop 1):=by
 cases s with
 | nil=>exact⟨by decide,λh=>by cases h⟩
 | cons c s=>
   have ht:Lib.hasPrefix (58::s) [58]=true:=rfl
   by_cases h:c=58
   · subst h
     refine⟨by rw[ht];simp,λ_=>?_⟩
     unfold Lib.trimPrefix;rw[ht];rfl
   · have hf:Lib.hasPrefix (c::s) [58]=false:=by
       show((58==c)&&_)=false
       rw[beq_eq_false_iff_ne.2 (Ne.symm h)];rfl
     refine⟨by rw[hf];simp[h],λe=>absurd (by simpa using e) h⟩
theorem E9 (l:List Int):∀c∈(Value.agg (l.map λn=>vI n).toArray).cells.toList,c.oneCell'=true:=by
 intro c hc
 obtain⟨n,_,rfl⟩:∃n,n∈l/\vI n=c:=by simpa[Value.cells]using hc
 rfl
theorem Hb (s:List UInt8)(w:World):Cf cv #[vS s,vS [58]] w (Ret λv w'=>v=.tuple #[vS (if s.head?=some 58 then s.drop 1 else s),.bool (decide (s.head?=some 58))]/\w'=w):=by
 refine(Tryz.strings_CutPrefix (mkS s) (mkS [58]) w).mono ?_
 rintro _ _ ⟨rfl,rfl⟩
 refine⟨_,rfl,?_,rfl⟩
 have h:=M3 s
 have e:(mkS s).data.toList=s:=rfl
 have e2:(mkS [58]).data.toList=[58]:=rfl
 rw[e,e2,h.1]
 by_cases hc:s.head?=some 58
 · rw[if_pos hc,h.2 hc];rfl
 · rw[if_neg hc]
   have:Lib.trimPrefix s [58]=s:=by unfold Lib.trimPrefix;rw[if_neg (by rw[h.1];simpa using hc)]
   rw[this];rfl
def Ae (l:List Int):List Value:=l.map λn=>vI n
def zX (s:List UInt8)(w:World)(v:Value)(w':World):Prop:=
 (∃a b c b',v=.tuple #[.agg #[vI a,vI b,vI c],.bool b']/\(iI s=none/\b'=false\/iI s=some [a,b,c]/\b'=true))/\bW w w'
theorem three {α:Type}{l:List α}(h:l.length=3):∃a b c,l=[a,b,c]:=by
 match l,h with
 | [a,b,c],_=>exact⟨a,b,c,rfl⟩
theorem G4 {w w':World}{k2 k4:Nat}{out us:List Int}{K:Value->World->Prop}{bo:Bool}(h2:ao w' k2 bl (Ae us))(h4:ao w' k4 bl (Ae out))(hl:out.length=3)(hu:us.length=3)
   (hb:bW w w') (hk2:w.heap.size <=k2)
   (hK:∀a b c wx,out=[a,b,c]->bW w wx->K (.tuple #[.agg #[vI a,vI b,vI c],.bool bo]) wx):
   ∃(n0:Int) (n1:Int) (n2:Int),(Instr.loadAt bl (.pointer (some ⟨k4,0,none⟩))).run prog w'=.ok (.agg #[vI n0,vI n1,vI n2]) w'/\
     ∃(wx:World),(Instr.storeAt bl (.pointer (some ⟨k2,0,none⟩)) (.agg #[vI n0,vI n1,vI n2])).run prog w'=.ok () wx/\
     ∃(r0:Int) (r1:Int) (r2:Int),(bg bl (.pointer (some ⟨k2,0,none⟩))).run prog wx=.ok (.agg #[vI r0,vI r1,vI r2]) wx/\
     K (.tuple #[.agg #[vI r0,vI r1,vI r2],.bool bo]) wx:=by
 obtain⟨a,b,c,rfl⟩:=three hl
 obtain⟨d,e,f,rfl⟩:=three hu
 obtain⟨ti,hti,hsz,_,_⟩:=mf.info
 refine⟨a,b,c,h4.loadA uM rfl hti (us:=Ae [a,b,c]) (i:=0) (by rw[hsz];rfl) (λj hj=>by rw[Nat.zero_add]),?_⟩
 obtain⟨wx,hs,h2',hg⟩:=h2.store (P:=prog) mf (i:=0) (v:=.agg #[vI a,vI b,vI c]) rfl (by simp[Ae]) (E9 [a,b,c])
 refine⟨wx,hs,a,b,c,?_,hK a b c wx rfl (hb.grown hg hb.size (λx e=>by cases e;exact hk2))⟩
 exact ao.res (ao.loadA uM rfl hti h2' (us:=Ae [a,b,c]) (i:=0) (by rw[hsz];rfl) (λj hj=>by simp[Ae,Value.cells]))
theorem A4 (n:Int):∀c∈(vI n).cells.toList,c.oneCell'=true:=by
 intro c hc
 have:c=vI n:=by simpa[Value.cells]using hc
 subst this;rfl
theorem Ff (s:List UInt8)(hs:s.length <=9223372036854775000)(w:World):Cf qv #[vS s] w (Ret (zX s w)):=by
 apply Dk
 intro k2 w2 hk2 hw2 k4 w4 hk4 hw4
 have hB2:bW w w2:=hw2▸ai _ _
 have hB4:bW w2 w4:=hw4▸ai _ _
 have hBB:bW w w4:=aa hB2 hB4 hB2.size
 have ha2:ao w4 k2 bl (Ae [0,0,0]):=(ao.new (vs:=Ae [0,0,0]) hk2 hw2).below hB4
 have ha4:ao w4 k4 bl (Ae [0,0,0]):=ao.new hk4 hw4
 have hs2:w2.heap.size=w.heap.size+1:=by rw[hw2];simp
 have hne:k2≠k4:=by omega
 have hge2:w.heap.size <=k2:=by omega
 have hge4:w.heap.size <=k4:=by omega
 refine⟨λm t i w'=>∃(k:Nat) (out:List Int),k <=3/\i=(k:Int)/\m=3-k/\out.length=3/\t.length <=s.length/\iI s=(du (3-k) k t).map (out.take k++ ·)/\
     ao w' k2 bl (Ae [0,0,0])/\ao w' k4 bl (Ae out)/\bW w w',
   ⟨_,0,[0,0,0],by omega,rfl,rfl,rfl,Nat.le_refl _,by unfold iI;cases du 3 0 s <;> rfl,ha2,ha4,hBB⟩,?_⟩
 intro m t i
 refine aJ.of ?_ _
 rintro w1 ⟨k,out,hk,rfl,rfl,hlen,htl,hv,h2,h4,hb⟩
 refine ab.of (λh=>?_) (λh=>?_) <;> simp only[dTx,dFx]at h
 · have ef:3-k=(3-(k+1))+1:=by omega
   rw[ef]at hv
   unfold du at hv
   have bad:∀{w':World},zw k t=none->ao w' k2 bl (Ae [0,0,0])->ao w' k4 bl (Ae out)->bW w w'->_:=fun{w'} he h2 h4 hb=>
     G4 (K:=zX s w) (bo:=false) h2 h4 hlen rfl hb hge2 (λa b c wx _ hbx=>⟨⟨a,b,c,false,rfl,.inl ⟨by rw[hv,he];rfl,rfl⟩⟩,hbx⟩)
   refine⟨λu w'=>w'=w1/\Aq k t=some u/\u.length <=s.length,?_,?_⟩
   · refine ab.of (λh5=>?_) (λh5=>?_) <;> simp only[gt_iff_lt,dTx,dFx]at h5
     · refine aw (Hb t w1) ?_
       rintro _ w1 ⟨rfl,rfl⟩
       refine⟨_,_,rfl,?_⟩
       refine ab.of (λh6=>?_) (λh6=>?_) <;> simp only[Bool.not_eq_true',Bool.not_eq_false',dTx,dFx]at h6
       · exact bad (by unfold zw Aq;rw[if_neg (by omega),if_neg h6];rfl) h2 h4 hb
       · exact⟨rfl,by unfold Aq;rw[if_neg (by omega),if_pos h6,if_pos h6],by rw[if_pos h6];simp;omega⟩
     · exact⟨rfl,by unfold Aq;rw[if_pos (by omega)],htl⟩
   · intro u
     refine aJ.of ?_ _
     rintro w1 ⟨rfl,hc,hul⟩
     have hst:zw k t=if 1 <=(gw u).length/\(gw u).length <=2 then some (ez (gw u),u.drop (gw u).length)else none:=by unfold zw;rw[hc];rfl
     refine aw (mU u 1 2 (by omega) (by omega) (by omega) w1) ?_
     rintro _ w5 ⟨rfl,hb5⟩
     have h2':=h2.below hb5
     have h4':=h4.below hb5
     have hb':=aa hb hb5 hb.size
     unfold Oj
     by_cases hd:1 <=(gw u).length/\(gw u).length <=2
     · rw[if_pos (by omega)]
       rw[if_pos hd]at hst
       refine⟨_,_,_,rfl,ab.no rfl ?_⟩
       refine⟨⟨⟨by omega,by omega⟩,rfl⟩,?_⟩
       rw[j2,Nat.zero_add,Nat.mul_one,Int.toNat_natCast]
       obtain⟨w6,hs6,h6,hg6⟩:=h4'.store (P:=prog) (n:=1) (bytes:=8) (z:=vI 0) ik (i:=k) (v:=vI (ez (gw u))) rfl (by simp[Ae,hlen];omega) (A4 _)
       refine⟨w6,hs6,3-(k+1),by omega,k+1,out.set k (ez (gw u)),by omega,?_,rfl,by simpa using hlen,by simp;omega,?_,h2'.grown hg6 (λe=>hne (Option.some.inj e)),?_,hb'.grown hg6 hb'.size (λx e=>by cases e;exact hge4)⟩
       · rw[wrap_i64 (by omega) (by omega)];omega
       · rw[hv,hst]
         have e1:(out.set k (ez (gw u))).take (k+1)=out.take k++[ez (gw u)]:=by
           rw[List.take_succ_eq_append_getElem (by simp;omega),List.getElem_set_self,List.take_set_of_le (Nat.le_refl _)]
         rw[e1]
         show((du (3-(k+1)) (k+1) (u.drop (gw u).length)).map _).map _=_
         rw[Option.map_map]
         congr 1
         funext x
         simp
       · have e2:Ae (out.set k (ez (gw u)))=(Ae out).take k++[vI (ez (gw u))]++(Ae out).drop (k+1):=by
           unfold Ae
           rw[List.map_set,List.set_eq_take_append_cons_drop,if_pos (by simp;omega)]
           simp
         rw[e2];exact h6
     · rw[if_neg (by omega)]
       rw[if_neg hd]at hst
       refine⟨_,_,_,rfl,ab.yes rfl ?_⟩
       exact bad hst h2' h4' hb'
 · have:k=3:=by omega
   subst this
   exact G4 (K:=zX s w) (bo:=true) h2 h4 hlen rfl hb hge2 (λa b c wx e hbx=>⟨⟨a,b,c,true,rfl,.inr ⟨by rw[hv,e];rfl,rfl⟩⟩,hbx⟩)
structure Fnd where
 time:Bool
 day:Bool
 month:Bool
 year:Bool
 s0:Int
 s1:Int
 s2:Int
 y:Int
 m:Int
 d:Int
def Fnd.cells (f:Fnd):List Value:=[.bool f.time,.bool f.day,.bool f.month,.bool f.year,vI f.s0,vI f.s1,vI f.s2,vI f.y,vI f.m,vI f.d]
def iD (s:List UInt8)(least most:Int):Bool:=decide (least <=((gw s).length:Int)/\((gw s).length:Int) <=most)
def zA (f:Fnd)(s:List UInt8):Fnd:=
 match iI s,f.time with
 | some [a,b,c],false=> { f with s0:=a,s1:=b,s2:=c,time:=true }
 | _,_=>if iD s 1 2=true/\f.day=false then{ f with d:=ez (gw s),day:=true }
   else if 0<ke s/\f.month=false then{ f with m:=ke s,month:=true }
   else if iD s 2 4=true/\f.year=false then{ f with y:=ez (gw s),year:=true } else f
theorem LJ (w:World)(r:Option Nat):w.grownBy w r:=⟨rfl,rfl,rfl,Nat.le_refl _,λ_ _ _=>rfl⟩
theorem bL {a b c:World}{r:Option Nat}(h:a.grownBy b r)(k:b.grownBy c r):a.grownBy c r:=
 ⟨k.os.trans h.os,k.tape.trans h.tape,k.output.trans h.output,Nat.le_trans h.size k.size,λq hq hne=>(k.block q (Nat.lt_of_lt_of_le hq h.size) hne).trans (h.block q hq hne)⟩
theorem dz {a b:World}(h:bW a b)(r:Option Nat):a.grownBy b r:=⟨h.os,h.tape,h.output,h.size,λq hq _=>h.block q hq⟩
theorem z6 (k o:Nat):Option.map (fun(x:Addr)=>x.add o) (some ⟨k,0,none⟩)=some ⟨k,o,none⟩:=by
 simp[iT]
theorem zB (b:Bool):∀c∈(Value.bool b).cells.toList,c.oneCell'=true:=by
 intro c hc
 have:c=.bool b:=by simpa[Value.cells]using hc
 subst this;rfl
def Sm (k:Nat)(f:Fnd)(s:List UInt8)(w:World)(v:Value)(w':World):Prop:=v=.tuple #[]/\ao w' k dq (zA f s).cells/\w.grownBy w' (some k)
theorem Ok {s:List UInt8}{l m:Int}(h:iD s l m=true):Oj s l m=.tuple #[vI (ez (gw s)),vS (s.drop (gw s).length),.bool true]:=by
 unfold iD at h;unfold Oj;rw[if_pos (by simpa using h)]
theorem KR {s:List UInt8}{l m:Int}(h:iD s l m=false):Oj s l m=.tuple #[vI 0,vS s,.bool false]:=by
 unfold iD at h;unfold Oj;rw[if_neg (by simpa using h)]
theorem Ik {f:Fnd}{s:List UInt8}{a b c:Int}(h:iI s=some [a,b,c])(ht:f.time=false):zA f s= { f with s0:=a,s1:=b,s2:=c,time:=true } :=by
 unfold zA;rw[h,ht]
theorem Pi {f:Fnd}{s:List UInt8}(h:iI s=none\/f.time=true):zA f s=if iD s 1 2=true/\f.day=false then{ f with d:=ez (gw s),day:=true }
   else if 0<ke s/\f.month=false then{ f with m:=ke s,month:=true }
   else if iD s 2 4=true/\f.year=false then{ f with y:=ez (gw s),year:=true } else f:=by
 unfold zA
 rcases h with h|h
 · rw[h]
 · rw[h]
   split
   · rename_i h1 h2;cases h2
   · rfl
theorem Fi (k:Nat)(f:Fnd)(s:List UInt8)(hs:s.length <=9223372036854775000)(w:World)(hf:ao w k dq f.cells):
   Cf iW #[.pointer (some ⟨k,0,none⟩),vS s] w (Ret (Sm k f s w)):=by
 apply sn
 simp only[z6]
 have h0:Option.isSome (some (⟨k,0,none⟩:Addr))=true:=rfl
 obtain⟨ti,hti,hsz,_,_⟩:=mf.info
 refine⟨λw'=>w.grownBy w' (some k)/\ao w' k dq f.cells/\(iI s=none\/f.time=true),?_,?_⟩
 · refine aw (Ff s hs w) ?_
   rintro _ w1 ⟨⟨a,b,c,bo,rfl,hcl⟩,hb1⟩
   refine⟨a,b,c,bo,rfl,?_⟩
   intro k4 w4 hk4 hw4
   have hB4:bW w w4:=aa hb1 (hw4▸ai _ _) hb1.size
   have h4:ao w4 k4 bl (Ae [0,0,0]):=ao.new hk4 hw4
   have hlt:=hf.lt
   have hne:k4≠k:=by have:=hb1.size;omega
   obtain⟨w5,hs5,h5,hg5⟩:=h4.store (P:=prog) mf (i:=0) (v:=.agg #[vI a,vI b,vI c]) rfl (by simp[Ae]) (E9 [a,b,c])
   have hB5:bW w w5:=hB4.grown hg5 hB4.size (λx e=>by cases e;have:=hb1.size;omega)
   have hf5:=hf.below hB5
   have h5':ao w5 k4 bl (Ae [a,b,c]):=by simpa[Ae,Value.cells]using h5
   refine⟨w5,hs5,λb' w'=>w'=w5/\b'=(bo && !f.time),?_,?_⟩
   · refine ab.of (λh=>?_) (λh=>?_)
     · refine⟨h0,h0,f.time,hf5.load1 ci rfl rfl,rfl,by rw[h];rfl⟩
     · exact⟨rfl,by rw[h];rfl⟩
   · intro b'
     refine aJ.of ?_ _
     rintro w5 ⟨rfl,rfl⟩
     refine ab.of (λh=>?_) (λh=>?_)
     · rw[Bool.and_eq_true,Bool.not_eq_true']at h
       have hcl':iI s=some [a,b,c]:=by
         rcases hcl with⟨_,e⟩|⟨e,_⟩
         · rw[e]at h;cases h.1
         · exact e
       refine⟨a,b,c,h5'.loadA uM rfl hti (us:=Ae [a,b,c]) (i:=0) (by rw[hsz];rfl) (λj hj=>by rw[Nat.zero_add]),h0,h0,?_⟩
       obtain⟨w6,hs6,h6,hg6⟩:=hf5.store (P:=prog) mf (i:=4) (v:=.agg #[vI a,vI b,vI c]) rfl (by simp[Fnd.cells]) (E9 [a,b,c])
       refine⟨w6,hs6,h0,h0,?_⟩
       obtain⟨w7,hs7,h7,hg7⟩:=h6.store (P:=prog) nu (i:=0) (v:=.bool true) rfl (by simp[Fnd.cells,Value.cells]) (zB true)
       refine⟨w7,hs7,rfl,?_,bL (bL (dz hB5 _) hg6) hg7⟩
       rw[Ik hcl' h.2]
       simpa[Fnd.cells,Value.cells]using h7
     · refine⟨dz hB5 _,hf5,?_⟩
       rcases hcl with⟨e,_⟩|⟨_,e⟩
       · exact .inl e
       · rw[e]at h;right;simpa using h
 · refine aJ.of ?_ _
   rintro w1 ⟨hg1,hf1,hr1⟩
   have htok:=Pi hr1
   refine⟨λw'=>w.grownBy w' (some k)/\ao w' k dq f.cells/\ ¬ (iD s 1 2=true/\f.day=false),?_,?_⟩
   · refine aw (mU s 1 2 (by omega) (by omega) (by omega) w1) ?_
     rintro _ w2 ⟨rfl,hb2⟩
     have hf2:=hf1.below hb2
     have hg2:=bL hg1 (dz hb2 (some k))
     have hnum:∃(n:Int) (r:List UInt8),Oj s 1 2=.tuple #[vI n,vS r,.bool (iD s 1 2)]/\(iD s 1 2=true->n=ez (gw s)):=by
       cases hn:iD s 1 2
       · exact⟨_,_,KR hn,λe=>by cases e⟩
       · exact⟨_,_,Ok hn,λ_=>rfl⟩
     obtain⟨n,r,hne,hnv⟩:=hnum
     refine⟨n,r,iD s 1 2,by rw[hne],λb' w'=>w'=w2/\b'=(iD s 1 2 && !f.day),?_,?_⟩
     · refine ab.of (λh=>?_) (λh=>?_)
       · exact⟨h0,h0,f.day,hf2.load1 ci rfl rfl,rfl,by rw[h];rfl⟩
       · exact⟨rfl,by rw[h];rfl⟩
     · intro b'
       refine aJ.of ?_ _
       rintro w2 ⟨rfl,rfl⟩
       refine ab.of (λh=>?_) (λh=>?_)
       · rw[Bool.and_eq_true,Bool.not_eq_true']at h
         refine⟨h0,h0,?_⟩
         obtain⟨w6,hs6,h6,hg6⟩:=hf2.store (P:=prog) ik (i:=9) (v:=vI n) rfl (by simp[Fnd.cells]) (A4 n)
         refine⟨w6,hs6,h0,h0,?_⟩
         obtain⟨w7,hs7,h7,hg7⟩:=h6.store (P:=prog) nu (i:=1) (v:=.bool true) rfl (by simp[Fnd.cells,Value.cells]) (zB true)
         refine⟨w7,hs7,rfl,?_,bL (bL hg2 hg6) hg7⟩
         rw[htok,if_pos h,<- hnv h.1]
         simpa[Fnd.cells,Value.cells]using h7
       · refine⟨hg2,hf2,λhc=>?_⟩
         rw[hc.1,hc.2]at h;cases h
   · refine aJ.of ?_ _
     rintro w2 ⟨hg2,hf2,hr2⟩
     rw[if_neg hr2]at htok
     refine⟨λw'=>w.grownBy w' (some k)/\ao w' k dq f.cells/\ ¬ (0<ke s/\f.month=false),?_,?_⟩
     · refine aw (Fg s (by omega) w2) ?_
       rintro _ w3 ⟨rfl,hb3⟩
       have hf3:=hf2.below hb3
       have hg3:=bL hg2 (dz hb3 (some k))
       refine⟨_,rfl,λb' w'=>w'=w3/\b'=(decide (0<ke s) && !f.month),?_,?_⟩
       · refine ab.of (λh=>?_) (λh=>?_)
         · exact⟨h0,h0,f.month,hf3.load1 ci rfl rfl,rfl,by rw[show decide (0<ke s)=true from h];rfl⟩
         · exact⟨rfl,by rw[show decide (0<ke s)=false from h];rfl⟩
       · intro b'
         refine aJ.of ?_ _
         rintro w3 ⟨rfl,rfl⟩
         refine ab.of (λh=>?_) (λh=>?_)
         · rw[Bool.and_eq_true,Bool.not_eq_true',dTx]at h
           refine⟨h0,h0,?_⟩
           obtain⟨w6,hs6,h6,hg6⟩:=hf3.store (P:=prog) ik (i:=8) (v:=vI (ke s)) rfl (by simp[Fnd.cells]) (A4 _)
           refine⟨w6,hs6,h0,h0,?_⟩
           obtain⟨w7,hs7,h7,hg7⟩:=h6.store (P:=prog) nu (i:=2) (v:=.bool true) rfl (by simp[Fnd.cells,Value.cells]) (zB true)
           refine⟨w7,hs7,rfl,?_,bL (bL hg3 hg6) hg7⟩
           rw[htok,if_pos h]
           simpa[Fnd.cells,Value.cells]using h7
         · refine⟨hg3,hf3,λhc=>?_⟩
           rw[decide_eq_true hc.1,hc.2]at h;cases h
     · refine aJ.of ?_ _
       rintro w3 ⟨hg3,hf3,hr3⟩
       rw[if_neg hr3]at htok
       refine aw (mU s 2 4 (by omega) (by omega) (by omega) w3) ?_
       rintro _ w4 ⟨rfl,hb4⟩
       have hf4:=hf3.below hb4
       have hg4:=bL hg3 (dz hb4 (some k))
       have hnum:∃(n:Int) (r:List UInt8),Oj s 2 4=.tuple #[vI n,vS r,.bool (iD s 2 4)]/\(iD s 2 4=true->n=ez (gw s)):=by
         cases hn:iD s 2 4
         · exact⟨_,_,KR hn,λe=>by cases e⟩
         · exact⟨_,_,Ok hn,λ_=>rfl⟩
       obtain⟨n,r,hne,hnv⟩:=hnum
       refine⟨n,r,iD s 2 4,by rw[hne],λb' w'=>w'=w4/\b'=(iD s 2 4 && !f.year),?_,?_⟩
       · refine ab.of (λh=>?_) (λh=>?_)
         · exact⟨h0,h0,f.year,hf4.load1 ci rfl rfl,rfl,by rw[h];rfl⟩
         · exact⟨rfl,by rw[h];rfl⟩
       · intro b'
         refine aJ.of ?_ _
         rintro w4 ⟨rfl,rfl⟩
         refine ab.of (λh=>?_) (λh=>?_)
         · rw[Bool.and_eq_true,Bool.not_eq_true']at h
           refine⟨h0,h0,?_⟩
           obtain⟨w6,hs6,h6,hg6⟩:=hf4.store (P:=prog) ik (i:=7) (v:=vI n) rfl (by simp[Fnd.cells]) (A4 n)
           refine⟨w6,hs6,h0,h0,?_⟩
           obtain⟨w7,hs7,h7,hg7⟩:=h6.store (P:=prog) nu (i:=3) (v:=.bool true) rfl (by simp[Fnd.cells,Value.cells]) (zB true)
           refine⟨w7,hs7,rfl,?_,bL (bL hg4 hg6) hg7⟩
           rw[htok,if_pos h,<- hnv h.1]
           simpa[Fnd.cells,Value.cells]using h7
         · refine⟨rfl,?_,hg4⟩
           rw[htok,if_neg (λhc=>by rw[hc.1,hc.2]at h;cases h)]
           exact hf4
def jf (c:UInt8):Bool:=decide (Ev (c.toNat:Int))
def G9:List UInt8->List UInt8->List (List UInt8)
 | cur,[]=>[cur]
 | cur,c::r=>if jf c then cur::G9 [] r else G9 (cur++[c]) r
def SY:Fnd:=⟨false,false,false,false,0,0,0,0,0,0⟩
def nv (s:List UInt8):Fnd:=(G9 [] s).foldl zA SY
def lH (y:Int):Int:=if 70 <=y/\y <=99 then y+1900 else if y<70 then y+2000 else y
def xi (f:Fnd):Prop:=dP (lH f.y) f.m f.d/\f.time=true/\f.year=true/\f.s0 <=23/\f.s1 <=59/\f.s2 <=59
instance  (f:Fnd):Decidable (xi f):=by unfold xi;infer_instance
def iw (f:Fnd):Int:=dv (lH f.y) f.m f.d*86400+f.s0*3600+f.s1*60+f.s2
def G6 (f:Fnd):Value:=if xi f then .tuple #[vI (iw f),.bool true]else .tuple #[vI 0,.bool false]
structure EO (f:Fnd):Prop where
 s0:0 <=f.s0/\f.s0 <=99
 s1:0 <=f.s1/\f.s1 <=99
 s2:0 <=f.s2/\f.s2 <=99
 y:0 <=f.y/\f.y <=9999
 d:0 <=f.d/\f.d <=99
 m:0 <=f.m/\f.m <=12
 m0:f.month=false ↔ f.m=0
 d0:f.day=false->f.d=0
 y0:f.year=false->f.y=0
theorem jt:∀(l:List UInt8) (acc:Int),0 <=acc->(∀c∈l,eA c=true)->0 <=l.foldl (λn c=>n*10+((c.toNat:Int)-48)) acc/\l.foldl (λn c=>n*10+((c.toNat:Int)-48)) acc<(acc+1)*10 ^ l.length
 | [],acc,h,_=>by simp;omega
 | c::l,acc,h,hd=>by
   have hc:=jT.1 (hd c List.mem_cons_self)
   obtain⟨h1,h2⟩:=jt l (acc*10+((c.toNat:Int)-48)) (by omega) λx hx=>hd x (List.mem_cons_of_mem _ hx)
   rw[List.foldl_cons]
   refine⟨h1,Int.lt_of_lt_of_le h2 ?_⟩
   rw[List.length_cons,Int.pow_succ,Int.mul_comm (10 ^ l.length) 10,<- Int.mul_assoc]
   exact Int.mul_le_mul_of_nonneg_right (by omega) (Int.pow_nonneg (by decide))
theorem zZa {a b:Nat}(h:a <=b):(10:Int) ^ a <=10 ^ b:=by
 have:=Nat.pow_le_pow_right (n:=10) (by decide) h
 have e:∀k:Nat,((10 ^ k:Nat):Int)=10 ^ k:=λk=>by simp
 rw[<- e,<- e];omega
theorem I2 {s:List UInt8}(k:Nat)(h:(gw s).length <=k):0 <=ez (gw s)/\ez (gw s)<10 ^ k:=by
 obtain⟨h1,h2⟩:=jt (gw s) 0 (by decide) Kr
 refine⟨h1,Int.lt_of_lt_of_le h2 ?_⟩
 rw[Int.zero_add,Int.one_mul]
 exact zZa h
theorem qm:∀(f i:Nat) (s:List UInt8) (l:List Int),du f i s=some l->l.length=f/\∀x∈l,0 <=x/\x <=99
 | 0,i,s,l,h=>by simp[du]at h;subst h;simp
 | f+1,i,s,l,h=>by
   unfold du at h
   cases hs:zw i s with
   | none=>rw[hs]at h;cases h
   | some p=>
     rw[hs]at h
     simp only[Option.bind_some]at h
     cases hr:du f (i+1) p.2 with
     | none=>rw[hr]at h;cases h
     | some r=>
       rw[hr]at h
       simp only[Option.map_some,Option.some.injEq]at h
       subst h
       obtain⟨h1,h2⟩:=qm f (i+1) p.2 r hr
       refine⟨by simp[h1],λx hx=>?_⟩
       rcases List.mem_cons.1 hx with rfl|hx
       · unfold zw at hs
         cases hc:Aq i s with
         | none=>rw[hc]at hs;cases hs
         | some t=>
           rw[hc]at hs
           simp only[Option.bind_some]at hs
           split at hs
           · rename_i hd
             simp only[Option.some.injEq]at hs
             subst hs
             have:=I2 2 hd.2
             simp only;omega
           · cases hs
       · exact h2 x hx
theorem yj (s:List UInt8):∀(f k:Nat),0 <=ig s f k/\ig s f k <=(k:Int)+f
 | 0,k=>by simp[ig]
 | f+1,k=>by
   unfold ig
   have:=yj s f (k+1)
   split <;> omega
theorem lu (f:Fnd)(s:List UInt8):(∃a b c,iI s=some [a,b,c]/\f.time=false/\zA f s= { f with s0:=a,s1:=b,s2:=c,time:=true })\/
   (iI s=none\/f.time=true)/\zA f s=if iD s 1 2=true/\f.day=false then{ f with d:=ez (gw s),day:=true }
   else if 0<ke s/\f.month=false then{ f with m:=ke s,month:=true }
   else if iD s 2 4=true/\f.year=false then{ f with y:=ez (gw s),year:=true } else f:=by
 cases hc:iI s with
 | none=>right;refine⟨.inl rfl,?_⟩;unfold zA;rw[hc]
 | some l=>
   obtain⟨hl,_⟩:=qm 3 0 s l hc
   match l,hl with
   | [a,b,c],_=>
     cases ht:f.time with
     | false=>left;refine⟨a,b,c,rfl,rfl,?_⟩;unfold zA;rw[hc,ht]
     | true=>
       right;refine⟨.inr rfl,?_⟩;unfold zA;rw[hc,ht]
theorem Ph {f:Fnd}(h:EO f)(s:List UInt8):EO (zA f s):=by
 rcases lu f s with⟨a,b,c,hc,ht,e⟩|⟨_,e⟩
 · rw[e]
   obtain⟨_,hr⟩:=qm 3 0 s _ hc
   exact⟨hr a (by simp),hr b (by simp),hr c (by simp),h.y,h.d,h.m,h.m0,h.d0,h.y0⟩
 · rw[e]
   split
   · rename_i h1
     have hn:(gw s).length <=2:=by have:=h1.1;unfold iD at this;simp at this;omega
     have:=I2 2 hn
     exact⟨h.s0,h.s1,h.s2,h.y,⟨this.1,by simp only;omega⟩,h.m,h.m0,(λe=>by cases e),h.y0⟩
   · split
     · rename_i h1
       have:=yj s 12 0
       have h2:=h1.1
       unfold ke at h2 ⊢
       refine⟨h.s0,h.s1,h.s2,h.y,h.d,⟨by simp only;omega,by simp only;omega⟩,⟨(λe=>by cases e),λe=>?_⟩,h.d0,h.y0⟩
       simp only at e;omega
     · split
       · rename_i h1
         have hn:(gw s).length <=4:=by have:=h1.1;unfold iD at this;simp at this;omega
         have:=I2 4 hn
         exact⟨h.s0,h.s1,h.s2,⟨this.1,by simp only;omega⟩,h.d,h.m,h.m0,h.d0,λe=>by cases e⟩
       · exact h
theorem Ny:EO SY:=⟨by decide,by decide,by decide,by decide,by decide,by decide,by decide,by decide,by decide⟩
theorem Po:∀(l:List (List UInt8)) {f:Fnd},EO f->EO (l.foldl zA f)
 | [],f,h=>h
 | s::l,f,h=>Po l (Ph h s)
theorem Lb (f:Fnd):zA f []=f:=by
 rcases lu f []with⟨a,b,c,hc,_⟩|⟨_,e⟩
 · have:iI []=none:=by decide
   rw[this]at hc;cases hc
 · rw[e,if_neg (λh=>by have:iD [] 1 2=false:=(by decide);rw[this]at h;cases h.1),
     if_neg (λh=>by have:ke []=0:=(by decide);rw[this]at h;exact absurd h.1 (by decide)),
     if_neg (λh=>by have:iD [] 2 4=false:=(by decide);rw[this]at h;cases h.1)]
theorem MZ {f:Fnd}(h:dP (lH f.y) f.m f.d): -134774 <=dv (lH f.y) f.m f.d/\dv (lH f.y) f.m f.d <=2932896:=by
 have hh:=Km h
 obtain⟨h1,h2,h3,h4,h5,h6⟩:=h
 have e1:=oy (a:=1601) (b:=lH f.y) (by omega) h1
 have e2:=oy (a:=lH f.y+1) (b:=10000) (by omega) (by omega)
 have e3:dY 1601=584388:=by decide
 have e4:dY 10000=3652059:=by decide
 omega
theorem RQ {n:Int}(h1: -134774 <=n)(h2:n <=2932896):∃y m d,dP y m d/\dv y m d=n:=by
 have h:=Fc h1 h2 _ _ _ _ _ _ rfl rfl rfl rfl rfl rfl
 exact⟨_,_,_,h.2.2.2.2.2.2.2.2.2.2.2.2⟩
def LH (n:Int):UInt8:=UInt8.ofNat (48+n.toNat%10)
def iH (n:Int):List UInt8:=[LH (n/10),LH n]
def VK:List (List UInt8):=[[84,104,117],[70,114,105],[83,97,116],[83,117,110],[77,111,110],[84,117,101],[87,101,100]]
def Vy:List (List UInt8):=[[74,97,110],[70,101,98],[77,97,114],[65,112,114],[77,97,121],[74,117,110],[74,117,108],[65,117,103],[83,101,112],[79,99,116],[78,111,118],[68,101,99]]
def Cy (k:Int):List UInt8:=VK[k.toNat]?.getD []
def Jy (m:Int):List UInt8:=Vy[(m-1).toNat]?.getD []
def pF (s:Int):List UInt8:=iH (s/3600)++[58]++iH (s/60%60)++[58]++iH (s%60)
def DT (n y m d s:Int):List UInt8:=Cy (n%7)++[44,32]++iH d++[32]++Jy m++[32]++(iH (y/100)++iH (y%100))++[32]++pF s++[32,71,77,84]
open Classical in
noncomputable def mc (t:Int):List UInt8:=if h:∃p:Int×Int×Int,dP p.1 p.2.1 p.2.2/\dv p.1 p.2.1 p.2.2=t/86400 then
 DT (t/86400) (Classical.choose h).1 (Classical.choose h).2.1 (Classical.choose h).2.2 (t%86400)else[]
theorem Gw {t y m d:Int}(h:dP y m d)(e:dv y m d=t/86400):mc t=DT (t/86400) y m d (t%86400):=by
 have hex:∃p:Int×Int×Int,dP p.1 p.2.1 p.2.2/\dv p.1 p.2.1 p.2.2=t/86400:=⟨(y,m,d),h,e⟩
 unfold mc
 rw[dif_pos hex]
 obtain⟨h1,h2⟩:=Classical.choose_spec hex
 obtain⟨e1,e2,e3⟩:=Kn h1 h (h2.trans e.symm)
 rw[e1,e2,e3]
theorem EH {t:Int}(h:t/86400 < -134774\/2932896<t/86400):mc t=[]:=by
 unfold mc
 rw[dif_neg]
 rintro⟨p,h1,h2⟩
 have:=Aw h1
 omega
theorem Hs:∀n,n<100->10 <=n->Lib.decDigits n=iH (n:Int):=by decide+kernel
theorem NX:∀n,n<10->(48:UInt8)::Lib.decDigits n=iH (n:Int):=by decide+kernel
theorem Qd:∀n,n<10->(Lib.decDigits n).length=1:=by decide+kernel
theorem Kq (u:Nat)(h:10 <=u):Lib.decDigits u=Lib.decDigits (u/10)++[UInt8.ofNat (48+u%10)]:=by
 rw[Lib.decDigits,dif_neg (by omega)]
theorem Vv {y:Int}(h1:1000 <=y)(h2:y <=9999):Lib.itoa y=iH (y/100)++iH (y%100):=by
 obtain⟨n,rfl⟩:∃n:Nat,y=(n:Int):=⟨y.toNat,by omega⟩
 rw[Lib.itoa_nonneg,Kq n (by omega),Kq (n/10) (by omega),show n/10/10=n/100 by omega,Hs (n/100) (by omega) (by omega)]
 unfold iH LH
 rw[show(((n/100:Nat):Int))=(n:Int)/100 by omega]
 have e1:((n:Int)%100/10).toNat%10=n/10%10:=by omega
 have e2:((n:Int)%100).toNat%10=n%10:=by omega
 rw[e1,e2];rfl
theorem gW (n:Int):(iH n).length=2:=rfl
theorem qo (n:Int):eA (LH n)=true/\((LH n).toNat:Int)=48+n.toNat%10:=by
 have h:(LH n).toNat=48+n.toNat%10:=by
   unfold LH;rw[UInt8.toNat_ofNat'];omega
 exact⟨jT.2 (by omega),by omega⟩
theorem Rd {P:Program}{name:String}{k:IntKind}{zs:List Int}{w w':World}(h:Lib.TabIs P w name k zs)(hb:∀b,b<w.heap.size->P.globalNamed name=some b->w'.heap[b]? =w.heap[b]?):Lib.TabIs P w' name k zs:=by
 unfold Lib.TabIs World.var? at h ⊢
 cases hg:P.globalNamed name with
 | none=>rw[hg]at h;cases h
 | some g=>
   rw[hg]at h
   simp only[Option.bind_some]at h ⊢
   have hlt:g<w.heap.size:=by
     cases hh:w.heap[g]? with
     | none=>rw[hh]at h;cases h
     | some o=>exact(Array.getElem?_eq_some_iff.1 hh).1
   rw[hb g hlt hg];exact h
theorem K7 {P:Program}{name:String}{k:IntKind}{zs:List Int}{w w':World}(h:Lib.TabIs P w name k zs)(hb:bW w w'):Lib.TabIs P w' name k zs:=
 Rd h λb hlt _=>hb.block b hlt
theorem M8 (l:List UInt8)(c:UInt8):ez (l++[c])=ez l*10+((c.toNat:Int)-48):=by unfold ez;rw[List.foldl_append];rfl
def TD (u:List UInt8):Option (Int×List UInt8):=if 1 <=(gw u).length/\(gw u).length <=2 then some (ez (gw u),u.drop (gw u).length)else none
def G3 (f i:Nat)(u:List UInt8):Option (List Int):=(TD u).bind λp=>(du f (i+1) p.2).map (p.1:: ·)
theorem CK (f i:Nat)(s:List UInt8):du (f+1) i s=(Aq i s).bind (G3 f i):=by
 show(zw i s).bind _=_
 unfold zw G3
 cases Aq i s <;> rfl
theorem LD:∀(s cur:List UInt8) (k:Nat) (h:k<s.length),G9 cur (s.drop k)=if jf s[k]then cur::G9 [] (s.drop (k+1))else G9 (cur++[s[k]]) (s.drop (k+1)):=λs cur k h=>by
 rw[List.drop_eq_getElem_cons h];rfl
theorem QY {s:List UInt8}{k:Nat}(h:k<s.length):decide (Ev (bf s (k:Int)))=jf s[k]:=by
 unfold jf;rw[lm (i:=(k:Int)) (by simpa using h)];simp only[Int.toNat_natCast]
theorem Qq (f:Fnd):f.cells[7]? =some (vI f.y):=rfl
theorem CL (s:List UInt8)(hs:s.length <=10000000)(w:World):Cf oC #[vS s] w (Ret λv w'=>v=G6 (nv s)/\bW w w'):=by
 apply Bc
 intro k4 w4 hk4 hw4
 have hB4:bW w w4:=hw4▸ai _ _
 have hf4:ao w4 k4 dq SY.cells:=ao.new hk4 hw4
 have htr:true=true:=rfl
 have hk4w:∀x,some k4=some x->w.heap.size <=x:=λx e=>by cases e;omega
 refine⟨λm fr i w'=>∃(k j:Nat) (f:Fnd),k <=s.length+1/\i=(k:Int)/\fr=(j:Int)/\j <=k/\m=s.length+1-k/\EO f/\
     nv s=(if k <=s.length then(G9 ((s.take k).drop j) (s.drop k)).foldl zA f else f)/\ao w' k4 dq f.cells/\bW w w',
   ⟨_,0,0,SY,by omega,rfl,rfl,Nat.le_refl _,rfl,Ny,by rw[if_pos (Nat.zero_le _)];rfl,hf4,hB4⟩,?_⟩
 intro m fr i
 refine aJ.of ?_ _
 rintro w1 ⟨k,j,f,hk,rfl,rfl,hj,rfl,hok,htold,hf1,hb1⟩
 have ew:k <=s.length->i64.wrap ((k:Int)+1)=((k+1:Nat):Int):=λhle=>by rw[wrap_i64 (by omega) (by omega)];omega
 refine ab.of (λh=>?_) (λh=>?_) <;> simp only[dTx,dFx]at h
 · have hle:k <=s.length:=by omega
   rw[if_pos hle]at htold
   rw[ew hle]
   refine iU (w:=w1) (decide (k=s.length\/∃h:k<s.length,jf s[k]=true)) ?_ ?_
   · refine ab.of (λh2=>?_) (λh2=>?_)
     · rw[beq_iff_eq]at h2
       exact⟨rfl,(decide_eq_true (.inl (by omega))).symm⟩
     · rw[beq_eq_false_iff_ne]at h2
       have hlt:k<s.length:=by omega
       refine⟨⟨by omega,by omega⟩,?_⟩
       refine aw (Fh _ w1) ?_
       rintro _ w1 ⟨rfl,rfl⟩
       refine⟨_,rfl,rfl,?_⟩
       rw[QY hlt]
       cases hp:jf s[k]
       · exact(decide_eq_false (by rintro(e|⟨_,e⟩) <;> first|omega|(rw[hp]at e;cases e))).symm
       · exact(decide_eq_true (.inr ⟨hlt,hp⟩)).symm
   · have hcut:(G9 ((s.take k).drop j) (s.drop k))=if(k=s.length\/∃h:k<s.length,jf s[k]=true)then(s.take k).drop j::(if k<s.length then G9 [] (s.drop (k+1))else[])else G9 ((s.take (k+1)).drop j) (s.drop (k+1)):=by
       by_cases hlt:k<s.length
       · rw[LD s _ k hlt]
         cases hp:jf s[k]
         · rw[if_neg (by decide),if_neg (by rintro(e|⟨_,e⟩) <;> first|omega|(rw[hp]at e;cases e))]
           rw[List.take_succ_eq_append_getElem hlt,List.drop_append_of_le_length (by rw[List.length_take];omega)]
         · rw[if_pos rfl,if_pos (.inr ⟨hlt,hp⟩),if_pos hlt]
       · have:k=s.length:=by omega
         subst this
         rw[if_pos (.inl rfl),if_neg hlt]
         simp[G9]
     refine ab.of (λh2=>?_) (λh2=>?_) <;> simp only[dTx,dFx]at h2
     · rw[if_pos h2]at hcut
       rw[hcut,List.foldl_cons]at htold
       have fin:∀{f':Fnd} {w':World},f'=zA f ((s.take k).drop j)->ao w' k4 dq f'.cells->bW w w'->
           ∃q:Nat,q<s.length+1-k/\∃(k2 j:Nat) (f:Fnd),k2 <=s.length+1/\((k+1:Nat):Int)=(k2:Int)/\((k+1:Nat):Int)=(j:Int)/\j <=k2/\q=s.length+1-k2/\EO f/\
             nv s=(if k2 <=s.length then(G9 ((s.take k2).drop j) (s.drop k2)).foldl zA f else f)/\ao w' k4 dq f.cells/\bW w w':=by
         rintro f' w' rfl ha hb'
         refine⟨s.length+1-(k+1),by omega,k+1,k+1,_,by omega,rfl,rfl,Nat.le_refl _,rfl,Ph hok _,?_,ha,hb'⟩
         rw[htold]
         by_cases hlt:k<s.length
         · rw[if_pos hlt,if_pos (show k+1 <=s.length from hlt)]
           congr 2
           rw[List.drop_eq_nil_of_le (by rw[List.length_take];omega)]
         · rw[if_neg hlt,if_neg (by omega)];rfl
       refine ab.of (λh3=>?_) (λh3=>?_) <;> simp only[gt_iff_lt,dTx,dFx]at h3
       · refine⟨⟨⟨by omega,by omega⟩,by omega,by omega⟩,?_⟩
         rintro _ rfl
         simp only[Int.toNat_natCast]
         refine aw (Fi k4 f _ (by simp;omega) w1 hf1) ?_
         rintro _ w5 ⟨rfl,hf5,hg5⟩
         exact⟨rfl,fin rfl hf5 (hb1.grown hg5 hb1.size hk4w)⟩
       · refine fin ?_ hf1 hb1
         have:(s.take k).drop j=[]:=List.drop_eq_nil_of_le (by rw[List.length_take];omega)
         rw[this,Lb]
     · rw[if_neg h2]at hcut
       have hlt:k<s.length:=by
         by_cases e:k=s.length
         · exact absurd (.inl e) h2
         · omega
       refine⟨s.length+1-(k+1),by omega,k+1,j,f,by omega,rfl,rfl,by omega,rfl,hok,?_,hf1,hb1⟩
       rw[if_pos (show k+1 <=s.length from hlt),htold,hcut]
 · rw[if_neg (by omega)]at htold
   subst htold
   generalize nv s=f at*
   have hy:=hok.y
   have l7:=hf1.load1 (P:=prog) (i:=7) bG rfl (Qq f)
   have bad:∀{w':World},¬ xi f->bW w w'->(.tuple #[vI 0,.bool false]:Value)=G6 f/\bW w w':=λhn hb'=>⟨by unfold G6;rw[if_neg hn],hb'⟩
   refine gE (λw'=>ao w' k4 dq ({ f with y:=lH f.y } :Fnd).cells/\bW w w') ?_ ?_
   · refine iU (w:=w1) (decide (70 <=f.y/\f.y <=99)) ?_ ?_
     · refine⟨htr,_,l7,?_⟩
       refine ab.of (λh2=>?_) (λh2=>?_) <;> simp only[ge_iff_le,dTx,dFx]at h2
       · refine⟨htr,_,l7,rfl,?_⟩
         simp[h2]
       · refine⟨rfl,?_⟩
         simp[h2]
     · have st:∀n:Int,n=lH f.y->∃wx:World,(Instr.storeAt bh (.pointer (some ⟨k4,7,none⟩)) (vI n)).run prog w1=.ok () wx/\ao wx k4 dq ({ f with y:=lH f.y } :Fnd).cells/\bW w wx:=by
         rintro _ rfl
         obtain⟨w7,hs7,h7,hg7⟩:=hf1.store (P:=prog) ik (i:=7) (v:=vI (lH f.y)) rfl (by simp[Fnd.cells]) (A4 _)
         exact⟨w7,hs7,by simpa[Fnd.cells,Value.cells]using h7,hb1.grown hg7 hb1.size hk4w⟩
       refine ab.of (λh2=>?_) (λh2=>?_) <;> simp only[dTx,dFx]at h2
       · exact⟨htr,_,l7,htr,st _ (by unfold lH;rw[if_pos h2,wrap_i64 (by omega) (by omega)])⟩
       · refine⟨htr,_,l7,?_⟩
         refine ab.of (λh3=>?_) (λh3=>?_) <;> simp only[dTx,dFx]at h3
         · exact⟨htr,_,l7,htr,st _ (by unfold lH;rw[if_neg h2,if_pos h3,wrap_i64 (by omega) (by omega)])⟩
         · have:lH f.y=f.y:=by unfold lH;rw[if_neg h2,if_neg h3]
           rw[this];exact⟨hf1,hb1⟩
   · rintro w2 ⟨hf2,hb2⟩
     refine⟨htr,_,hf2.load1 bG rfl rfl,htr,_,hf2.load1 bG rfl rfl,htr,_,hf2.load1 bG rfl rfl,?_⟩
     have hd9:=hok.d
     refine aw (qn _ _ _ (by simp only;omega) w2) ?_
     rintro _ w3 ⟨rfl,hb3⟩
     refine⟨_,_,rfl,?_⟩
     have hf3:=hf2.below hb3
     have hb23:=aa hb2 hb3 hb2.size
     have tr3:∀i:Int,0 <=i->i<3->((0 <=i/\i<((3:Nat):Int))/\true=true):=λi h1 h2=>⟨⟨h1,h2⟩,rfl⟩
     have l4:(Instr.loadAt bh (.pointer (aq (some ⟨k4,4,none⟩) (0:Int) 1))).run prog w3=.ok (vI f.s0) w3:=by rw[j2];exact hf3.load1 bG rfl rfl
     have l5:(Instr.loadAt bh (.pointer (aq (some ⟨k4,4,none⟩) (1:Int) 1))).run prog w3=.ok (vI f.s1) w3:=by rw[j2];exact hf3.load1 bG rfl rfl
     have l6:(Instr.loadAt bh (.pointer (aq (some ⟨k4,4,none⟩) (2:Int) 1))).run prog w3=.ok (vI f.s2) w3:=by rw[j2];exact hf3.load1 bG rfl rfl
     refine si (w:=w3) (xi f) ?_ ?_
     · refine ab.of (λh3=>?_) (λh3=>?_) <;> simp only[Bool.not_eq_true',Bool.not_eq_false',dTx,dFx]at h3
       · exact bad (λhc=>h3 hc.1) hb23
       refine⟨htr,_,hf3.load1 ci rfl rfl,?_⟩
       refine ab.of (λh4=>?_) (λh4=>?_) <;> simp only[Bool.not_eq_true',Bool.not_eq_false']at h4
       · exact bad (λhc=>by rw[hc.2.1]at h4;cases h4) hb23
       refine⟨htr,_,hf3.load1 ci rfl rfl,?_⟩
       refine ab.of (λh5=>?_) (λh5=>?_) <;> simp only[Bool.not_eq_true',Bool.not_eq_false']at h5
       · exact bad (λhc=>by rw[hc.2.2.1]at h5;cases h5) hb23
       refine⟨htr,tr3 0 (by decide) (by decide),_,l4,?_⟩
       refine ab.of (λh6=>?_) (λh6=>?_) <;> simp only[gt_iff_lt,dTx,dFx]at h6
       · exact bad (λhc=>by have:=hc.2.2.2.1;omega) hb23
       refine⟨htr,tr3 1 (by decide) (by decide),_,l5,?_⟩
       refine ab.of (λh7=>?_) (λh7=>?_) <;> simp only[gt_iff_lt,dTx,dFx]at h7
       · exact bad (λhc=>by have:=hc.2.2.2.2.1;omega) hb23
       refine⟨htr,tr3 2 (by decide) (by decide),_,l6,?_⟩
       refine ab.of (λh8=>?_) (λh8=>?_) <;> simp only[gt_iff_lt,dTx,dFx]at h8
       · exact bad (λhc=>by have:=hc.2.2.2.2.2;omega) hb23
       exact⟨rfl,h3,h4,h5,by omega,by omega,by omega⟩
     · intro hc
       refine⟨htr,tr3 0 (by decide) (by decide),_,l4,htr,tr3 1 (by decide) (by decide),_,l5,htr,tr3 2 (by decide) (by decide),_,l6,?_,hb23⟩
       have hr:=MZ hc.1
       have h0:=hok.s0;have h1:=hok.s1;have h2:=hok.s2
       unfold G6
       rw[if_pos hc,if_pos hc.1]
       unfold iw
       rw[wrap_i64 (n:=dv (lH f.y) f.m f.d*86400) (by omega) (by omega),wrap_i64 (n:=f.s0*3600) (by omega) (by omega),wrap_i64 (n:=f.s1*60) (by omega) (by omega),wrap_i64 (n:=dv (lH f.y) f.m f.d*86400+f.s0*3600) (by omega) (by omega),
         wrap_i64 (n:=dv (lH f.y) f.m f.d*86400+f.s0*3600+f.s1*60) (by omega) (by omega),wrap_i64 (by omega) (by omega)]
theorem tW (w:World)(k:Nat)(os:Array Obj):bW w (Go.Sort.grow (w.drewN k) os):=by
 refine kO rfl rfl rfl (by simp[Go.Sort.grow,World.drewN]) λj hj=>?_
 show(w.heap++os)[j]? =_
 rw[Array.getElem?_append_left hj]
abbrev GN (P:Program)(w:World):Prop:=Lib.TabIs P w "internal/strconv.uint64pow10" .u64 Lib.pow10Tab
theorem iV (n:Int)(h0:0 <=n)(h1:n<100)(w:World):Cf eE #[vI n,vI 2] w (Ret λv w'=>v=vS (iH n)/\bW w w'):=by
 obtain⟨k,rfl⟩:∃k:Nat,n=(k:Int):=⟨n.toNat,by omega⟩
 apply qR
 refine(Tryz.strconv_Itoa_small k (by omega) w).mono ?_
 rintro _ _ ⟨rfl,rfl⟩
 refine⟨Lib.decDigits k,rfl,?_⟩
 by_cases h:k<10
 · have hl:=Qd k h
   have e1:i64.wrap ((2:Int)-(((Lib.decDigits k).length:Nat):Int))=((1:Nat):Int):=by rw[hl,wrap_i64 (by omega) (by omega)];omega
   try dsimp only
   rw[e1]
   refine(Tryz.strings_Repeat (mkS [48]) 1 _ (by decide) (by decide)).mono ?_
   rintro _ w1 ⟨rfl,hb⟩
   refine⟨[48],rfl,by rw[hl];decide,?_⟩
   rintro _ rfl
   exact⟨by rw[<- NX k h];rfl,hb⟩
 · have e2:=Hs k (by omega) (by omega)
   have hl:(Lib.decDigits k).length=2:=by rw[e2];rfl
   have e1:i64.wrap ((2:Int)-(((Lib.decDigits k).length:Nat):Int))=((0:Nat):Int):=by rw[hl,wrap_i64 (by omega) (by omega)];omega
   try dsimp only
   rw[e1]
   refine(Tryz.strings_Repeat (mkS [48]) 0 _ (by decide) (by decide)).mono ?_
   rintro _ w1 ⟨rfl,hb⟩
   refine⟨[],rfl,by rw[hl];decide,?_⟩
   rintro _ rfl
   exact⟨by rw[<- e2];rfl,hb⟩
theorem Av (n:Int)(h0:1000 <=n)(h1:n <=9999)(w:World)(ht:GN prog w):Cf eE #[vI n,vI 4] w (Ret λv w'=>v=vS (iH (n/100)++iH (n%100))/\bW w w'):=by
 apply qR
 refine(Tryz.strconv_Itoa n (by omega) (by omega) w ht).mono ?_
 rintro _ _ ⟨rfl,k,os,rfl⟩
 have e2:=Vv h0 h1
 refine⟨Lib.itoa n,rfl,?_⟩
 have hl:(Lib.itoa n).length=4:=by rw[e2];rfl
 have e1:i64.wrap ((4:Int)-(((Lib.itoa n).length:Nat):Int))=((0:Nat):Int):=by rw[hl,wrap_i64 (by omega) (by omega)];omega
 try dsimp only
 rw[e1]
 refine(Tryz.strings_Repeat (mkS [48]) 0 _ (by decide) (by decide)).mono ?_
 rintro _ w1 ⟨rfl,hb⟩
 refine⟨[],rfl,by rw[hl];decide,?_⟩
 rintro _ rfl
 have hb0:=tW w k os
 exact⟨by rw[<- e2];rfl,aa hb0 hb hb0.size⟩
theorem Ry:∀k,k<7->(([84,104,117,70,114,105,83,97,116,83,117,110,77,111,110,84,117,101,87,101,100]:List UInt8).take (3*k+3)).drop (3*k)=Cy (k:Int):=by decide
theorem Tr:∀k,k<12->(([74,97,110,70,101,98,77,97,114,65,112,114,77,97,121,74,117,110,74,117,108,65,117,103,83,101,112,79,99,116,78,111,118,68,101,99]:List UInt8).take (3*k+3)).drop (3*k)=Jy ((k:Int)+1):=by decide
theorem Rz:∀k:Nat,k<7->(Cy (k:Int)).length=3:=by decide
theorem Ts:∀k:Nat,k<12->(Jy ((k:Int)+1)).length=3:=by decide
theorem Px {k:Int}(h0:0 <=k)(h1:k<7):(Cy k).length=3:=by
 have:=Rz k.toNat (by omega)
 rwa [show((k.toNat:Nat):Int)=k by omega]at this
theorem QP {k:Int}(h0:1 <=k)(h1:k <=12):(Jy k).length=3:=by
 have:=Ts (k-1).toNat (by omega)
 rwa [show(((k-1).toNat:Nat):Int)+1=k by omega]at this
theorem Hc (t:Int)(h0: -9223372036854775808 <=t)(h1:t <=9223372036854775807)(w:World)(ht:GN prog w):Cf lz #[vI t] w (Ret λv w'=>v=vS (mc t)/\bW w w'):=by
 apply F7
 obtain⟨e1,e2⟩:=Il (t:=t) (b:=86400) (by decide)
 refine⟨by decide,?_⟩
 rintro _ rfl
 refine⟨by decide,?_⟩
 rintro _ rfl
 refine⟨λn s w'=>w'=w/\n=t/86400/\s=t%86400,?_,?_⟩
 · refine ab.of (λh=>?_) (λh=>?_) <;> simp only[dTx,dFx]at h
   · have hneg:t<0:=by
       by_cases c:0 <=t
       · have:=(e1 c).2;omega
       · omega
     obtain⟨e3,e4⟩:=e2 hneg
     rw[e4]at h
     rw[e3,e4,wrap_i64 (n:= -(-t/86400)) (by omega) (by omega),wrap_i64 (by omega) (by omega),wrap_i64 (by omega) (by omega)]
     exact⟨rfl,by omega,by omega⟩
   · by_cases c:0 <=t
     · rw[(e1 c).1,(e1 c).2,wrap_i64 (by omega) (by omega)];exact⟨rfl,rfl,rfl⟩
     · obtain⟨e3,e4⟩:=e2 (by omega)
       rw[e4]at h
       rw[e3,e4,wrap_i64 (by omega) (by omega)];exact⟨rfl,by omega,by omega⟩
 · clear e1 e2
   intro n s
   refine aJ.of ?_ _
   rintro w ⟨rfl,rfl,rfl⟩
   refine aw (Fe _ w (by omega)) ?_
   rintro _ w1 ⟨rfl,hb1⟩
   by_cases hr:t/86400 < -134774\/2932896<t/86400
   · rw[Am hr]
     refine⟨_,_,_,_,rfl,ab.yes rfl ⟨by rw[EH hr],hb1⟩⟩
   obtain⟨y,m,d,hd,he⟩:=RQ (n:=t/86400) (by omega) (by omega)
   rw[Gw hd he,<- he,IW hd,he]
   refine⟨y,m,d,true,rfl,ab.no rfl ?_⟩
   have hdd:=hd
   obtain⟨hy1,hy2,hm1,hm2,hd1,hd2⟩:=hdd
   have hd3:=FG y m
   generalize hn:t/86400=n at*
   generalize hs:t%86400=s at*
   have hs0:0 <=s/\s<86400:=by omega
   clear h0 h1 hn hs he
   obtain⟨e1,e2⟩:=Il (t:=n) (b:=7) (by decide)
   have e7: -7<Int.tmod n 7/\Int.tmod n 7<7/\(Int.tmod n 7+7)%7=n%7:=by
     by_cases c:0 <=n
     · rw[(e1 c).2];omega
     · rw[(e2 (by omega)).2];omega
   clear e1 e2
   refine⟨by decide,?_⟩
   rintro _ rfl
   refine⟨by decide,?_⟩
   rintro _ rfl
   have e8:Int.tmod (i64.wrap (Int.tmod n 7+7)) 7=n%7:=by rw[wrap_i64 (by omega) (by omega),gp (by omega),e7.2.2]
   try dsimp only
   rw[e8]
   clear e7 e8
   have hk0:0 <=n%7/\n%7<7:=by omega
   have hwl:=Px hk0.1 hk0.2
   have hml:=QP hm1 hm2
   obtain⟨k,hk⟩:∃k:Nat,n%7=(k:Int):=⟨(n%7).toNat,by omega⟩
   obtain⟨j,hj⟩:∃j:Nat,m=(j:Int)+1:=⟨(m-1).toNat,by omega⟩
   have hwk:=Ry k (by omega)
   have hmk:=Tr j (by omega)
   rw[<- hk]at hwk
   rw[<- hj]at hmk
   rw[wrap_i64 (n:=3*(n%7)) (by omega) (by omega),wrap_i64 (n:=3*(n%7)+3) (by omega) (by omega),show(3*(n%7)+3).toNat=3*k+3 by omega,show(3*(n%7)).toNat=3*k by omega,hwk]
   refine⟨⟨⟨by omega,by simp only[List.length_cons,List.length_nil];omega⟩,by omega,by omega⟩,?_⟩
   rintro _ rfl
   refine⟨fits (by simp only[List.length_append,gW,hwl,hml,List.length_cons,List.length_nil];omega),?_⟩
   rintro _ rfl
   refine⟨iH d,λu hu=>cw (iV d (by omega) (by omega) u) hu,?_⟩
   refine⟨fits (by simp only[List.length_append,gW,hwl,hml,List.length_cons,List.length_nil];omega),?_⟩
   rintro _ rfl
   refine⟨fits (by simp only[List.length_append,gW,hwl,hml,List.length_cons,List.length_nil];omega),?_⟩
   rintro _ rfl
   rw[wrap_i64 (n:=3*m) (by omega) (by omega),wrap_i64 (n:=3*m-3) (by omega) (by omega),show(3*m).toNat=3*j+3 by omega,show(3*m-3).toNat=3*j by omega,hmk]
   refine⟨⟨⟨by omega,by simp only[List.length_cons,List.length_nil];omega⟩,by omega,by omega⟩,?_⟩
   rintro _ rfl
   refine⟨fits (by simp only[List.length_append,gW,hwl,hml,List.length_cons,List.length_nil];omega),?_⟩
   rintro _ rfl
   refine⟨fits (by simp only[List.length_append,gW,hwl,hml,List.length_cons,List.length_nil];omega),?_⟩
   rintro _ rfl
   refine⟨iH (y/100)++iH (y%100),λu hu=>cw (Av y (by omega) (by omega) u (K7 (K7 ht hb1) hu)) hu,?_⟩
   refine⟨fits (by simp only[List.length_append,gW,hwl,hml,List.length_cons,List.length_nil];omega),?_⟩
   rintro _ rfl
   refine⟨fits (by simp only[List.length_append,gW,hwl,hml,List.length_cons,List.length_nil];omega),?_⟩
   rintro _ rfl
   refine⟨by decide,?_⟩
   rintro _ rfl
   rw[dD hs0.1,wrap_i64 (n:=s/3600) (by omega) (by omega)]
   refine⟨iH (s/3600),λu hu=>cw (iV _ (by omega) (by omega) u) hu,?_⟩
   refine⟨fits (by simp only[List.length_append,gW,hwl,hml,List.length_cons,List.length_nil];omega),?_⟩
   rintro _ rfl
   refine⟨fits (by simp only[List.length_append,gW,hwl,hml,List.length_cons,List.length_nil];omega),?_⟩
   rintro _ rfl
   refine⟨by decide,?_⟩
   rintro _ rfl
   refine⟨by decide,?_⟩
   rintro _ rfl
   rw[dD hs0.1,wrap_i64 (n:=s/60) (by omega) (by omega),gp (a:=s/60) (by omega)]
   refine⟨iH (s/60%60),λu hu=>cw (iV _ (by omega) (by omega) u) hu,?_⟩
   refine⟨fits (by simp only[List.length_append,gW,hwl,hml,List.length_cons,List.length_nil];omega),?_⟩
   rintro _ rfl
   refine⟨fits (by simp only[List.length_append,gW,hwl,hml,List.length_cons,List.length_nil];omega),?_⟩
   rintro _ rfl
   refine⟨by decide,?_⟩
   rintro _ rfl
   rw[gp (a:=s) hs0.1]
   refine⟨iH (s%60),λu hu=>cw (iV _ (by omega) (by omega) u) hu,?_⟩
   refine⟨fits (by simp only[List.length_append,gW,hwl,hml,List.length_cons,List.length_nil];omega),?_⟩
   rintro _ rfl
   refine⟨fits (by simp only[List.length_append,gW,hwl,hml,List.length_cons,List.length_nil];omega),?_⟩
   rintro _ rfl
   intro wq hq
   refine⟨?_,aa hb1 hq hb1.size⟩
   congr 2
   simp[DT,pF,List.append_assoc]
def stripR (p:UInt8->Bool)(s:List UInt8):List UInt8:=(s.reverse.dropWhile p).reverse
def kh (p:UInt8->Bool)(s:List UInt8):List UInt8:=stripR p (s.dropWhile p)
theorem mb (p:UInt8->Bool)(x:UInt8)(s:List UInt8):stripR p (x::s)=if stripR p s=[]then(if p x then[]else[x])else x::stripR p s:=by
 unfold stripR
 rw[List.reverse_cons]
 have key:∀t:List UInt8,List.dropWhile p (t++[x])=if List.dropWhile p t=[]then(if p x then[]else[x])else List.dropWhile p t++[x]:=by
   intro t
   induction t with
   | nil=>simp[List.dropWhile_cons]
   | cons y t ih=>
     rw[List.cons_append,List.dropWhile_cons,List.dropWhile_cons]
     split
     · exact ih
     · rw[if_neg (by simp)];rfl
 rw[key]
 by_cases h:List.dropWhile p s.reverse=[]
 · have h':(List.dropWhile p s.reverse).reverse=[]:=by rw[h];rfl
   rw[if_pos h,if_pos h']
   split <;> rfl
 · have h': ¬ (List.dropWhile p s.reverse).reverse=[]:=by simpa using h
   rw[if_neg h,if_neg h']
   simp
theorem sb (p:UInt8->Bool):∀s:List UInt8,(stripR p s).dropWhile p=kh p s
 | []=>rfl
 | x::s=>by
   have ih:=sb p s
   unfold kh at ih ⊢
   cases hx:p x with
   | true=>
     have e1:List.dropWhile p (x::s)=List.dropWhile p s:=by rw[List.dropWhile_cons,if_pos hx]
     rw[e1,<- ih,mb]
     by_cases h:stripR p s=[]
     · rw[if_pos h,if_pos hx,h]
     · rw[if_neg h,List.dropWhile_cons,if_pos hx]
   | false=>
     have hx': ¬ p x=true:=by rw[hx];decide
     have e1:List.dropWhile p (x::s)=x::s:=by rw[List.dropWhile_cons,if_neg hx']
     rw[e1,mb]
     by_cases h:stripR p s=[]
     · rw[if_pos h,if_neg hx',List.dropWhile_cons,if_neg hx']
     · rw[if_neg h,List.dropWhile_cons,if_neg hx']
theorem sM (p:UInt8->Bool):∀s:List UInt8,stripR p s=[] ↔ s.all p=true
 | []=>by simp[stripR]
 | x::s=>by
   have ih:=sM p s
   rw[mb,List.all_cons,Bool.and_eq_true,<- ih]
   by_cases h:stripR p s=[]
   · rw[if_pos h]
     cases p x <;> simp[h]
   · rw[if_neg h];simp[h]
theorem jJ (p:UInt8->Bool):∀s:List UInt8,kh p s=[] ↔ s.all p=true
 | []=>by simp[kh,stripR]
 | x::s=>by
   unfold kh
   rw[List.dropWhile_cons]
   cases hx:p x with
   | true=>rw[if_pos rfl,List.all_cons,hx,Bool.true_and];exact jJ p s
   | false=>rw[if_neg (by decide),sM]
theorem Mn (p:UInt8->Bool)(s:List UInt8):∀x∈stripR p s,x∈s:=λx hx=>by
 unfold stripR at hx
 rw[List.mem_reverse]at hx
 exact List.mem_reverse.1 ((List.dropWhile_sublist p).subset hx)
theorem ED (p:UInt8->Bool)(s:List UInt8):∀x∈kh p s,x∈s:=λx hx=>(List.dropWhile_sublist p).subset (Mn p _ x hx)
theorem xR (p:UInt8->Bool)(s:List UInt8):(kh p s).length <=s.length:=by
 unfold kh stripR
 rw[List.length_reverse]
 have h1:=(List.dropWhile_sublist p (l:=(s.dropWhile p).reverse)).length_le
 have h2:=(List.dropWhile_sublist p (l:=s)).length_le
 rw[List.length_reverse]at h1;omega
theorem Ci (s cs:List UInt8):Lib.trimS s cs=kh (cs.contains ·) s:=sb _ s
def xA (c:UInt8):Bool:=c==32 || c==9
def trimB (s:List UInt8):List UInt8:=kh xA s
theorem Lu:∀n,n<256->([32,9]:List UInt8).contains (UInt8.ofNat n)=xA (UInt8.ofNat n):=by decide+kernel
theorem Uk (c:UInt8):([32,9]:List UInt8).contains c=xA c:=by
 have:=Lu c.toNat (by have:=c.toNat_lt;omega)
 rwa [UInt8.ofNat_toNat]at this
theorem TQ (s:List UInt8):Lib.trimS s [32,9]=trimB s:=by
 rw[Ci];unfold trimB;congr 1;exact funext Uk
def dE (s:List UInt8):Bool:= !(s==[])&&s.all eA
theorem J0 (s:List UInt8):(Lib.trimS s [48,49,50,51,52,53,54,55,56,57]==[])=s.all eA:=by
 rw[Ci]
 have e:(λx=>([48,49,50,51,52,53,54,55,56,57]:List UInt8).contains x)=eA:=funext Nc
 rw[e,Bool.eq_iff_iff,beq_iff_eq,jJ]
def nK (s:List UInt8):Prop:=dE s=true/\s.length <=18/\ ¬ (s.head?=some 48/\1<s.length)
instance  (s:List UInt8):Decidable (nK s):=by unfold nK;infer_instance
theorem kT (s:List UInt8)(hs:s.length <=9223372036854775807)(w:World):Cf iK #[vS s] w (Ret λv w'=>v=vS (trimB s)/\bW w w'):=by
 apply Du
 refine(Tryz.strings_Trim_laid (mkS s) (mkS [32,9]) w hs (by decide) (ascii_of_all (by decide))).mono ?_
 rintro _ w1 ⟨rfl,hb⟩
 have e:Lib.trimS (mkS s).data.toList (mkS [32,9]).data.toList=trimB s:=TQ s
 rw[e]
 exact⟨_,rfl,rfl,hb⟩
theorem lQ (s:List UInt8)(hs:s.length <=9223372036854775807)(w:World):Cf hZ #[vS s] w (Ret λv w'=>v=.bool (dE s)/\bW w w'):=by
 apply zl
 unfold dE
 refine ab.of (λh=>?_) (λh=>?_)
 · refine⟨⟨by decide,by decide⟩,?_⟩
   rintro _ rfl
   refine(Tryz.strings_Trim_laid (mkS s) (mkS [48,49,50,51,52,53,54,55,56,57]) w hs (by decide) (ascii_of_all (by decide))).mono ?_
   rintro _ w1 ⟨rfl,hb⟩
   refine⟨_,rfl,?_,hb⟩
   have e:=J0 s
   rw[h,Bool.true_and,<- e];rfl
 · rw[h];exact⟨rfl,Below.refl _ _⟩
theorem jh (s:List UInt8)(hs:s.length <=9223372036854775000)(w:World):
   Cf fV #[vS s] w (Ret λv w'=>v=(if nK s then .tuple #[vI (ez s),.bool true]else .tuple #[vI 0,.bool false])/\bW w w'):=by
 apply zm
 have bad:∀{w':World},¬ nK s->bW w w'->(.tuple #[vI 0,.bool false]:Value)=(if nK s then .tuple #[vI (ez s),.bool true]else .tuple #[vI 0,.bool false])/\bW w w':=λhn hb=>⟨by rw[if_neg hn],hb⟩
 refine gE (λw'=>nK s/\bW w w') ?_ ?_
 · refine aw (lQ s (by omega) w) ?_
   rintro _ w1 ⟨rfl,hb⟩
   refine⟨_,rfl,?_⟩
   refine ab.of (λh=>?_) (λh=>?_) <;> simp only[Bool.not_eq_true',Bool.not_eq_false']at h
   · exact bad (λhc=>by rw[hc.1]at h;cases h) hb
   refine ab.of (λh2=>?_) (λh2=>?_) <;> simp only[gt_iff_lt,dTx,dFx]at h2
   · exact bad (λhc=>by have:=hc.2.1;omega) hb
   have hne:s≠[]:=λe=>by rw[e]at h;cases h
   match s,hne with
   | c::r,_=>
     have hx:bf (c::r) 0=((c.toNat:Nat):Int):=rfl
     rw[hx]
     refine⟨⟨by decide,by simp only[List.length_cons];omega⟩,?_⟩
     refine ab.of (λh3=>?_) (λh3=>?_)
     · have hc:c=48:=Cj (by simpa using h3)
       refine ab.of (λh4=>?_) (λh4=>?_) <;> simp only[gt_iff_lt,dTx,dFx]at h4
       · exact bad (λhcn=>hcn.2.2 ⟨by rw[hc];rfl,by omega⟩) hb
       · exact⟨⟨h,by omega,λhcn=>by omega⟩,hb⟩
     · have hc:c≠48:=λe=>by subst e;cases h3
       exact⟨⟨h,by omega,λhcn=>hc (by simpa using hcn.1)⟩,hb⟩
 · rintro w1 ⟨hn,hb⟩
   rw[if_pos hn]
   obtain⟨hd,hl,_⟩:=hn
   have hall:∀c∈s,eA c=true:=λc hc=>by
     unfold dE at hd
     rw[Bool.and_eq_true]at hd
     exact List.all_eq_true.1 hd.2 c hc
   obtain⟨w2,a,n,c,hr,ho,hb2,hf⟩:=ov av bw bS w1 s (by omega) NoB
   have hnn:=ho.len
   subst hnn
   have hb12:=aa hb hb2 hb.size
   refine⟨w2,a,_,c,hr,?_⟩
   refine⟨λm n i w'=>∃k:Nat,k <=s.length/\i=(k:Int)/\n=ez (s.take k)/\m=s.length-k/\w'=w2,⟨_,0,by omega,rfl,rfl,rfl,rfl⟩,?_⟩
   intro m n i
   refine aJ.of ?_ _
   rintro w' ⟨k,hk,rfl,rfl,rfl,rfl⟩
   refine ab.of (λh=>?_) (λh=>?_) <;> simp only[dTx,dFx]at h
   · have hlt:k<s.length:=by omega
     have hc:=jT.1 (hall s[k] (List.getElem_mem hlt))
     have hbd:=jt (s.take k) 0 (by decide) λc hc=>hall c (List.mem_of_mem_take hc)
     have hp:(10:Int) ^ (s.take k).length <=10 ^ 17:=zZa (by rw[List.length_take];omega)
     have e17:(10:Int) ^ 17=100000000000000000:=by decide
     have hV:(s.take k).foldl (λn c=>n*10+((c.toNat:Int)-48)) 0=ez (s.take k):=rfl
     rw[hV]at hbd
     have hbb:=hbd.2
     rw[Int.zero_add,Int.one_mul]at hbb
     obtain⟨v,hv,hrep⟩:=ho.all.load1 (i:=(k:Int)) bS rfl rfl (by simpa using hlt)
     have:=Ck hrep
     subst this
     simp only[Int.toNat_natCast]at hv
     refine⟨⟨⟨by omega,h⟩,ho.all.isSome hlt⟩,_,hv,s.length-(k+1),by omega,k+1,by omega,by rw[wrap_i64 (by omega) (by omega)];omega,?_,rfl,rfl⟩
     rw[List.take_succ_eq_append_getElem hlt,M8,wrap_i64 (n:=10*ez (s.take k)) (by omega) (by omega),wrap_u8 (n:=((s[k].toNat:Nat):Int)-48) (by omega) (by omega),wrap_i64 (n:=((s[k].toNat:Nat):Int)-48) (by omega) (by omega),wrap_i64 (by omega) (by omega)]
     omega
   · have:k=s.length:=by omega
     subst this
     rw[List.take_length];exact⟨rfl,hb12⟩
theorem dV (s:List UInt8)(c:UInt8)(hs:s.length<4294967281)(w:World)(he:Env w):
   Cf dA #[vS s,.int .u8 ((c.toNat:Nat):Int)] w (Ret λv w'=>∃a n cp,v=.slice a n cp/\Ow tS ah w' NoB a n cp (bK c [] s)/\bU w.heap.size a/\bW w w'):=by
 apply Bv
 intro k w1 hk hw
 have hB:=(hw▸ai w _:bW w w1)
 have ho:Ow tU8 aQ w1 NoB (some ⟨k,0,none⟩) 1 1 [c]:=Ow.newF (l:=[_]) ni hk hw (gh.one (pK rfl)) (show 1 <=maxLen by decide)
 refine⟨_,me bw av bS ho.all,?_⟩
 obtain⟨m,hm⟩:=(he.step hB).max
 refine(Tryz.strings_Split (mkS s) (mkS [c]) m w1 hs hm (Nat.le_refl 1)).mono ?_
 rintro _ w2 ⟨rfl,hw2⟩
 have hcnt:=dK c s []
 rw[Ca,JT]at*
 refine⟨_,_,_,rfl,_,_,_,rfl,Ow.newF (dN _) rfl hw2 (uT λ_ _=>trivial) (by show _ <=2 ^ 63-1;omega),jc rfl |>.mono hB.size,aa hB (hw2▸ai _ _) hB.size⟩
def D1 (s:List UInt8):List UInt8:=trimB (s.takeWhile (· !=61))
def xW (s:List UInt8):List UInt8:=trimB ((s.dropWhile (· !=61)).drop 1)
def NK (s:List UInt8):Bool:=decide ((61:UInt8)∈s)
theorem Wf (c:UInt8):((c !=61)=true) ↔ c≠61:=by simp
theorem UJ {s:List UInt8}(h:(61:UInt8) ∉ s):s.takeWhile (· !=61)=s/\s.dropWhile (· !=61)=[]:=by
 have hp:∀x∈s,(x !=61)=true:=λx hx=>(Wf x).2 λe=>h (e▸hx)
 have h1:s.takeWhile (· !=61)=s:=by
   have:=List.takeWhile_append_of_pos (p:=(· !=61)) (l₁:=s) (l₂:=[]) hp
   simpa using this
 have h2:=List.takeWhile_append_dropWhile (p:=(· !=(61:UInt8))) (l:=s)
 refine⟨h1,?_⟩
 rw[h1]at h2
 exact List.append_cancel_left (h2.trans (List.append_nil s).symm)
def qd (c:UInt8):Bool:=(decide (c.toNat<32) && !(c==9)) || c==127
theorem my (c n:UInt8):((((c.toNat:Nat):Int))==((n.toNat:Nat):Int))=(c==n):=by
 rw[Bool.eq_iff_iff,beq_iff_eq,beq_iff_eq]
 exact⟨λh=>Cj h,λh=>by rw[h]⟩
theorem byte_at {s:List UInt8}{k:Nat}(h:k<s.length):bf s (k:Int)=((s[k].toNat:Nat):Int):=by
 rw[lm (i:=(k:Int)) (by simpa using h)];simp only[Int.toNat_natCast]
theorem sC (s:List UInt8)(hs:s.length<4294967281)(w:World)(he:Env w):
   Cf kC #[vS s] w (Ret λv w'=>v=.tuple #[vS (D1 s),vS (xW s),.bool (NK s)]/\bW w w'):=by
 apply Bf
 obtain⟨m,hm⟩:=he.max
 refine(Tryz.strings_Cut (mkS s) (mkS [61]) m w hs hm).mono ?_
 rintro _ w1 ⟨rfl,n,rfl⟩
 have e:Lib.cut (mkS s).data.toList (mkS [61]).data.toList=(s.takeWhile (· !=61),(s.dropWhile (· !=61)).drop 1,NK s):=by
   show Lib.cut s [61]=_
   rw[Qb]
   unfold NK
   by_cases hm:(61:UInt8)∈s
   · rw[if_pos hm,decide_eq_true hm]
   · rw[if_neg hm,decide_eq_false hm,(UJ hm).1,(UJ hm).2];rfl
 rw[e]
 refine⟨s.takeWhile (· !=61),(s.dropWhile (· !=61)).drop 1,_,rfl,?_⟩
 have h1:=mJ (· !=(61:UInt8)) s
 have h2:=(List.dropWhile_sublist (· !=(61:UInt8)) (l:=s)).length_le
 refine aw (kT _ (by omega) _) ?_
 rintro _ w2 ⟨rfl,hb2⟩
 refine⟨_,rfl,?_⟩
 refine aw (kT _ (by rw[List.length_drop];omega) w2) ?_
 rintro _ w3 ⟨rfl,hb3⟩
 have hb0:bW w (w.drewN n):=kO rfl rfl rfl (Nat.le_refl _) (λ_ _=>rfl)
 have hb02:=aa hb0 hb2 hb0.size
 exact⟨_,rfl,rfl,aa hb02 hb3 hb02.size⟩
theorem xt (s:List UInt8)(hs:s.length <=9223372036854775807)(w:World):Cf j3 #[vS s] w (Ret λv w'=>v=.bool (s.any qd)/\bW w w'):=by
 apply vP
 obtain⟨w2,a,n,c,hr,ho,hb2,hf⟩:=ov av bw bS w s hs NoB
 have hnn:=ho.len
 subst hnn
 refine⟨w2,a,_,c,hr,?_⟩
 refine⟨λm i w'=>∃k:Nat,k <=s.length/\i=(k:Int)/\m=s.length-k/\(s.take k).any qd=false/\w'=w2,⟨_,0,by omega,rfl,rfl,rfl,rfl⟩,?_⟩
 intro m i
 refine aJ.of ?_ _
 rintro w' ⟨k,hk,rfl,rfl,hno,rfl⟩
 refine ab.of (λh=>?_) (λh=>?_) <;> simp only[dTx,dFx]at h
 · have hlt:k<s.length:=by omega
   obtain⟨v,hv,hrep⟩:=ho.all.load1 (i:=(k:Int)) bS rfl rfl (by simpa using hlt)
   have:=Ck hrep
   subst this
   simp only[Int.toNat_natCast]at hv
   have bad:qd s[k]=true->(.bool true:Value)=.bool (s.any qd)/\bW w w':=λhc=>⟨by
     congr 1;symm
     exact List.any_eq_true.2 ⟨_,List.getElem_mem hlt,hc⟩,hb2⟩
   have good:qd s[k]=false->∃m':Nat,m'<s.length-k/\∃k2:Nat,k2 <=s.length/\i64.wrap ((k:Int)+1)=(k2:Int)/\m'=s.length-k2/\(s.take k2).any qd=false/\w'=w':=λhc=>
     ⟨s.length-(k+1),by omega,k+1,by omega,by rw[wrap_i64 (by omega) (by omega)];omega,rfl,by rw[List.take_succ_eq_append_getElem hlt,List.any_append,hno];simp[hc],rfl⟩
   have e9:=my s[k] 9
   have e127:=my s[k] 127
   refine⟨⟨⟨by omega,h⟩,ho.all.isSome hlt⟩,_,hv,?_⟩
   refine ab.of (λh2=>?_) (λh2=>?_)
   · simp only[dTx]at h2
     refine ab.of (λh3=>?_) (λh3=>?_)
     · refine bad ?_
       have h9:(s[k]==9)=false:=by rw[<- e9];simpa using h3
       unfold qd
       rw[h9,decide_eq_true (show s[k].toNat<32 by omega)];rfl
     · have h9:(s[k]==9)=true:=by rw[<- e9];simpa using h3
       refine ab.of (λh4=>?_) (λh4=>?_)
       · refine bad ?_
         unfold qd
         rw[<- e127,show((((s[k].toNat:Nat):Int))==((UInt8.toNat 127:Nat):Int))=true from h4,Bool.or_true]
       · refine good ?_
         unfold qd
         rw[<- e127,show((((s[k].toNat:Nat):Int))==((UInt8.toNat 127:Nat):Int))=false from h4,h9]
         simp
   · simp only[dFx]at h2
     refine ab.of (λh4=>?_) (λh4=>?_)
     · refine bad ?_
       unfold qd
       rw[<- e127,show((((s[k].toNat:Nat):Int))==((UInt8.toNat 127:Nat):Int))=true from h4,Bool.or_true]
     · refine good ?_
       unfold qd
       rw[<- e127,show((((s[k].toNat:Nat):Int))==((UInt8.toNat 127:Nat):Int))=false from h4,decide_eq_false (show ¬ s[k].toNat<32 by omega)]
       rfl
 · have:k=s.length:=by omega
   subst this
   rw[List.take_length]at hno
   exact⟨by rw[hno],hb2⟩
def RL (s:List UInt8):Option Int:=if s.head?=some 45 then(if dE (s.drop 1)then some 0 else none)else if dE s then some (min (ez s) 34560000)else none
theorem zQ (s:List UInt8)(c:UInt8):Lib.hasPrefix s [c]=decide (s.head?=some c)/\Lib.trimPrefix s [c]=if s.head?=some c then s.drop 1 else s:=by
 cases s with
 | nil=>exact⟨by simp[Lib.hasPrefix],rfl⟩
 | cons x s=>
   by_cases h:x=c
   · subst h
     have ht:Lib.hasPrefix (x::s) [x]=true:=by simp[Lib.hasPrefix,List.isPrefixOf]
     refine⟨by rw[ht];simp,?_⟩
     unfold Lib.trimPrefix;rw[ht];simp
   · have hf:Lib.hasPrefix (x::s) [c]=false:=by simp[Lib.hasPrefix,List.isPrefixOf,Ne.symm h]
     refine⟨by rw[hf];simp[h],?_⟩
     unfold Lib.trimPrefix;rw[hf];simp[h]
theorem RS (p:UInt8->Bool):∀s:List UInt8,s.dropWhile p=[] ↔ s.all p=true
 | []=>by simp
 | x::s=>by
   rw[List.dropWhile_cons,List.all_cons]
   cases h:p x with
   | true=>rw[if_pos rfl,Bool.true_and];exact RS p s
   | false=>simp
theorem He:∀(l:List UInt8) (acc:Int),l.foldl (λn c=>n*10+((c.toNat:Int)-48)) acc=(l.dropWhile (· ==48)).foldl (λn c=>n*10+((c.toNat:Int)-48)) acc\/acc≠0
 | [],acc=>.inl rfl
 | c::l,acc=>by
   by_cases ha:acc=0
   · subst ha
     left
     rw[List.dropWhile_cons]
     split
     · rename_i h
       have:c=48:=by simpa using h
       subst this
       rw[List.foldl_cons]
       have e:(0:Int)*10+(((48:UInt8).toNat:Int)-48)=0:=by decide
       rw[e]
       rcases He l 0 with h|h
       · exact h
       · exact absurd rfl h
     · rfl
   · exact .inr ha
theorem LF (l:List UInt8):ez l=ez (l.dropWhile (· ==48)):=by
 rcases He l 0 with h|h
 · exact h
 · exact absurd rfl h
theorem M9:∀(l:List UInt8) (acc:Int),0 <=acc->(∀c∈l,eA c=true)->acc*10 ^ l.length <=l.foldl (λn c=>n*10+((c.toNat:Int)-48)) acc
 | [],acc,h,_=>by simp
 | c::l,acc,h,hd=>by
   have hc:=jT.1 (hd c List.mem_cons_self)
   have h1:=M9 l (acc*10+((c.toNat:Int)-48)) (by omega) λx hx=>hd x (List.mem_cons_of_mem _ hx)
   rw[List.foldl_cons]
   refine Int.le_trans ?_ h1
   rw[List.length_cons,Int.pow_succ,Int.mul_comm (10 ^ l.length) 10,<- Int.mul_assoc]
   exact Int.mul_le_mul_of_nonneg_right (by omega) (Int.pow_nonneg (by decide))
theorem Qe {l:List UInt8}(hd:∀c∈l,eA c=true)(h0:l.head?≠some 48)(hl:19 <=l.length):34560000<ez l:=by
 match l,hl with
 | c::r,hl=>
   have hc:=jT.1 (hd c List.mem_cons_self)
   have hne:c.toNat≠48:=λe=>h0 (by have:c=48:=UInt8.toNat_inj.1 e;rw[this];rfl)
   have h1:=M9 r (0*10+((c.toNat:Int)-48)) (by omega) λx hx=>hd x (List.mem_cons_of_mem _ hx)
   have h2:ez (c::r)=r.foldl (λn c=>n*10+((c.toNat:Int)-48)) (0*10+((c.toNat:Int)-48)):=rfl
   rw[h2]
   have h3:(10:Int) ^ 18 <=10 ^ r.length:=zZa (by simp at hl;omega)
   have e18:(10:Int) ^ 18=1000000000000000000:=by decide
   have h4:(1:Int)*10 ^ r.length <=(0*10+((c.toNat:Int)-48))*10 ^ r.length:=Int.mul_le_mul_of_nonneg_right (by omega) (Int.pow_nonneg (by decide))
   omega
structure Hdr where
 name:List UInt8
 value:List UInt8
 domain:List UInt8
 path:List UInt8
 hasE:Bool
 exp:Int
 hasA:Bool
 age:Int
 sec:Bool
 http:Bool
 same:Int
def Hdr.cells (h:Hdr):List Value:=[vS h.name,vS h.value,vS h.domain,vS h.path,.bool h.hasE,vI h.exp,.bool h.hasA,vI h.age,.bool h.sec,.bool h.http,vI h.same]
def Hdr.v (h:Hdr):Value:=.agg h.cells.toArray
def CO:Hdr:=⟨[],[],[],[],false,0,false,0,false,false,0⟩
def JP (v:List UInt8):Int:=if co v=[110,111,110,101]then 1 else if co v=[108,97,120]then 2 else if co v=[115,116,114,105,99,116]then 3 else 0
def Af (h:Hdr)(key value:List UInt8):Hdr:=
 if key=[101,120,112,105,114,101,115]then(if xi (nv value)then{ h with hasE:=true,exp:=iw (nv value) } else h)
 else if key=[109,97,120,45,97,103,101]then(match RL value with|some n=> { h with hasA:=true,age:=n }|none=>h)
 else if key=[100,111,109,97,105,110]then{ h with domain:=co (if value.head?=some 46 then value.drop 1 else value) }
 else if key=[112,97,116,104]then{ h with path:=if value.head?=some 47 then value else[] }
 else if key=[115,101,99,117,114,101]then{ h with sec:=true }
 else if key=[104,116,116,112,111,110,108,121]then{ h with http:=true }
 else if key=[115,97,109,101,115,105,116,101]then{ h with same:=JP value }
 else h
theorem ao.put {P:Program}{u:TypeId}{bytes:Nat}{z:Value}(tf:TF P u 1 bytes z){w:World}{k:Nat}{t:TypeId}{vs:List Value}(h:ao w k t vs){i:Nat}{v:Value}(hi:i<vs.length)(h1:v.oneCell'=true)(hc:v.cells= #[v]):
   ∃w',(Instr.storeAt u (.pointer (some ⟨k,i,none⟩)) v).run P w=.ok () w'/\ao w' k t (vs.set i v)/\w.grownBy w' (some k):=by
 obtain⟨w',hs,ha,hg⟩:=h.store tf (i:=i) (v:=v) (by rw[hc];rfl) (by omega) (by rw[hc];intro c hcc;simp at hcc;subst hcc;exact h1)
 refine⟨w',hs,?_,hg⟩
 rw[hc]at ha
 have:vs.set i v=vs.take i++[v]++vs.drop (i+1):=by
   rw[List.set_eq_take_append_cons_drop,if_pos hi];simp
 rw[this];exact ha
theorem Ha (s:List UInt8)(c:UInt8)(w:World):Cf cv #[vS s,vS [c]] w (Ret λv w'=>v=.tuple #[vS (if s.head?=some c then s.drop 1 else s),.bool (decide (s.head?=some c))]/\w'=w):=by
 refine(Tryz.strings_CutPrefix (mkS s) (mkS [c]) w).mono ?_
 rintro _ _ ⟨rfl,rfl⟩
 refine⟨_,rfl,?_,rfl⟩
 have h:=zQ s c
 have e:(mkS s).data.toList=s:=rfl
 have e2:(mkS [c]).data.toList=[c]:=rfl
 rw[e,e2,h.1]
 by_cases hc:s.head?=some c
 · rw[if_pos hc]
   have h2:=h.2
   rw[if_pos hc]at h2
   rw[h2];rfl
 · rw[if_neg hc]
   have h2:=h.2
   rw[if_neg hc]at h2
   rw[h2];rfl
def U5 (s:List UInt8):Value:=match RL s with|some n=>.tuple #[vI n,.bool true]|none=>.tuple #[vI 0,.bool false]
theorem Ft (s:List UInt8)(hs:s.length <=10000000)(w:World):Cf qy #[vS s] w (Ret λv w'=>v=U5 s/\bW w w'):=by
 apply Dn
 refine aw (Ha s 45 w) ?_
 rintro _ w ⟨rfl,rfl⟩
 refine⟨_,_,rfl,?_⟩
 have hl:(if s.head?=some 45 then s.drop 1 else s).length <=s.length:=by split <;> simp
 refine aw (lQ _ (by omega) w) ?_
 rintro _ w1 ⟨rfl,hb1⟩
 refine⟨_,rfl,?_⟩
 by_cases h45:s.head?=some 45
 · rw[if_pos h45,decide_eq_true h45]
   unfold U5 RL
   rw[if_pos h45]
   cases hd:dE (s.drop 1)
   · exact ab.yes rfl ⟨rfl,hb1⟩
   · exact ab.no rfl (ab.yes rfl ⟨rfl,hb1⟩)
 · rw[if_neg h45,decide_eq_false h45]
   unfold U5 RL
   rw[if_neg h45]
   cases hd:dE s
   · exact ab.yes rfl ⟨rfl,hb1⟩
   · refine ab.no rfl (ab.no rfl ?_)
     refine(Tryz.strings_TrimLeft_one (mkS s) 48 (by decide) w1).mono ?_
     rintro _ _ ⟨rfl,rfl⟩
     have e:Lib.trimLeftB (mkS s).data.toList 48=s.dropWhile (· ==48):=rfl
     rw[e]
     refine⟨s.dropWhile (· ==48),rfl,?_⟩
     have hall:∀c∈s,eA c=true:=λc hc=>by
       unfold dE at hd
       rw[Bool.and_eq_true]at hd
       exact List.all_eq_true.1 hd.2 c hc
     have hsub:=List.dropWhile_sublist (λc:UInt8=>c==48) (l:=s)
     have hall2:∀c∈s.dropWhile (· ==48),eA c=true:=λc hc=>hall c (hsub.subset hc)
     have hhead:(s.dropWhile (· ==48)).head?≠some 48:=λe=>by
       have:=List.head?_dropWhile_not (λc:UInt8=>c==48) s
       rw[e]at this
       simp at this
     have hlen:=hsub.length_le
     have hz:=LF s
     refine aw (jh _ (by omega) _) ?_
     rintro _ w3 ⟨rfl,hb3⟩
     have hb13:=aa hb1 hb3 hb1.size
     rw[hz]
     have htrim:(s.dropWhile (· ==48)=[]) ↔ s.all (· ==48)=true:=by
       exact RS _ s
     generalize s.dropWhile (· ==48)=t at*
     have hbd:=jt t 0 (by decide) hall2
     have hge:0 <=ez t:=hbd.1
     by_cases hn:nK t
     · rw[if_pos hn]
       refine⟨_,_,rfl,ab.no rfl ?_⟩
       refine ab.of (λh=>?_) (λh=>?_) <;> simp only[gt_iff_lt,dTx,dFx]at h
       · exact⟨by rw[if_pos rfl];simp only[];rw[Int.min_eq_right (by omega)],hb13⟩
       · exact⟨by rw[if_pos rfl];simp only[];rw[Int.min_eq_left (by omega)],hb13⟩
     · rw[if_neg hn]
       refine⟨_,_,rfl,ab.yes rfl ?_⟩
       refine(Tryz.strings_Trim_one (mkS s) 48 (by decide) w3 (by show s.length <=_;omega)).mono ?_
       rintro _ w4 ⟨rfl,hw4⟩
       have hb4:bW w3 w4:=by
         rcases hw4 with rfl|rfl
         · exact Below.refl _ _
         · exact eC _
       have hb14:=aa hb13 hb4 hb13.size
       have e2:Lib.trimB (mkS s).data.toList 48=kh (· ==48) s:=sb _ s
       rw[e2]
       refine⟨kh (· ==48) s,rfl,?_⟩
       by_cases ht:t=[]
       · have hst:kh (· ==48) s=[]:=(jJ _ s).2 (htrim.1 ht)
         rw[hst]
         refine ab.no rfl (ab.no rfl ⟨?_,hb14⟩)
         rw[ht,if_pos rfl];rfl
       · have hst:kh (· ==48) s≠[]:=λe=>ht (htrim.2 ((jJ _ s).1 e))
         have hdt:dE t=true:=by
           unfold dE
           rw[Bool.and_eq_true]
           exact⟨by simpa using ht,List.all_eq_true.2 hall2⟩
         have hbig:34560000<ez t:=Qe hall2 hhead (by
           by_cases c:t.length <=18
           · exact absurd ⟨hdt,c,λh=>hhead h.1⟩ hn
           · omega)
         refine ab.yes (by simpa using hst) ⟨?_,hb14⟩
         rw[if_pos rfl];simp only[];rw[Int.min_eq_right (by omega)]
structure Whl (P:Program)(t:TypeId)(n:Nat):Prop where
 tf:∃bytes z,TF P t n bytes z
 ag:(P.underlying t).map CE=some true
def yM (cs:List Value):Prop:=∀c∈cs,c.oneCell'=true
theorem ux {a b:List Value}(h:yM a)(k:yM b):yM (a++b):=λc hc=>(List.mem_append.1 hc).elim (h c) (k c)
theorem bI {x:Value}{b:List Value}(h:x.oneCell'=true)(k:yM b):yM (x::b):=λc hc=>(List.mem_cons.1 hc).elim (λe=>e▸h) (k c)
theorem nj:yM []:=λ_ h=>by cases h
theorem UL (a:List UInt8):yM (a.map λc=>Value.int .u8 ((c.toNat:Nat):Int)):=λc hc=>by
 obtain⟨x,_,rfl⟩:=List.mem_map.1 hc;rfl
theorem Whl.store {P:Program}{t:TypeId}{n:Nat}(h:Whl P t n){cs:List Value}(hl:cs.length=n)(h1:yM cs){w:World}{k:Nat}{T:TypeId}{vs:List Value}(ha:ao w k T vs){i:Nat}(hfit:i+n <=vs.length):
   ∃wx,(Instr.storeAt t (.pointer (some ⟨k,i,none⟩)) (.agg cs.toArray)).run P w=.ok () wx/\ao wx k T (vs.take i++cs++vs.drop (i+n))/\w.grownBy wx (some k):=by
 obtain⟨bytes,z,tf⟩:=h.tf
 exact ha.store tf (i:=i) (v:=.agg cs.toArray) (by simpa[Value.cells]using hl) hfit (λc hc=>h1 c (by simpa[Value.cells]using hc))
theorem Whl.store0 {P:Program}{t:TypeId}{n:Nat}(h:Whl P t n){cs:List Value}(hl:cs.length=n)(h1:yM cs){w:World}{k:Nat}{T:TypeId}{vs:List Value}(ha:ao w k T vs)(hv:vs.length=n):
   ∃wx,(Instr.storeAt t (.pointer (some ⟨k,0,none⟩)) (.agg cs.toArray)).run P w=.ok () wx/\ao wx k T cs/\w.grownBy wx (some k):=by
 obtain⟨wx,hs,h2,hg⟩:=h.store hl h1 ha (i:=0) (by omega)
 refine⟨wx,hs,?_,hg⟩
 rw[List.take_zero,List.nil_append,List.drop_eq_nil_of_le (by omega),List.append_nil]at h2
 exact h2
theorem Whl.load {P:Program}{t:TypeId}{n:Nat}(h:Whl P t n){w:World}{k:Nat}{T:TypeId}{vs us:List Value}(ha:ao w k T vs){i:Nat}(hl:us.length=n)(hv:∀j,j<n->vs[i+j]? =us[j]?):
   (Instr.loadAt t (.pointer (some ⟨k,i,none⟩))).run P w=.ok (.agg us.toArray) w:=by
 obtain⟨bytes,z,tf⟩:=h.tf
 obtain⟨ti,hti,hsz,_,_⟩:=tf.info
 have hag:=h.ag
 cases hu:P.underlying t with
 | none=>rw[hu]at hag;cases hag
 | some d=>
   rw[hu]at hag
   simp only[Option.map_some,Option.some.injEq]at hag
   exact ha.loadA hu hag hti (us:=us) (i:=i) (by rw[hsz];exact hl) (λj hj=>hv j (by omega))
theorem Whl.load0 {P:Program}{t:TypeId}{n:Nat}(h:Whl P t n){w:World}{k:Nat}{T:TypeId}{cs:List Value}(ha:ao w k T cs)(hl:cs.length=n):
   (Instr.loadAt t (.pointer (some ⟨k,0,none⟩))).run P w=.ok (.agg cs.toArray) w:=h.load ha hl λj _=>by rw[Nat.zero_add]
theorem Whl.new {P:Program}{t:TypeId}{n:Nat}(h:Whl P t n){zs cs:List Value}(hz:zs.length=n)(hl:cs.length=n)(h1:yM cs)(w:World){R:Nat->World->Prop}
   (H:∀k wx,k=w.heap.size->ao wx k t cs->bW w wx->R k wx):
   ∀(k:Nat) (w1:World),k=w.heap.size->w1=w.alloc (.cells zs.toArray t)->∃(wx:World),(Instr.storeAt t (.pointer (some ⟨k,0,none⟩)) (.agg cs.toArray)).run P w1=.ok () wx/\R k wx:=by
 intro k w1 hk hw
 have hB:=(hw▸ai w _:bW w w1)
 obtain⟨wx,hs,h3,hg⟩:=h.store0 hl h1 (ao.new hk hw:ao w1 k t zs) hz
 exact⟨wx,hs,H k wx hk h3 (hB.grown hg hB.size λx e=>by cases e;omega)⟩
theorem Whl.fin {P:Program}{t:TypeId}{n:Nat}(h:Whl P t n){cs:List Value}(hl:cs.length=n)(h1:yM cs){w w':World}{k2:Nat}{vs:List Value}(h2:ao w' k2 t vs)(hv:vs.length=n)(hb:bW w w')(hk:w.heap.size <=k2)
   {K:Value->World->Prop} (hK:∀wx,bW w wx->K (.agg cs.toArray) wx):
   ∃(wx:World),(Instr.storeAt t (.pointer (some ⟨k2,0,none⟩)) (.agg cs.toArray)).run P w'=.ok () wx/\∃vr:Value,(bg t (.pointer (some ⟨k2,0,none⟩))).run P wx=.ok vr wx/\K vr wx:=by
 obtain⟨wx,hs,h3,hg⟩:=h.store0 hl h1 h2 hv
 exact⟨wx,hs,_,ao.res (h.load0 h3 hl),hK wx (hb.grown hg hb.size λx e=>by cases e;exact hk)⟩
theorem Below.put {w0 w w':World}{k:Nat}(h:bW w0 w)(hg:w.grownBy w' (some k))(hk:w0.heap.size <=k):bW w0 w':=h.grown hg h.size λx e=>by cases e;exact hk
theorem bF {x y:Nat}(h:x≠y):some x≠some y:=λe=>h (Option.some.inj e)
theorem gR (k o i:Nat):aq (some ⟨k,o,none⟩) (i:Int) 1=some ⟨k,o+i,none⟩:=by
 unfold aq
 simp only[Option.map_some,Int.toNat_natCast,Nat.mul_one,Option.some.injEq]
 unfold Addr.add;split <;> simp_all
theorem Ow.put {α:Type}{T:Ty α}{t:TypeId}{w w':World}{a:Option Addr}{n c k:Nat}{xs:List α}(h:Ow T t w NoB a n c xs)(hog:∀g,eJ a=some g->g≠k)(hg:w.grownBy w' (some k)):Ow T t w' NoB a n c xs:=
 h.keep (dX hg λb hb e=>by
   rcases hb with hb|hb
   · exact hb
   · exact hog b hb.symm (Option.some.inj e))
theorem Sl.text {P:Program}{u:TypeId}(hu:P.underlying u=some .string){w:World}{A:Bl}{a:Option Addr}{n c:Nat}{xs:List (List UInt8)}(h:Sl tS w A a n c xs){i:Nat}(hi:i<xs.length):(Instr.loadAt u (.pointer (aq a (i:Int) 1))).run P w=.ok (.string (mkS xs[i])) w:=by
 obtain⟨v,hv,hrep⟩:=h.load1 (i:=(i:Int)) hu rfl rfl (by simpa using hi)
 obtain⟨rfl,-⟩:=lZ hrep
 simpa using hv
end Go.Pk
