/- What the laws lean on: Shelf, DateE, DateF, DateJ, DateL, DateN, DateT, HdrA, HdrB, HdrC, Big, AddrA, AddrP, AddrB, AddrC, AddrD, AddrE, AddrF, AddrG; what is used. Its conditions: none. -/
import Derived.Test.YtpafoodmpjlkhaaGreatDoorKC
import Derived.Shelf.Strings.SlTrimAscii
import Derived.Shelf.Strings.Builder1
import Derived.Shelf.Strings.Builder2
import Derived.Shelf.Strings.OnBuilder
import Derived.Shelf.Strings.Trim
import Derived.Shelf.Small.Utf8
import Derived.Shelf.Small.Bits
import Derived.Shelf.Small.Strs
import Derived.Shelf.Small.Wraps
import Derived.Shelf.Strings.BuilderF
import Derived.Shelf.Strings.BuilderK
import Derived.Shelf.Utf8.RuneCount
import Derived.Shelf.Strings.Builder2Cap
import Derived.Shelf.Strconv.Itoa0
import Derived.Shelf.Strconv.Itoa1
import Derived.Shelf.LaysM
import Derived.Shelf.Strconv.Itoa2
import Derived.Shelf.Strconv.Itoa3
import Derived.Shelf.Strings.Search1
import Derived.Shelf.Strings.Search2
import Derived.Shelf.Strings.Search3
import Derived.Shelf.Strings.Cut
import Derived.Shelf.Strings.Count
import Derived.Shelf.Strings.Shaped
import Derived.Shelf.Sort.Plain
import Derived.Shelf.Strings.Prefix
import Derived.Shelf.Strings.Split
import Derived.Shelf.Strings.SplitShaped
import Derived.Shelf.Unicode.Decode
import Derived.Shelf.Strings.Runes
import Derived.Shelf.Strings.RuneCount
import Derived.Shelf.Strings.AsciiSet
import Derived.Shelf.Strings.Explode
import Derived.Shelf.Bits.Mul64
import Derived.Shelf.Unicode.DecodeSlow
import Derived.Shelf.Unicode.DecodeAny
import Derived.Shelf.Unicode.DecodeLast
import Derived.Shelf.Strings.BuilderCap
import Derived.Shelf.Slices.Turned
import Derived.Ground.Names2Prog
import Derived.Shelf.Slices.Clone
import Derived.Shelf.Slices.CompactS
import Derived.Shelf.Slices.Cells
import Derived.Shelf.Slices.In.SortNone
import Derived.Ground.SlgnProg
import Derived.Shelf.SlicesE.Clone
import Derived.Lib.Atoi
import Derived.Lib.ConvBytes
import Derived.Laws.CopyRow
import Derived.Lib.ItoaLen
set_option linter.unusedVariables false
set_option linter.unusedSimpArgs false
set_option linter.unusedSectionVars false
set_option maxRecDepth 100000
open Go.IntKind (i64)
open Go.Proofs.Tryz
namespace Go.Pk
open Go.RowKit (Below)
open Go.Proofs
end Go.Pk
namespace Go.Proofs
open Go.Pk (Cf vS vI bW)
open Go.Shelf
open Go.RowKit in
def Tryz.lays156_ren:Go.Shelf.Ren:=⟨fun|156=>66|165=>125|166=>126|169=>127|240=>179|241=>180|276=>217|277=>218|n=>n,fun|31=>38|9=>9|3=>3|4=>4|0=>0|20=>20|72=>164|76=>168|70=>162|37=>39|75=>167|127=>229|164=>267|5=>5|80=>53|n=>n,fun|n=>n⟩
theorem Tryz.lays156:Go.Proofs.Lays.n156 prog Tryz.lays156_ren:=by constructor <;> intros <;> kernel_rfl
theorem Tryz.Builder_Extra_156:Builder.Extra prog Tryz.lays156_ren:= {
 sizeBuilder:=by kernel_rfl
 liesBuilder:=by kernel_rfl
 t5:=Tryz.underlying5
 a5:=Tryz.isAgg5
 z5:=Tryz.sizeOf5
 v5:=Tryz.zeroValue5
 infoByte:=by kernel_rfl
 cellsByte:=by kernel_rfl
 sizeByte:=by kernel_rfl
 neB5:=by decide }
open Go.RowKit in
theorem Tryz.strings_Join_none (a:Option Addr)(c:Nat)(sep:ByteArray)(w:World):
   Cf 66 #[.slice a 0 c,.string sep] w λe w'=>e=.returned (.string ⟨#[]⟩)/\w'=w:=Any.strings_Join_none Tryz.lays156 Tryz.Builder_Extra_156 a c sep w
open Go.RowKit in
theorem Tryz.strings_Join (bk o c:Nat)(xs:List ByteArray)(sep:ByteArray)(w:World)(hcells:∀(j:Nat) x,xs[j]? =some x->w.cell? ⟨bk,o+j,none⟩=some (.string x))(hbk:bk<w.heap.size)(hN:xs.length <=140737488355328)(hcap:xs.length <=c)(hlen:(Lib.join (xs.map (·.data.toList)) sep.data.toList).length <=140737488355328):
   Cf 66 #[.slice (some ⟨bk,o,none⟩) xs.length c,.string sep] w λe w'=>e=.returned (.string ⟨(Lib.join (xs.map (·.data.toList)) sep.data.toList).toArray⟩)/\bW w w':=Any.strings_Join Tryz.lays156 Tryz.Builder_Extra_156 bk o c xs sep w hcells hbk hN hcap hlen
open Go.RowKit in
def Tryz.lays160_ren:Go.Shelf.Ren:=⟨fun|160=>105|232=>161|231=>160|227=>162|234=>164|233=>163|236=>166|235=>165|228=>207|271=>210|151=>209|197=>208|120=>232|152=>231|260=>230|137=>139|119=>243|224=>244|225=>245|217=>186|266=>221|n=>n,fun|9=>9|4=>4|3=>3|5=>5|117=>212|116=>211|0=>0|124=>215|21=>21|105=>259|46=>191|119=>293|139=>296|138=>295|n=>n,fun|3=>1|4=>2|n=>n⟩
theorem Tryz.lays160:Go.Proofs.Lays.n160 prog Tryz.lays160_ren:=by constructor <;> intros <;> kernel_rfl
open Go.RowKit in
def Tryz.lays137_ren:Go.Shelf.Ren:=⟨fun|137=>139|217=>186|266=>221|n=>n,fun|9=>9|5=>5|3=>3|n=>n,fun|n=>n⟩
theorem Tryz.lays137:Go.Proofs.Lays.n137 prog Tryz.lays137_ren:=by constructor <;> intros <;> kernel_rfl
open Go.RowKit in
theorem Tryz.strings_IndexByte (s:ByteArray)(c:Int)(w:World):
   Cf 139 #[.string s,.int .u8 c] w λe w'=>e=.returned (vI (Lib.indexByte s.data.toList c.toNat.toUInt8))/\w'=w:=Any.strings_IndexByte Tryz.lays137 s c w
open Go.RowKit in
def Tryz.lays103_ren:Go.Shelf.Ren:=⟨fun|103=>116|210=>169|206=>212|n=>n,fun|9=>9|4=>4|24=>159|3=>3|n=>n,fun|n=>n⟩
theorem Tryz.lays103:Go.Proofs.Lays.n103 prog Tryz.lays103_ren:=by constructor <;> intros <;> kernel_rfl
open Go.RowKit in
theorem Tryz.strings_CutPrefix (s p:ByteArray)(w:World):
   Cf 116 #[.string s,.string p] w λe w'=>e=.returned (.tuple #[.string ⟨(Lib.trimPrefix s.data.toList p.data.toList).toArray⟩,.bool (Lib.hasPrefix s.data.toList p.data.toList)])/\w'=w:=Any.strings_CutPrefix Tryz.lays103 s p w
open Go.RowKit in
def Tryz.lays104_ren:Go.Shelf.Ren:=⟨fun|104=>117|211=>170|207=>185|n=>n,fun|9=>9|4=>4|24=>159|3=>3|n=>n,fun|n=>n⟩
theorem Tryz.lays104:Go.Proofs.Lays.n104 prog Tryz.lays104_ren:=by constructor <;> intros <;> kernel_rfl
open Go.RowKit in
theorem Tryz.strings_CutSuffix (s p:ByteArray)(w:World)(hs:s.size <=9223372036854775807):
   Cf 117 #[.string s,.string p] w λe w'=>e=.returned (.tuple #[.string ⟨(Lib.trimSuffix s.data.toList p.data.toList).toArray⟩,.bool (Lib.hasSuffix s.data.toList p.data.toList)])/\w'=w:=Any.strings_CutSuffix Tryz.lays104 s p w hs
open Go.RowKit in
open Go.Lib in
open Go.RowKit Go.Sort Go.Lib in
def Tryz.laysM171_ren:Go.Shelf.Ren:=⟨fun|171=>181|243=>219|246=>237|283=>249|284=>250|285=>251|286=>252|129=>201|317=>254|318=>255|319=>256|320=>257|337=>258|338=>259|n=>n,fun|3=>3|9=>9|2=>2|4=>4|171=>299|0=>0|53=>246|37=>39|5=>5|173=>301|212=>304|51=>244|20=>20|213=>305|46=>191|232=>306|233=>307|n=>n,fun|17=>3|18=>4|19=>5|n=>n⟩
theorem Tryz.laysM171:Go.Proofs.LaysM.n171 prog Tryz.laysM171_ren:=by constructor <;> first|(intros;kernel_rfl)|(constructor <;> intros <;> kernel_rfl)
open Go.RowKit Go.Sort Go.Lib in
theorem Tryz.strconv_Itoa (n:Int)(h0: -9223372036854775808 <=n)(h1:n <=9223372036854775807)(w:World)(htab:Lib.TabIs prog w "internal/strconv.uint64pow10" .u64 Lib.pow10Tab):
   Cf 181 #[vI n] w λe w'=>e=.returned (.string ⟨(Lib.itoa n).toArray⟩)/\∃k os,w'=grow (w.drewN k) os:=Any.strconv_Itoa Tryz.laysM171 n h0 h1 w htab
open Go.RowKit Go.Sort Go.Lib in
open Go.RowKit Go.Lib in
def Tryz.lays145_ren:Go.Shelf.Ren:=⟨fun|145=>171|220=>213|219=>233|217=>186|225=>245|224=>244|267=>246|266=>221|314=>253|n=>n,fun|9=>9|4=>4|59=>218|3=>3|5=>5|46=>191|146=>248|51=>244|n=>n,fun|1=>0|n=>n⟩
theorem Tryz.lays145:Go.Proofs.Lays.n145 prog Tryz.lays145_ren:=by constructor <;> intros <;> kernel_rfl
open Go.RowKit Go.Lib in
theorem Tryz.strings_Cut (s sep:ByteArray)(m:Int)(w:World)(hs:s.size<4294967281)(hm:w.cell? ⟨0,0,none⟩=some (vI m)):
   Cf 171 #[.string s,.string sep] w λe w'=>e=.returned (.tuple #[.string ⟨(Lib.cut s.data.toList sep.data.toList).1.toArray⟩,.string ⟨(Lib.cut s.data.toList sep.data.toList).2.1.toArray⟩,.bool (Lib.cut s.data.toList sep.data.toList).2.2])/\∃n,w'=w.drewN n:=Any.strings_Cut Tryz.lays145 s sep m w hs hm
open Go.RowKit Go.Lib in
def Tryz.lays190_ren:Go.Shelf.Ren:=⟨fun|190=>95|125=>150|258=>149|128=>200|129=>201|302=>191|303=>192|304=>193|305=>194|306=>195|307=>196|308=>197|309=>198|310=>199|333=>224|329=>225|330=>226|334=>227|335=>228|336=>229|344=>242|n=>n,fun|31=>38|9=>9|3=>3|46=>191|0=>0|51=>244|53=>246|4=>4|183=>238|182=>237|131=>122|5=>5|218=>278|222=>282|228=>291|229=>231|n=>n,fun|n=>n⟩
theorem Tryz.lays190:Go.Proofs.Lays.n190 prog Tryz.lays190_ren:=by constructor <;> intros <;> kernel_rfl
open Go.Sort Go.RowKit in
theorem Tryz.slices_Sort_string (blk off cap:Nat)(ss:List (List UInt8))(w:World)(hH:Holds encStr w blk off ss.toArray)(hblk:blk<w.heap.size)(hsz:ss.length<4611686018427387904):
   Cf 95 #[.slice (some ⟨blk,off,none⟩) ss.length cap] w λe w'=>
     e=.returned (.tuple #[])/\∃n os,w'=grow (putRow encStr (Sort.ahead w n) blk off (ss.mergeSort λx y=>decide (x <=y)).toArray) os:=Any.slices_Sort_string Tryz.lays190 blk off cap ss w hH hblk hsz
open Go.RowKit Go.Lib in
def Tryz.lays100_ren:Go.Shelf.Ren:=⟨fun|100=>135|207=>185|n=>n,fun|9=>9|4=>4|3=>3|n=>n,fun|n=>n⟩
theorem Tryz.lays100:Go.Proofs.Lays.n100 prog Tryz.lays100_ren:=by constructor <;> intros <;> kernel_rfl
open Go.RowKit Go.Lib in
theorem Tryz.strings_HasSuffix (s p:ByteArray)(w:World)(hs:s.size <=9223372036854775807):
   Cf 135 #[.string s,.string p] w λe w'=>e=.returned (.bool (Lib.hasSuffix s.data.toList p.data.toList))/\w'=w:=Any.strings_HasSuffix Tryz.lays100 s p w hs
open Go.RowKit Go.Lib in
def Tryz.lays146_ren:Go.Shelf.Ren:=⟨fun|146=>174|221=>215|268=>234|138=>235|143=>236|195=>247|197=>208|218=>248|219=>233|260=>230|217=>186|225=>245|224=>244|267=>246|266=>221|314=>253|n=>n,fun|9=>9|31=>38|3=>3|4=>4|0=>0|105=>259|21=>21|5=>5|46=>191|119=>293|139=>296|138=>295|146=>248|51=>244|n=>n,fun|1=>0|3=>1|4=>2|n=>n⟩
theorem Tryz.lays146:Go.Proofs.Lays.n146 prog Tryz.lays146_ren:=by constructor <;> intros <;> kernel_rfl
open Go.RowKit Go.Lib in
theorem Tryz.strings_Split (s sep:ByteArray)(m:Int)(w:World)(hs:s.size<4294967281)(hm:w.cell? ⟨0,0,none⟩=some (vI m))(h1:1 <=sep.size):
   Cf 174 #[.string s,.string sep] w λe w'=>
     e=.returned (.slice (some ⟨w.heap.size,0,none⟩) (Lib.countB s sep+1) (Lib.countB s sep+1))/\w'=w.alloc (.cells ((Lib.splitB sep 0 (Lib.countB s sep) s).map Value.string).toArray 9):=Any.strings_Split Tryz.lays146 (by kernel_rfl) s sep m w hs hm h1
open Go.RowKit Go.Lib in
open Go.Lib in
open Go.RowKit Go.Lib in
def Tryz.lays194_ren:Go.Shelf.Ren:=⟨fun|194=>45|n=>n,fun|31=>38|9=>9|3=>3|4=>4|0=>0|n=>n,fun|n=>n⟩
theorem Tryz.lays194:Go.Proofs.Lays.n194 prog Tryz.lays194_ren:=by constructor <;> intros <;> kernel_rfl
open Go.RowKit Go.Lib Go.Sort in
theorem Tryz.slices_Compact_string (blk off cap:Nat)(zs:List (List UInt8))(w:World)(hH:Holds encStr w blk off zs.toArray)(hsz:zs.length <=9223372036854775807)(hcap:zs.length <=cap):
   Cf 45 #[.slice (some ⟨blk,off,none⟩) zs.length cap] w λe w'=>e=.returned (.slice (some ⟨blk,off,none⟩) (Lib.compact zs).length cap)/\∃q,w'=putRow encStr (Sort.ahead w q) blk off (Lib.compact zs++List.replicate (zs.length-(Lib.compact zs).length) []).toArray:=Any.slices_Compact_string Tryz.lays194 blk off cap zs w hH hsz hcap
open Go.RowKit Go.Lib Go.Sort in
theorem Tryz.slices_Compact_string_empty (a:Option Addr)(cap:Nat)(w:World):
   Cf 45 #[.slice a 0 cap] w λe w'=>e=.returned (.slice a 0 cap)/\w'=w:=Any.slices_Compact_string_empty Tryz.lays194 a cap w
open Go.RowKit Go.Lib Go.Sort in
open Go.RowKit Go.Sort in
theorem Tryz.slices_Sort_string_none (p:Option Addr)(cap:Nat)(w:World):
   Cf 95 #[.slice p 0 cap] w λe w'=>e=.returned (.tuple #[])/\w'=w:=Any.slices_Sort_string_none Tryz.lays190 p cap w
open Go.RowKit Go.Lib in
open Go.RowKit in
theorem Tryz.strings_Trim_laid (s cutset:ByteArray)(w:World)(hs:s.size <=9223372036854775807)(hcs:cutset.size<4294967281)(hascii:∀(j:Nat) b,cutset.data.toList[j]? =some b->b.toNat<128):
   Cf 105 #[.string s,.string cutset] w λe w'=>e=.returned (.string ⟨(Lib.trimS s.data.toList cutset.data.toList).toArray⟩)/\bW w w':=
 Any.strings_Trim_laid Tryz.lays160 (by kernel_rfl) s cutset w hs hcs hascii
end Go.Proofs
namespace Go.Pk
open Go.RowKit (Below)
open Go.Proofs
def Jm (n:Int):Prop:=n=9\/(32 <=n/\n <=47)\/(59 <=n/\n <=64)\/(91 <=n/\n <=96)\/(123 <=n/\n <=126)
instance  (n:Int):Decidable (Jm n):=by unfold Jm;infer_instance
def sJ (c:UInt8):Bool:=decide (48 <=c)&&decide (c <=57)
def xO (l:List UInt8):Int:=l.foldl (λn c=>n*10+((c.toNat:Int)-48)) 0
theorem Da:∀n,n<256->([48,49,50,51,52,53,54,55,56,57]:List UInt8).contains (UInt8.ofNat n)=sJ (UInt8.ofNat n):=by decide+kernel
theorem JW (c:UInt8):([48,49,50,51,52,53,54,55,56,57]:List UInt8).contains c=sJ c:=by
 have:=Da c.toNat (by have:=c.toNat_lt;omega)
 rwa [UInt8.ofNat_toNat]at this
theorem vT {c:UInt8} :sJ c=true ↔ 48 <=c.toNat/\c.toNat <=57:=by
 unfold sJ
 rw[Bool.and_eq_true,dTx,dTx,UInt8.le_iff_toNat_le,UInt8.le_iff_toNat_le]
 exact Iff.rfl
structure Fnd where
 time:Bool
 day:Bool
 month:Bool
 year:Bool
 s0:Int
 s1:Int
 s2:Int
 y:Int
 m:Int
 d:Int
def Fnd.cells (f:Fnd):List Value:=[.bool f.time,.bool f.day,.bool f.month,.bool f.year,vI f.s0,vI f.s1,vI f.s2,vI f.y,vI f.m,vI f.d]
def LQ (y:Int):Int:=if 70 <=y/\y <=99 then y+1900 else if y<70 then y+2000 else y
def KX (f:Fnd):Prop:=GX (LQ f.y) f.m f.d/\f.time=true/\f.year=true/\f.s0 <=23/\f.s1 <=59/\f.s2 <=59
instance  (f:Fnd):Decidable (KX f):=by unfold KX;infer_instance
theorem oR:∀(l:List UInt8) (acc:Int),0 <=acc->(∀c∈l,sJ c=true)->0 <=l.foldl (λn c=>n*10+((c.toNat:Int)-48)) acc/\l.foldl (λn c=>n*10+((c.toNat:Int)-48)) acc<(acc+1)*10 ^ l.length
 | [],acc,h,_=>by simp;omega
 | c::l,acc,h,hd=>by
   have hc:=vT.1 (hd c List.mem_cons_self)
   obtain⟨h1,h2⟩:=oR l (acc*10+((c.toNat:Int)-48)) (by omega) λx hx=>hd x (List.mem_cons_of_mem _ hx)
   rw[List.foldl_cons]
   refine⟨h1,Int.lt_of_lt_of_le h2 ?_⟩
   rw[List.length_cons,Int.pow_succ,Int.mul_comm (10 ^ l.length) 10,<- Int.mul_assoc]
   exact Int.mul_le_mul_of_nonneg_right (by omega) (Int.pow_nonneg (by decide))
theorem IP {a b:Nat}(h:a <=b):(10:Int) ^ a <=10 ^ b:=by
 have:=Nat.pow_le_pow_right (n:=10) (by decide) h
 have e:∀k:Nat,((10 ^ k:Nat):Int)=10 ^ k:=λk=>by simp
 rw[<- e,<- e];omega
theorem JV {s:List UInt8}{k:Nat}(h:k<s.length):sJ s[k]=true ↔ 48 <=aX s (k:Int)/\aX s (k:Int) <=57:=by
 rw[jG (i:=(k:Int)) (by simpa using h),vT]
 simp only[Int.toNat_natCast];omega
theorem Gn (l:List UInt8)(c:UInt8):xO (l++[c])=xO l*10+((c.toNat:Int)-48):=by unfold xO;rw[List.foldl_append];rfl
theorem yb (s:List UInt8)(hs:s.length <=9223372036854775800)(w:World):Cf mc #[vS s] w (Ret λv w'=>v=vS (gS s)/\bW w w'):=by
 apply wH
 refine⟨λm o i w'=>∃k:Nat,k <=s.length/\i=(k:Int)/\o=gS (s.take k)/\m=s.length-k/\bW w w',⟨_,0,by omega,rfl,rfl,rfl,Below.refl _ _⟩,?_⟩
 intro m o i
 refine aE.of ?_ _
 rintro w1 ⟨k,hk,rfl,rfl,rfl,hb⟩
 refine ae.of (λh=>?_) (λh=>?_) <;> simp only[dTx,dFx]at h
 · have hlt:k<s.length:=by omega
   have hlow:=Es s[k]
   have hu:=mD s[k]
   rw[jG (i:=(k:Int)) (by simpa using hlt)]
   simp only[Int.toNat_natCast]
   refine⟨⟨by omega,h⟩,Lw (w:=w1) ((CQ s[k]).toNat:Nat) ?_ ?_⟩
   · refine ae.of (λh2=>?_) (λh2=>?_) <;> simp only[ge_iff_le,dTx,dFx]at h2
     · refine ae.of (λh3=>?_) (λh3=>?_) <;> simp only[ge_iff_le,dTx,dFx]at h3
       · rw[if_pos ⟨h2,h3⟩]at hlow
         exact⟨rfl,by rw[wrap_u8 (by omega) (by omega),hlow]⟩
       · rw[if_neg (λe=>h3 e.2)]at hlow
         exact⟨rfl,hlow.symm⟩
     · rw[if_neg (λe=>h2 e.1)]at hlow
       exact⟨rfl,hlow.symm⟩
   · intro k1 w2 hk1 hw2
     have ho:Ow tU8 aF w2 NoB (some ⟨k1,0,none⟩) 1 1 [CQ s[k]]:=Ow.newF sD hk1 hw2 (gy.one (rz rfl)) (show 1 <=maxLen by decide)
     have hl:(gS (s.take k)).length=k:=by simp[gS];omega
     refine⟨_,oo bG aB bA ho.all,by rw[hl];simp[IntKind.max,IntKind.bits];omega,?_⟩
     rintro _ rfl
     refine⟨s.length-(k+1),by omega,k+1,by omega,by rw[wrap_i64 (by omega) (by omega)];omega,?_,rfl,ab hb (hw2▸af _ _) hb.size⟩
     unfold gS;rw[List.take_succ_eq_append_getElem hlt,List.map_append];rfl
 · have:k=s.length:=by omega
   subst this
   rw[List.take_length];exact⟨rfl,hb⟩
theorem CY (w:World)(k:Nat)(os:Array Obj):bW w (Go.Sort.grow (w.drewN k) os):=by
 refine q9 rfl rfl rfl (by simp[Go.Sort.grow,World.drewN]) λj hj=>?_
 show(w.heap++os)[j]? =_
 rw[Array.getElem?_append_left hj]
abbrev KN (P:Program)(w:World):Prop:=Lib.TabIs P w "internal/strconv.uint64pow10" .u64 Lib.pow10Tab
def stripR (p:UInt8->Bool)(s:List UInt8):List UInt8:=(s.reverse.dropWhile p).reverse
def zw (p:UInt8->Bool)(s:List UInt8):List UInt8:=stripR p (s.dropWhile p)
theorem qI (p:UInt8->Bool)(x:UInt8)(s:List UInt8):stripR p (x::s)=if stripR p s=[]then(if p x then[]else[x])else x::stripR p s:=by
 unfold stripR
 rw[List.reverse_cons]
 have key:∀t:List UInt8,List.dropWhile p (t++[x])=if List.dropWhile p t=[]then(if p x then[]else[x])else List.dropWhile p t++[x]:=by
   intro t
   induction t with
   | nil=>simp[List.dropWhile_cons]
   | cons y t ih=>
     rw[List.cons_append,List.dropWhile_cons,List.dropWhile_cons]
     split
     · exact ih
     · rw[if_neg (by simp)];rfl
 rw[key]
 by_cases h:List.dropWhile p s.reverse=[]
 · have h':(List.dropWhile p s.reverse).reverse=[]:=by rw[h];rfl
   rw[if_pos h,if_pos h']
   split <;> rfl
 · have h': ¬ (List.dropWhile p s.reverse).reverse=[]:=by simpa using h
   rw[if_neg h,if_neg h']
   simp
theorem zx (p:UInt8->Bool):∀s:List UInt8,(stripR p s).dropWhile p=zw p s
 | []=>rfl
 | x::s=>by
   have ih:=zx p s
   unfold zw at ih ⊢
   cases hx:p x with
   | true=>
     have e1:List.dropWhile p (x::s)=List.dropWhile p s:=by rw[List.dropWhile_cons,if_pos hx]
     rw[e1,<- ih,qI]
     by_cases h:stripR p s=[]
     · rw[if_pos h,if_pos hx,h]
     · rw[if_neg h,List.dropWhile_cons,if_pos hx]
   | false=>
     have hx': ¬ p x=true:=by rw[hx];decide
     have e1:List.dropWhile p (x::s)=x::s:=by rw[List.dropWhile_cons,if_neg hx']
     rw[e1,qI]
     by_cases h:stripR p s=[]
     · rw[if_pos h,if_neg hx',List.dropWhile_cons,if_neg hx']
     · rw[if_neg h,List.dropWhile_cons,if_neg hx']
theorem pE (p:UInt8->Bool):∀s:List UInt8,stripR p s=[] ↔ s.all p=true
 | []=>by simp[stripR]
 | x::s=>by
   have ih:=pE p s
   rw[qI,List.all_cons,Bool.and_eq_true,<- ih]
   by_cases h:stripR p s=[]
   · rw[if_pos h]
     cases p x <;> simp[h]
   · rw[if_neg h];simp[h]
theorem pD (p:UInt8->Bool):∀s:List UInt8,zw p s=[] ↔ s.all p=true
 | []=>by simp[zw,stripR]
 | x::s=>by
   unfold zw
   rw[List.dropWhile_cons]
   cases hx:p x with
   | true=>rw[if_pos rfl,List.all_cons,hx,Bool.true_and];exact pD p s
   | false=>rw[if_neg (by decide),pE]
theorem DI (s cs:List UInt8):Lib.trimS s cs=zw (cs.contains ·) s:=zx _ s
def cG (s:List UInt8):Bool:= !(s==[])&&s.all sJ
theorem DJ (s:List UInt8):(Lib.trimS s [48,49,50,51,52,53,54,55,56,57]==[])=s.all sJ:=by
 rw[DI]
 have e:(λx=>([48,49,50,51,52,53,54,55,56,57]:List UInt8).contains x)=sJ:=funext JW
 rw[e,Bool.eq_iff_iff,beq_iff_eq,pD]
def Ay (s:List UInt8):Prop:=cG s=true/\s.length <=18/\ ¬ (s.head?=some 48/\1<s.length)
instance  (s:List UInt8):Decidable (Ay s):=by unfold Ay;infer_instance
theorem j1 (s:List UInt8)(hs:s.length <=9223372036854775807)(w:World):Cf gk #[vS s] w (Ret λv w'=>v=.bool (cG s)/\bW w w'):=by
 apply ur
 unfold cG
 refine ae.of (λh=>?_) (λh=>?_)
 · refine⟨⟨by decide,by decide⟩,?_⟩
   rintro _ rfl
   refine(Tryz.strings_Trim_laid (mkS s) (mkS [48,49,50,51,52,53,54,55,56,57]) w hs (by decide) (ascii_of_all (by decide))).mono ?_
   rintro _ w1 ⟨rfl,hb⟩
   refine⟨_,rfl,?_,hb⟩
   have e:=DJ s
   rw[h,Bool.true_and,<- e];rfl
 · rw[h];exact⟨rfl,Below.refl _ _⟩
theorem vZ (s:List UInt8)(hs:s.length <=9223372036854775000)(w:World):
   Cf kP #[vS s] w (Ret λv w'=>v=(if Ay s then .tuple #[vI (xO s),.bool true]else .tuple #[vI 0,.bool false])/\bW w w'):=by
 apply ut
 have bad:∀{w':World},¬ Ay s->bW w w'->(.tuple #[vI 0,.bool false]:Value)=(if Ay s then .tuple #[vI (xO s),.bool true]else .tuple #[vI 0,.bool false])/\bW w w':=λhn hb=>⟨by rw[if_neg hn],hb⟩
 refine iA (λw'=>Ay s/\bW w w') ?_ ?_
 · refine av (j1 s (by omega) w) ?_
   rintro _ w1 ⟨rfl,hb⟩
   refine⟨_,rfl,?_⟩
   refine ae.of (λh=>?_) (λh=>?_) <;> simp only[Bool.not_eq_true',Bool.not_eq_false']at h
   · exact bad (λhc=>by rw[hc.1]at h;cases h) hb
   refine ae.of (λh2=>?_) (λh2=>?_) <;> simp only[gt_iff_lt,dTx,dFx]at h2
   · exact bad (λhc=>by have:=hc.2.1;omega) hb
   have hne:s≠[]:=λe=>by rw[e]at h;cases h
   match s,hne with
   | c::r,_=>
     have hx:aX (c::r) 0=((c.toNat:Nat):Int):=rfl
     rw[hx]
     refine⟨⟨by decide,by simp only[List.length_cons];omega⟩,?_⟩
     refine ae.of (λh3=>?_) (λh3=>?_)
     · have hc:c=48:=HF (by simpa using h3)
       refine ae.of (λh4=>?_) (λh4=>?_) <;> simp only[gt_iff_lt,dTx,dFx]at h4
       · exact bad (λhcn=>hcn.2.2 ⟨by rw[hc];rfl,by omega⟩) hb
       · exact⟨⟨h,by omega,λhcn=>by omega⟩,hb⟩
     · have hc:c≠48:=λe=>by subst e;cases h3
       exact⟨⟨h,by omega,λhcn=>hc (by simpa using hcn.1)⟩,hb⟩
 · rintro w1 ⟨hn,hb⟩
   rw[if_pos hn]
   obtain⟨hd,hl,_⟩:=hn
   have hall:∀c∈s,sJ c=true:=λc hc=>by
     unfold cG at hd
     rw[Bool.and_eq_true]at hd
     exact List.all_eq_true.1 hd.2 c hc
   obtain⟨w2,a,n,c,hr,ho,hb2,hf⟩:=oP aB bG bA w1 s (by omega) NoB
   have hnn:=ho.len
   subst hnn
   have hb12:=ab hb hb2 hb.size
   refine⟨w2,a,_,c,hr,?_⟩
   refine⟨λm n i w'=>∃k:Nat,k <=s.length/\i=(k:Int)/\n=xO (s.take k)/\m=s.length-k/\w'=w2,⟨_,0,by omega,rfl,rfl,rfl,rfl⟩,?_⟩
   intro m n i
   refine aE.of ?_ _
   rintro w' ⟨k,hk,rfl,rfl,rfl,rfl⟩
   refine ae.of (λh=>?_) (λh=>?_) <;> simp only[dTx,dFx]at h
   · have hlt:k<s.length:=by omega
     have hc:=vT.1 (hall s[k] (List.getElem_mem hlt))
     have hbd:=oR (s.take k) 0 (by decide) λc hc=>hall c (List.mem_of_mem_take hc)
     have hp:(10:Int) ^ (s.take k).length <=10 ^ 17:=IP (by rw[List.length_take];omega)
     have e17:(10:Int) ^ 17=100000000000000000:=by decide
     have hV:(s.take k).foldl (λn c=>n*10+((c.toNat:Int)-48)) 0=xO (s.take k):=rfl
     rw[hV]at hbd
     have hbb:=hbd.2
     rw[Int.zero_add,Int.one_mul]at hbb
     obtain⟨v,hv,hrep⟩:=ho.all.load1 (i:=(k:Int)) bA rfl rfl (by simpa using hlt)
     have:=tT hrep
     subst this
     simp only[Int.toNat_natCast]at hv
     refine⟨⟨⟨by omega,h⟩,ho.all.isSome hlt⟩,_,hv,s.length-(k+1),by omega,k+1,by omega,by rw[wrap_i64 (by omega) (by omega)];omega,?_,rfl,rfl⟩
     rw[List.take_succ_eq_append_getElem hlt,Gn,wrap_i64 (n:=10*xO (s.take k)) (by omega) (by omega),wrap_u8 (n:=((s[k].toNat:Nat):Int)-48) (by omega) (by omega),wrap_i64 (n:=((s[k].toNat:Nat):Int)-48) (by omega) (by omega),wrap_i64 (by omega) (by omega)]
     omega
   · have:k=s.length:=by omega
     subst this
     rw[List.take_length];exact⟨rfl,hb12⟩
theorem iV (s:List UInt8)(c:UInt8)(hs:s.length<4294967281)(w:World)(he:Env w):
   Cf fN #[vS s,.int .u8 ((c.toNat:Nat):Int)] w (Ret λv w'=>∃a n cp,v=.slice a n cp/\Ow tS aq w' NoB a n cp (bL c [] s)/\bp w.heap.size a/\bW w w'):=by
 apply wG
 intro k w1 hk hw
 have hB:=(hw▸af w _:bW w w1)
 have ho:Ow tU8 aF w1 NoB (some ⟨k,0,none⟩) 1 1 [c]:=Ow.newF (l:=[_]) sD hk hw (gy.one (rz rfl)) (show 1 <=maxLen by decide)
 refine⟨_,oo bG aB bA ho.all,?_⟩
 obtain⟨m,hm⟩:=(he.step hB).max
 refine(Tryz.strings_Split (mkS s) (mkS [c]) m w1 hs hm (Nat.le_refl 1)).mono ?_
 rintro _ w2 ⟨rfl,hw2⟩
 have hcnt:=gG c s []
 rw[xg,DB]at*
 refine⟨_,_,_,rfl,_,_,_,rfl,Ow.newF (gZ _) rfl hw2 (gu λ_ _=>trivial) (by show _ <=2 ^ 63-1;omega),lu rfl |>.mono hB.size,ab hB (hw2▸af _ _) hB.size⟩
theorem pj (c n:UInt8):((((c.toNat:Nat):Int))==((n.toNat:Nat):Int))=(c==n):=by
 rw[Bool.eq_iff_iff,beq_iff_eq,beq_iff_eq]
 exact⟨λh=>HF h,λh=>by rw[h]⟩
theorem byte_at {s:List UInt8}{k:Nat}(h:k<s.length):aX s (k:Int)=((s[k].toNat:Nat):Int):=by
 rw[jG (i:=(k:Int)) (by simpa using h)];simp only[Int.toNat_natCast]
theorem nV (s:List UInt8)(hs:s.length <=9223372036854775807)(w:World):Cf iR #[vS s] w (Ret λv w'=>v=.bool (cG s)/\w'=w):=by
 apply uu
 refine⟨λm i w'=>∃k:Nat,k <=s.length/\i=(k:Int)/\m=s.length-k/\(s.take k).all sJ=true/\w'=w,⟨_,0,by omega,rfl,rfl,rfl,rfl⟩,?_⟩
 intro m i
 refine aE.of ?_ _
 rintro w' ⟨k,hk,rfl,rfl,hall,rfl⟩
 refine ae.of (λh=>?_) (λh=>?_) <;> simp only[dTx,dFx]at h
 · have hlt:k<s.length:=by omega
   have hd:=JV hlt
   have bad: ¬ sJ s[k]=true->(.bool false:Value)=.bool (cG s)/\w'=w':=λhn=>⟨by
     congr 1
     symm
     unfold cG
     rw[Bool.and_eq_false_iff]
     right
     rw[Bool.eq_false_iff]
     intro hc
     exact hn (List.all_eq_true.1 hc _ (List.getElem_mem hlt)),rfl⟩
   refine⟨⟨by omega,h⟩,?_⟩
   refine ae.of (λh2=>?_) (λh2=>?_) <;> simp only[dTx,dFx]at h2
   · exact bad λhc=>by have:=(hd.1 hc).1;omega
   refine⟨⟨by omega,h⟩,?_⟩
   refine ae.of (λh3=>?_) (λh3=>?_) <;> simp only[gt_iff_lt,dTx,dFx]at h3
   · exact bad λhc=>by have:=(hd.1 hc).2;omega
   · refine⟨s.length-(k+1),by omega,k+1,by omega,by rw[wrap_i64 (by omega) (by omega)];omega,rfl,?_,rfl⟩
     rw[List.take_succ_eq_append_getElem hlt,List.all_append,hall]
     simp[hd.2 ⟨by omega,by omega⟩]
 · have:k=s.length:=by omega
   subst this
   rw[List.take_length]at hall
   refine⟨?_,rfl⟩
   congr 1
   unfold cG
   rw[hall,Bool.and_true]
   cases s <;> simp
theorem iW (s:List UInt8)(c:UInt8)(hs:s.length <=100000000)(w:World):
   Cf fO #[vS s,.int .u8 ((c.toNat:Nat):Int)] w (Ret λv w'=>∃a n cp,v=.slice a n cp/\Ow tS aq w' NoB a n cp (bL c [] s)/\bp w.heap.size a/\bW w w'):=by
 apply wJ
 intro k8 w8 hk8 hw8
 have hB:=(hw8▸af w _:bW w w8)
 have ho8:Ow tS aq w8 NoB (some ⟨k8,0,none⟩) 0 0 []:=Ow.newF (gZ _) hk8 hw8 (gy.nil _ _ _) (Nat.zero_le _)
 refine⟨λm a n cp fr i w'=>∃(k j:Nat) (done:List (List UInt8)),k <=s.length/\j <=k/\i=(k:Int)/\fr=(j:Int)/\m=s.length-k/\done.length <=k/\bL c [] s=done++bL c ((s.take k).drop j) (s.drop k)/\
     Ow tS aq w' NoB a n cp done/\bp w.heap.size a/\bW w w',
   ⟨_,0,0,[],by omega,by omega,rfl,rfl,rfl,Nat.le_refl _,rfl,ho8,lu hk8,hB⟩,?_⟩
 intro m a n cp fr i
 refine aE.of ?_ _
 rintro w1 ⟨k,j,done,hk,hj,rfl,rfl,rfl,hdl,hcut,ho,hf,hb⟩
 refine ae.of (λh=>?_) (λh=>?_) <;> simp only[dTx,dFx]at h
 · have hlt:k<s.length:=by omega
   have ew:i64.wrap ((k:Int)+1)=((k+1:Nat):Int):=by rw[wrap_i64 (by omega) (by omega)];omega
   try dsimp only
   rw[ew,byte_at hlt,pj]
   rw[JU c s _ k hlt]at hcut
   refine⟨⟨by omega,h⟩,?_⟩
   refine ae.of (λh2=>?_) (λh2=>?_)
   · rw[beq_iff_eq]at h2
     rw[if_pos h2]at hcut
     refine⟨⟨⟨by omega,by omega⟩,by omega,by omega⟩,?_⟩
     rintro _ rfl k3 w3 hk3 hw3
     simp only[Int.toNat_natCast]at hw3 ⊢
     obtain⟨w4,a4,n4,c4,hr,ho4,hf4,hb4⟩:=Du (ty:=au) (w0:=w) (cm:=1) (vs:=[_]) (gZ _) bF lH (by decide) ho hf hb hk3 hw3 (sO trivial) (by omega)
     refine⟨w4,a4,n4,c4,hr,s.length-(k+1),by omega,k+1,k+1,_,by omega,Nat.le_refl _,rfl,rfl,rfl,?_,?_,ho4,hf4,hb4⟩
     · simp;omega
     · have hnil:(s.take (k+1)).drop (k+1)=[]:=List.drop_eq_nil_of_le (by rw[List.length_take];omega)
       rw[hcut,hnil]
       simp
   · rw[beq_eq_false_iff_ne]at h2
     rw[if_neg h2]at hcut
     refine⟨s.length-(k+1),by omega,k+1,j,done,by omega,by omega,rfl,rfl,rfl,by omega,?_,ho,hf,hb⟩
     rw[hcut,List.take_succ_eq_append_getElem hlt,List.drop_append_of_le_length (by rw[List.length_take];omega)]
 · have:k=s.length:=by omega
   subst this
   refine⟨⟨by omega,by omega⟩,?_⟩
   rintro _ rfl k3 w3 hk3 hw3
   simp only[Int.toNat_natCast]at hw3 ⊢
   obtain⟨w4,a4,n4,c4,hr,ho4,hf4,hb4⟩:=Du (ty:=au) (w0:=w) (cm:=1) (vs:=[_]) (gZ _) bF lH (by decide) ho hf hb hk3 hw3 (sO trivial) (by omega)
   refine⟨w4,a4,n4,c4,hr,_,_,_,rfl,?_,hf4,hb4⟩
   rw[hcut]
   simpa[bL]using ho4
theorem IQ (s:List UInt8)(c:UInt8):Lib.hasPrefix s [c]=decide (s.head?=some c)/\Lib.trimPrefix s [c]=if s.head?=some c then s.drop 1 else s:=by
 cases s with
 | nil=>exact⟨by simp[Lib.hasPrefix],rfl⟩
 | cons x s=>
   by_cases h:x=c
   · subst h
     have ht:Lib.hasPrefix (x::s) [x]=true:=by simp[Lib.hasPrefix,List.isPrefixOf]
     refine⟨by rw[ht];simp,?_⟩
     unfold Lib.trimPrefix;rw[ht];simp
   · have hf:Lib.hasPrefix (x::s) [c]=false:=by simp[Lib.hasPrefix,List.isPrefixOf,Ne.symm h]
     refine⟨by rw[hf];simp[h],?_⟩
     unfold Lib.trimPrefix;rw[hf];simp[h]
theorem ak.put {P:Program}{u:TypeId}{bytes:Nat}{z:Value}(tf:TF P u 1 bytes z){w:World}{k:Nat}{t:TypeId}{vs:List Value}(h:ak w k t vs){i:Nat}{v:Value}(hi:i<vs.length)(h1:v.oneCell'=true)(hc:v.cells= #[v]):
   ∃w',(Instr.storeAt u (.pointer (some ⟨k,i,none⟩)) v).run P w=.ok () w'/\ak w' k t (vs.set i v)/\w.grownBy w' (some k):=by
 obtain⟨w',hs,ha,hg⟩:=h.store tf (i:=i) (v:=v) (by rw[hc];rfl) (by omega) (by rw[hc];intro c hcc;simp at hcc;subst hcc;exact h1)
 refine⟨w',hs,?_,hg⟩
 rw[hc]at ha
 have:vs.set i v=vs.take i++[v]++vs.drop (i+1):=by
   rw[List.set_eq_take_append_cons_drop,if_pos hi];simp
 rw[this];exact ha
theorem Gj (s:List UInt8)(c:UInt8)(w:World):Cf jU #[vS s,vS [c]] w (Ret λv w'=>v=.tuple #[vS (if s.head?=some c then s.drop 1 else s),.bool (decide (s.head?=some c))]/\w'=w):=by
 refine(Tryz.strings_CutPrefix (mkS s) (mkS [c]) w).mono ?_
 rintro _ _ ⟨rfl,rfl⟩
 refine⟨_,rfl,?_,rfl⟩
 have h:=IQ s c
 have e:(mkS s).data.toList=s:=rfl
 have e2:(mkS [c]).data.toList=[c]:=rfl
 rw[e,e2,h.1]
 by_cases hc:s.head?=some c
 · rw[if_pos hc]
   have h2:=h.2
   rw[if_pos hc]at h2
   rw[h2];rfl
 · rw[if_neg hc]
   have h2:=h.2
   rw[if_neg hc]at h2
   rw[h2];rfl
structure Whl (P:Program)(t:TypeId)(n:Nat):Prop where
 tf:∃bytes z,TF P t n bytes z
 ag:(P.underlying t).map CO=some true
def yT (cs:List Value):Prop:=∀c∈cs,c.oneCell'=true
theorem AC {a b:List Value}(h:yT a)(k:yT b):yT (a++b):=λc hc=>(List.mem_append.1 hc).elim (h c) (k c)
theorem aN {x:Value}{b:List Value}(h:x.oneCell'=true)(k:yT b):yT (x::b):=λc hc=>(List.mem_cons.1 hc).elim (λe=>e▸h) (k c)
theorem hQ:yT []:=λ_ h=>by cases h
theorem Le (a:List UInt8):yT (a.map λc=>Value.int .u8 ((c.toNat:Nat):Int)):=λc hc=>by
 obtain⟨x,_,rfl⟩:=List.mem_map.1 hc;rfl
theorem Whl.store {P:Program}{t:TypeId}{n:Nat}(h:Whl P t n){cs:List Value}(hl:cs.length=n)(h1:yT cs){w:World}{k:Nat}{T:TypeId}{vs:List Value}(ha:ak w k T vs){i:Nat}(hfit:i+n <=vs.length):
   ∃wx,(Instr.storeAt t (.pointer (some ⟨k,i,none⟩)) (.agg cs.toArray)).run P w=.ok () wx/\ak wx k T (vs.take i++cs++vs.drop (i+n))/\w.grownBy wx (some k):=by
 obtain⟨bytes,z,tf⟩:=h.tf
 exact ha.store tf (i:=i) (v:=.agg cs.toArray) (by simpa[Value.cells]using hl) hfit (λc hc=>h1 c (by simpa[Value.cells]using hc))
theorem Whl.store0 {P:Program}{t:TypeId}{n:Nat}(h:Whl P t n){cs:List Value}(hl:cs.length=n)(h1:yT cs){w:World}{k:Nat}{T:TypeId}{vs:List Value}(ha:ak w k T vs)(hv:vs.length=n):
   ∃wx,(Instr.storeAt t (.pointer (some ⟨k,0,none⟩)) (.agg cs.toArray)).run P w=.ok () wx/\ak wx k T cs/\w.grownBy wx (some k):=by
 obtain⟨wx,hs,h2,hg⟩:=h.store hl h1 ha (i:=0) (by omega)
 refine⟨wx,hs,?_,hg⟩
 rw[List.take_zero,List.nil_append,List.drop_eq_nil_of_le (by omega),List.append_nil]at h2
 exact h2
theorem Whl.load {P:Program}{t:TypeId}{n:Nat}(h:Whl P t n){w:World}{k:Nat}{T:TypeId}{vs us:List Value}(ha:ak w k T vs){i:Nat}(hl:us.length=n)(hv:∀j,j<n->vs[i+j]? =us[j]?):
   (Instr.loadAt t (.pointer (some ⟨k,i,none⟩))).run P w=.ok (.agg us.toArray) w:=by
 obtain⟨bytes,z,tf⟩:=h.tf
 obtain⟨ti,hti,hsz,_,_⟩:=tf.info
 have hag:=h.ag
 cases hu:P.underlying t with
 | none=>rw[hu]at hag;cases hag
 | some d=>
   rw[hu]at hag
   simp only[Option.map_some,Option.some.injEq]at hag
   exact ha.loadA hu hag hti (us:=us) (i:=i) (by rw[hsz];exact hl) (λj hj=>hv j (by omega))
theorem Whl.load0 {P:Program}{t:TypeId}{n:Nat}(h:Whl P t n){w:World}{k:Nat}{T:TypeId}{cs:List Value}(ha:ak w k T cs)(hl:cs.length=n):
   (Instr.loadAt t (.pointer (some ⟨k,0,none⟩))).run P w=.ok (.agg cs.toArray) w:=h.load ha hl λj _=>by rw[Nat.zero_add]
theorem Whl.new {P:Program}{t:TypeId}{n:Nat}(h:Whl P t n){zs cs:List Value}(hz:zs.length=n)(hl:cs.length=n)(h1:yT cs)(w:World){R:Nat->World->Prop}
   (H:∀k wx,k=w.heap.size->ak wx k t cs->bW w wx->R k wx):
   ∀(k:Nat) (w1:World),k=w.heap.size->w1=w.alloc (.cells zs.toArray t)->∃(wx:World),(Instr.storeAt t (.pointer (some ⟨k,0,none⟩)) (.agg cs.toArray)).run P w1=.ok () wx/\R k wx:=by
 intro k w1 hk hw
 have hB:=(hw▸af w _:bW w w1)
 obtain⟨wx,hs,h3,hg⟩:=h.store0 hl h1 (ak.new hk hw:ak w1 k t zs) hz
 exact⟨wx,hs,H k wx hk h3 (hB.grown hg hB.size λx e=>by cases e;omega)⟩
theorem Whl.fin {P:Program}{t:TypeId}{n:Nat}(h:Whl P t n){cs:List Value}(hl:cs.length=n)(h1:yT cs){w w':World}{k2:Nat}{vs:List Value}(h2:ak w' k2 t vs)(hv:vs.length=n)(hb:bW w w')(hk:w.heap.size <=k2)
   {K:Value->World->Prop} (hK:∀wx,bW w wx->K (.agg cs.toArray) wx):
   ∃(wx:World),(Instr.storeAt t (.pointer (some ⟨k2,0,none⟩)) (.agg cs.toArray)).run P w'=.ok () wx/\∃vr:Value,(aZ t (.pointer (some ⟨k2,0,none⟩))).run P wx=.ok vr wx/\K vr wx:=by
 obtain⟨wx,hs,h3,hg⟩:=h.store0 hl h1 h2 hv
 exact⟨wx,hs,_,ak.res (h.load0 h3 hl),hK wx (hb.grown hg hb.size λx e=>by cases e;exact hk)⟩
theorem Below.put {w0 w w':World}{k:Nat}(h:bW w0 w)(hg:w.grownBy w' (some k))(hk:w0.heap.size <=k):bW w0 w':=h.grown hg h.size λx e=>by cases e;exact hk
theorem gM {x y:Nat}(h:x≠y):some x≠some y:=λe=>h (Option.some.inj e)
theorem fB (k o i:Nat):am (some ⟨k,o,none⟩) (i:Int) 1=some ⟨k,o+i,none⟩:=by
 unfold am
 simp only[Option.map_some,Int.toNat_natCast,Nat.mul_one,Option.some.injEq]
 unfold Addr.add;split <;> simp_all
theorem Ow.put {α:Type}{T:Ty α}{t:TypeId}{w w':World}{a:Option Addr}{n c k:Nat}{xs:List α}(h:Ow T t w NoB a n c xs)(hog:∀g,bu a=some g->g≠k)(hg:w.grownBy w' (some k)):Ow T t w' NoB a n c xs:=
 h.keep (gI hg λb hb e=>by
   rcases hb with hb|hb
   · exact hb
   · exact hog b hb.symm (Option.some.inj e))
theorem Sl.text {P:Program}{u:TypeId}(hu:P.underlying u=some .string){w:World}{A:Bl}{a:Option Addr}{n c:Nat}{xs:List (List UInt8)}(h:Sl tS w A a n c xs){i:Nat}(hi:i<xs.length):(Instr.loadAt u (.pointer (am a (i:Int) 1))).run P w=.ok (.string (mkS xs[i])) w:=by
 obtain⟨v,hv,hrep⟩:=h.load1 (i:=(i:Int)) hu rfl rfl (by simpa using hi)
 obtain⟨rfl,-⟩:=kh hrep
 simpa using hv
def adC (a:List UInt8):List Value:=a.map λc=>Value.int .u8 ((c.toNat:Nat):Int)
def adV (a:List UInt8):Value:=.agg (adC a).toArray
def ad0:List UInt8:=List.replicate 16 0
theorem bX (a:List UInt8):(adC a).length=a.length:=by simp[adC]
theorem dO (a:List UInt8):yT (adC a):=Le a
theorem qo (a:List UInt8)(i:Nat)(c:UInt8):(adC a).set i (.int .u8 ((c.toNat:Nat):Int))=adC (a.set i c):=by unfold adC;rw[List.map_set]
theorem u5 {a:List UInt8}{i:Nat}(h:i<a.length):(adC a)[i]? =some (.int .u8 ((a[i].toNat:Nat):Int)):=by unfold adC;rw[List.getElem?_map,List.getElem?_eq_getElem h];rfl
def adT:Option (List UInt8)->Value
 | some a=>.tuple #[adV a,.bool true]
 | none=>.tuple #[adV ad0,.bool false]
def xX (x:List UInt8):Prop:=Ay x/\xO x <=255
instance  (x:List UInt8):Decidable (xX x):=by unfold xX;infer_instance
def ipB (x:List UInt8):UInt8:=UInt8.ofNat (xO x).toNat
def v4V (s:List UInt8):Option (List UInt8):=if(bL 46 [] s).length=4/\∀x∈bL 46 [] s,xX x then some (List.replicate 12 0++(bL 46 [] s).map ipB)else none
theorem Jk {x:List UInt8}(h:xX x):IntKind.u8.wrap (xO x)=(((ipB x).toNat:Nat):Int):=by
 have hd:0 <=xO x:=by
   have:=h.1.1
   unfold cG at this
   rw[Bool.and_eq_true]at this
   exact(oR x 0 (by decide) (λc hc=>List.all_eq_true.1 this.2 c hc)).1
 have h2:=h.2
 rw[wrap_u8 hd h2]
 unfold ipB
 rw[UInt8.toNat_ofNat']
 omega
def v4S (L:List (List UInt8))(k:Nat):List UInt8:=List.replicate 12 0++(L.take k).map ipB++List.replicate (4-k) 0
theorem Bi {L:List (List UInt8)}(h:L.length=4){k:Nat}(hk:k <=4):(v4S L k).length=16:=by simp[v4S];omega
theorem HK {L:List (List UInt8)}(h:L.length=4){k:Nat}(hk:k<4):(v4S L k).set (12+k) (ipB (L[k]'(by omega)))=v4S L (k+1):=by
 unfold v4S
 have hl:(List.replicate 12 (0:UInt8)++(L.take k).map ipB).length=12+k:=by simp;omega
 rw[List.set_append_right _ _ (by omega),hl,Nat.sub_self,List.take_succ_eq_append_getElem (by omega),List.map_append]
 rw[show 4-k=(4-(k+1))+1 by omega,List.replicate_succ (n:=4-(k+1)),List.set_cons_zero]
 simp
theorem Lp {L:List (List UInt8)}(h:L.length=4):v4S L 4=List.replicate 12 0++L.map ipB:=by unfold v4S;rw[List.take_of_length_le (by omega)];simp
theorem Jr {s:List UInt8}(h: ¬ ((bL 46 [] s).length=4/\∀x∈bL 46 [] s,xX x)):v4V s=none:=if_neg h
theorem bv:Whl prog aj 16:=⟨⟨_,_,DG⟩,by kernel_rfl⟩
theorem wm (s:List UInt8)(hs:s.length <=9223372036854775000)(w:World):
   Cf kQ #[vS s] w (Ret λv w'=>v=(if Ay s then .tuple #[vI (xO s),.bool true]else .tuple #[vI 0,.bool false])/\w'=w):=by
 apply uv
 refine iA (λw'=>Ay s/\w'=w) ?_ ?_
 · refine av (nV s (by omega) w) ?_
   rintro _ w' ⟨rfl,hw⟩
   rw[hw]
   refine⟨_,rfl,?_⟩
   have bad: ¬ Ay s->(.tuple #[vI 0,.bool false]:Value)=(if Ay s then .tuple #[vI (xO s),.bool true]else .tuple #[vI 0,.bool false])/\w=w:=λhn=>⟨by rw[if_neg hn],rfl⟩
   refine ae.of (λh=>bad λhn=>by rw[hn.1]at h;cases h) (λh=>?_)
   have hd:cG s=true:=by simpa using h
   refine ae.of (λh2=>bad λhn=>by have:=hn.2.1;simp at h2;omega) (λh2=>?_)
   have hl:s.length <=18:=by simp at h2;omega
   refine ae.of (λh3=>?_) (λh3=>?_) <;> simp only[dTx,dFx]at h3
   · have hl1:1<s.length:=by omega
     refine⟨⟨by decide,by omega⟩,?_⟩
     have hb:=byte_at (s:=s) (k:=0) (by omega)
     rw[show((0:Nat):Int)=0 from rfl]at hb
     have hu:=pj s[0] 48
     rw[show(((48:UInt8).toNat:Nat):Int)=48 from rfl]at hu
     rw[hb,hu]
     have hhd:s.head?=some s[0]:=by rw[List.head?_eq_getElem?,List.getElem?_eq_getElem]
     refine ae.of (λh4=>bad λhn=>hn.2.2 ⟨?_,hl1⟩) (λh4=>⟨⟨hd,hl,λhn=>?_⟩,rfl⟩)
     · rw[beq_iff_eq]at h4;rw[hhd,h4]
     · rw[hhd]at hn
       rw[Option.some.inj hn.1]at h4;simp at h4
   · exact⟨⟨hd,hl,λhn=>h3 (by omega)⟩,rfl⟩
 · rintro w' ⟨hn,hw⟩
   rw[hw]
   have hdg:∀c∈s,sJ c=true:=by
     have:=hn.1
     unfold cG at this
     rw[Bool.and_eq_true]at this
     exact λc hc=>List.all_eq_true.1 this.2 c hc
   have hl:=hn.2.1
   refine⟨λm v i w'=>∃k:Nat,k <=s.length/\i=(k:Int)/\m=s.length-k/\v=xO (s.take k)/\w'=w,⟨_,0,by omega,rfl,rfl,rfl,rfl⟩,?_⟩
   intro m v i
   refine aE.of ?_ _
   rintro w' ⟨k,hk,rfl,rfl,rfl,hw'⟩
   rw[hw']
   refine ae.of (λh=>?_) (λh=>?_) <;> simp only[dTx,dFx]at h
   · have hlt:k<s.length:=by omega
     rw[byte_at hlt]
     have hc:=hdg s[k] (List.getElem_mem hlt)
     have hu:=mD s[k]
     have hb:=oR (s.take k) 0 (by decide) (λc hc=>hdg c (List.mem_of_mem_take hc))
     have hpow:(10:Int) ^ (s.take k).length <=10 ^ 17:=by
       have:(s.take k).length <=17:=by rw[List.length_take];omega
       exact_mod_cast Nat.pow_le_pow_right (by decide:0<10) this
     have hb2:0 <=xO (s.take k)/\xO (s.take k)<10 ^ 17:=⟨hb.1,by
       have h2:=hb.2
       have:xO (s.take k)<(0+1)*10 ^ (s.take k).length:=h2
       omega⟩
     refine⟨⟨by omega,h⟩,s.length-(k+1),by omega,k+1,by omega,by rw[wrap_i64 (by omega) (by omega)];omega,rfl,?_,rfl⟩
     rw[wrap_i64 (n:=xO (s.take k)*10) (by omega) (by omega),wrap_i64 (n:=((s[k].toNat:Nat):Int)) (by omega) (by omega),wrap_i64 (n:=_+_) (by omega) (by omega),wrap_i64 (by omega) (by omega),List.take_succ_eq_append_getElem hlt]
     unfold xO
     rw[List.foldl_append]
     show _=_*10+(((s[k].toNat:Nat):Int)-48)
     omega
   · have:k=s.length:=by omega
     subst this
     rw[List.take_length,if_pos hn];exact⟨rfl,rfl⟩
theorem ER (s:List UInt8)(hs:s.length<4294967281)(w:World)(he:Env w):Cf vv #[vS s] w (Ret λv w'=>v=adT (v4V s)/\bW w w'):=by
 apply Dx
 intro k2 w2 hk2 hw2
 have hB2:=(hw2▸af w _:bW w w2)
 have h2:ak w2 k2 aj (adC ad0):=ak.new hk2 hw2
 refine av (iV s 46 hs w2 (he.step hB2)) ?_
 rintro _ w3 ⟨a,n,c,rfl,ho,hf,hb3⟩
 have hB3:=ab hB2 hb3 hB2.size
 have h23:=h2.below hb3
 have hn:=ho.len
 have hlens:∀x∈bL 46 [] s,x.length <=s.length:=λx hx=>by simpa using js 46 s [] x hx
 have none_end:∀{wx:World},v4V s=none->ak wx k2 aj (adC ad0)->bW w wx->_:=fun{wx} hv h2x hBx=>bv.fin (K:=λvr wy=>(.tuple #[vr,.bool false]:Value)=adT (v4V s)/\bW w wy) (cs:=adC ad0) rfl (dO _) h2x rfl hBx (by omega) λwy hb=>⟨by rw[hv];rfl,hb⟩
 refine⟨_,_,_,rfl,ae.of (λh4=>?_) (λh4=>?_)⟩
 · refine none_end (Jr λhc=>?_) h23 hB3
   rw[bne_iff_ne]at h4;omega
 have hl4:(bL 46 [] s).length=4:=by simp at h4;omega
 intro k5 w5 hk5 hw5
 have hb5:=(hw5▸af w3 _:bW w3 w5)
 have hB5:=ab hB3 hb5 hB3.size
 have h25:=h23.below hb5
 have h55:ak w5 k5 aj (adC ad0):=ak.new hk5 hw5
 have ho5:=ho.below hb5
 have hlt2:=h23.lt
 have hog:∀g,bu a=some g->g≠k5:=λg hg e=>by have:=ho.lt g hg;omega
 have hk5w:w.heap.size <=k5:=by have:=hB3.size;omega
 obtain⟨L,hL⟩:∃L,L=bL 46 [] s:=⟨_,rfl⟩
 rw[<- hL]at ho5 hl4 hlens hn
 have hv4:v4V s=if L.length=4/\∀x∈L,xX x then some (List.replicate 12 0++L.map ipB)else none:=by rw[hL];rfl
 refine⟨λm i w'=>∃k:Nat,k <=4/\i=(k:Int)/\m=4-k/\(∀j (hj:j<k) (h:j<L.length),xX L[j])/\ak w' k5 aj (adC (v4S L k))/\ak w' k2 aj (adC ad0)/\Ow tS aq w' NoB a n c L/\bW w w',
   ⟨_,0,by omega,rfl,rfl,λj hj=>by omega,h55,h25,ho5,hB5⟩,?_⟩
 intro m i
 refine aE.of ?_ _
 rintro w6 ⟨k,hk,rfl,rfl,hok,h56,h26,ho6,hB6⟩
 refine ae.of (λh=>?_) (λh=>?_) <;> simp only[dTx,dFx]at h
 · have hk4:k<4:=by omega
   have hkL:k<L.length:=by omega
   refine⟨⟨⟨by omega,h⟩,ho6.all.isSome (by omega)⟩,_,ho6.all.text aB hkL,?_⟩
   have hlk:=hlens L[k] (List.getElem_mem hkL)
   refine av (vZ L[k] (by omega) w6) ?_
   rintro _ w7 ⟨rfl,hb7⟩
   have hB7:=ab hB6 hb7 hB6.size
   have hnone: ¬ xX L[k]->v4V s=none:=λhx=>by
     rw[hv4,if_neg λhc=>hx (hc.2 _ (List.getElem_mem hkL))]
   refine⟨if Ay L[k]then xO L[k]else 0,if Ay L[k]then true else false,by split <;> rfl,?_⟩
   refine⟨λw'=>w'=w7/\xX L[k],?_,?_⟩
   · refine JM (B:=λJ=>ae _ (J true w7) (J _ w7)) (!decide (xX L[k])) (ae.of (λh1=>⟨rfl,?_⟩) (λh1=>⟨rfl,?_⟩)) ?_
     · have: ¬ Ay L[k]:=λhc=>by rw[if_pos hc]at h1;cases h1
       have h2: ¬ xX L[k]:=λhc=>this hc.1
       simp[h2]
     · have hnp:Ay L[k]:=Decidable.byContradiction λhc=>by rw[if_neg hc]at h1;cases h1
       rw[if_pos hnp,Bool.eq_iff_iff]
       simp[xX,hnp]
     · refine ae.of (λh1=>none_end (hnone (by simpa using h1)) (h26.below hb7) hB7) (λh1=>⟨rfl,by simpa using h1⟩)
   · refine aE.of ?_ _
     rintro wj ⟨hwj,hip⟩
     rw[hwj];clear hwj
     have e12:i64.wrap (12+(k:Int))=((12+k:Nat):Int):=by rw[wrap_i64 (by omega) (by omega)];omega
     try dsimp only
     rw[e12,fB,if_pos hip.1,Jk hip,Nat.zero_add]
     refine⟨⟨⟨by omega,by omega⟩,rfl⟩,?_⟩
     have h57:=h56.below hb7
     obtain⟨w8,hs8,h58,hg8⟩:=h57.put (P:=prog) fQ (i:=12+k) (v:=.int .u8 (((ipB L[k]).toNat:Nat):Int)) (by rw[bX,Bi hl4 (by omega)];omega) rfl rfl
     rw[qo,HK hl4 hk4]at h58
     refine⟨w8,hs8,4-(k+1),by omega,k+1,by omega,by rw[wrap_i64 (by omega) (by omega)];omega,rfl,?_,h58,(h26.below hb7).grown hg8 (gM (by omega)),(ho6.below hb7).put hog hg8,Below.put hB7 hg8 hk5w⟩
     intro j hj hjl
     by_cases e:j=k
     · subst e;exact hip
     · exact hok j (by omega) hjl
 · have:k=4:=by omega
   subst this
   have hall:∀x∈L,xX x:=λx hx=>by
     obtain⟨j,hj,rfl⟩:=List.mem_iff_getElem.1 hx
     exact hok j (by omega) hj
   have hv:v4V s=some (v4S L 4):=by rw[hv4,if_pos ⟨hl4,hall⟩,Lp hl4]
   have hlen:(adC (v4S L 4)).length=16:=by rw[bX,Bi hl4 (by omega)]
   refine⟨_,bv.load0 h56 hlen,?_⟩
   exact bv.fin (K:=λvr wy=>(.tuple #[vr,.bool true]:Value)=adT (v4V s)/\bW w wy) hlen (dO _) h26 rfl hB6 (by omega) λwy hb=>⟨by rw[hv];rfl,hb⟩
theorem Dv (s:List UInt8)(hs:s.length <=100000000)(w:World):Cf sA #[vS s] w (Ret λv w'=>v=adT (v4V s)/\bW w w'):=by
 apply Cv
 intro k2 w2 hk2 hw2
 have hB2:=(hw2▸af w _:bW w w2)
 have h2:ak w2 k2 aj (adC ad0):=ak.new hk2 hw2
 intro k5 w4 hk5 hw4
 have hb4:=(hw4▸af w2 _:bW w2 w4)
 have hB4:=ab hB2 hb4 hB2.size
 have h54:ak w4 k5 aj (adC ad0):=ak.new hk5 hw4
 obtain⟨w5,hs5,h55,hg5⟩:=bv.store0 (cs:=adC ad0) rfl (dO _) h54 rfl
 refine⟨w5,hs5,?_⟩
 have hk5w:w.heap.size <=k5:=by have:=hB2.size;omega
 have hlt2:=h2.lt
 have h25:=(h2.below hb4).grown hg5 (gM (by omega))
 have hB5:=Below.put hB4 hg5 hk5w
 refine av (iW s 46 hs w5) ?_
 rintro _ w3 ⟨a,n,c,rfl,ho,hf,hb3⟩
 have hB3:=ab hB5 hb3 hB5.size
 have h23:=h25.below hb3
 have h53:=h55.below hb3
 have hn:=ho.len
 have hlens:∀x∈bL 46 [] s,x.length <=s.length:=λx hx=>by simpa using js 46 s [] x hx
 have none_end:∀{wx:World},v4V s=none->ak wx k2 aj (adC ad0)->bW w wx->_:=fun{wx} hv h2x hBx=>bv.fin (K:=λvr wy=>(.tuple #[vr,.bool false]:Value)=adT (v4V s)/\bW w wy) (cs:=adC ad0) rfl (dO _) h2x rfl hBx (by omega) λwy hb=>⟨by rw[hv];rfl,hb⟩
 refine⟨_,_,_,rfl,ae.of (λh4=>?_) (λh4=>?_)⟩
 · refine none_end (Jr λhc=>?_) h23 hB3
   rw[bne_iff_ne]at h4;omega
 have hl4:(bL 46 [] s).length=4:=by simp at h4;omega
 have hlt5:=h55.lt
 have hog:∀g,bu a=some g->g≠k5:=λg hg e=>by have:=hf g hg;omega
 obtain⟨L,hL⟩:∃L,L=bL 46 [] s:=⟨_,rfl⟩
 rw[<- hL]at ho hl4 hlens hn
 have hv4:v4V s=if L.length=4/\∀x∈L,xX x then some (List.replicate 12 0++L.map ipB)else none:=by rw[hL];rfl
 refine⟨λm i w'=>∃k:Nat,k <=4/\i=(k:Int)/\m=4-k/\(∀j (hj:j<k) (h:j<L.length),xX L[j])/\ak w' k5 aj (adC (v4S L k))/\ak w' k2 aj (adC ad0)/\Ow tS aq w' NoB a n c L/\bW w w',
   ⟨_,0,by omega,rfl,rfl,λj hj=>by omega,h53,h23,ho,hB3⟩,?_⟩
 intro m i
 refine aE.of ?_ _
 rintro w6 ⟨k,hk,rfl,rfl,hok,h56,h26,ho6,hB6⟩
 refine ae.of (λh=>?_) (λh=>?_) <;> simp only[dTx,dFx]at h
 · have hk4:k<4:=by omega
   have hkL:k<L.length:=by omega
   refine⟨⟨⟨by omega,by omega⟩,ho6.all.isSome (by omega)⟩,_,ho6.all.text aB hkL,?_⟩
   have hlk:=hlens L[k] (List.getElem_mem hkL)
   refine av (wm L[k] (by omega) w6) ?_
   rintro _ w7 ⟨rfl,hw7⟩
   have hb7:bW w6 w7:=hw7▸Below.refl _ _
   have hB7:=ab hB6 hb7 hB6.size
   have hnone: ¬ xX L[k]->v4V s=none:=λhx=>by
     rw[hv4,if_neg λhc=>hx (hc.2 _ (List.getElem_mem hkL))]
   refine⟨if Ay L[k]then xO L[k]else 0,if Ay L[k]then true else false,by split <;> rfl,?_⟩
   refine⟨λw'=>w'=w7/\xX L[k],?_,?_⟩
   · refine JM (B:=λJ=>ae _ (J true w7) (J _ w7)) (!decide (xX L[k])) (ae.of (λh1=>⟨rfl,?_⟩) (λh1=>⟨rfl,?_⟩)) ?_
     · have: ¬ Ay L[k]:=λhc=>by rw[if_pos hc]at h1;cases h1
       have h2: ¬ xX L[k]:=λhc=>this hc.1
       simp[h2]
     · have hnp:Ay L[k]:=Decidable.byContradiction λhc=>by rw[if_neg hc]at h1;cases h1
       rw[if_pos hnp,Bool.eq_iff_iff]
       simp[xX,hnp]
     · refine ae.of (λh1=>none_end (hnone (by simpa using h1)) (h26.below hb7) hB7) (λh1=>⟨rfl,by simpa using h1⟩)
   · refine aE.of ?_ _
     rintro wj ⟨hwj,hip⟩
     rw[hwj];clear hwj
     have e12:i64.wrap (12+(k:Int))=((12+k:Nat):Int):=by rw[wrap_i64 (by omega) (by omega)];omega
     try dsimp only
     rw[e12,fB,if_pos hip.1,Jk hip,Nat.zero_add]
     refine⟨⟨⟨by omega,by omega⟩,rfl⟩,?_⟩
     have h57:=h56.below hb7
     obtain⟨w8,hs8,h58,hg8⟩:=h57.put (P:=prog) fQ (i:=12+k) (v:=.int .u8 (((ipB L[k]).toNat:Nat):Int)) (by rw[bX,Bi hl4 (by omega)];omega) rfl rfl
     rw[qo,HK hl4 hk4]at h58
     refine⟨w8,hs8,4-(k+1),by omega,k+1,by omega,by rw[wrap_i64 (by omega) (by omega)];omega,rfl,?_,h58,(h26.below hb7).grown hg8 (gM (by omega)),(ho6.below hb7).put hog hg8,Below.put hB7 hg8 hk5w⟩
     intro j hj hjl
     by_cases e:j=k
     · subst e;exact hip
     · exact hok j (by omega) hjl
 · have:k=4:=by omega
   subst this
   have hall:∀x∈L,xX x:=λx hx=>by
     obtain⟨j,hj,rfl⟩:=List.mem_iff_getElem.1 hx
     exact hok j (by omega) hj
   have hv:v4V s=some (v4S L 4):=by rw[hv4,if_pos ⟨hl4,hall⟩,Lp hl4]
   have hlen:(adC (v4S L 4)).length=16:=by rw[bX,Bi hl4 (by omega)]
   refine⟨_,bv.load0 h56 hlen,?_⟩
   exact bv.fin (K:=λvr wy=>(.tuple #[vr,.bool true]:Value)=adT (v4V s)/\bW w wy) hlen (dO _) h26 rfl hB6 (by omega) λwy hb=>⟨by rw[hv];rfl,hb⟩
def uR (c:UInt8):Nat:=if 48 <=c.toNat/\c.toNat <=57 then c.toNat-48 else if 97 <=c.toNat/\c.toNat <=102 then c.toNat-87 else if 65 <=c.toNat/\c.toNat <=70 then c.toNat-55 else 16
def nN (c:UInt8):Bool:=decide (uR c<16)
def mG (s:List UInt8):Nat:=s.foldl (λn c=>n*16+uR c) 0
def cQ (s:List UInt8):Bool:=decide (1 <=s.length)&&decide (s.length <=4)&&s.all nN
def cE (s:List UInt8):List (List UInt8):=if s=[]then[]else bL 58 [] s
def at2 (s:List UInt8)(i:Nat):Prop:=s[i]? =some 58/\s[i+1]? =some 58
def e8 (s:List UInt8):Bool:=decide ((bL 58 [] s).length=8)&&(bL 58 [] s).all cQ
def v6L (A B:List (List UInt8)):List Nat:=A.map mG++List.replicate (8-A.length-B.length) 0++B.map mG
def De (gap:Bool)(A B:List (List UInt8)):Bool:=A.all cQ&&B.all cQ&&(if gap then decide (A.length+B.length<8)else decide (A.length+B.length=8))
def v6V (s:List UInt8):Option (List Nat):=
 if De (Lib.cut s [58,58]).2.2 (cE (Lib.cut s [58,58]).1) (cE (Lib.cut s [58,58]).2.1)=true then some (v6L (cE (Lib.cut s [58,58]).1) (cE (Lib.cut s [58,58]).2.1))else none
theorem Ly (s:List UInt8)(i:Nat):Lib.occAt s [58,58] i=true ↔ at2 s i:=by
 unfold Lib.occAt at2
 have e0:s[i]? =(s.drop i)[0]? :=by rw[List.getElem?_drop];rfl
 have e1:s[i+1]? =(s.drop i)[1]? :=by rw[List.getElem?_drop]
 rw[e0,e1]
 generalize s.drop i=d
 match d with
 | []=>simp
 | [a]=>simp
 | a::b::r=>
   simp only[List.isPrefixOf,Bool.and_true,Bool.and_eq_true,beq_iff_eq,List.getElem?_cons_zero,List.getElem?_cons_succ,Option.some.injEq]
   exact⟨λh=>⟨h.1.symm,h.2.symm⟩,λh=>⟨h.1.symm,h.2.symm⟩⟩
theorem qU (s:List UInt8):(Lib.cut s [58,58]=(s,[],false)/\∀i,¬ at2 s i)\/∃p,Lib.cut s [58,58]=(s.take p,s.drop (p+2),true)/\at2 s p/\(∀j,j<p-> ¬ at2 s j)/\p+2 <=s.length:=by
 rcases Lib.index_spec s [58,58]with⟨h1,h2⟩|⟨p,h1,h2,h3,h4⟩
 · refine .inl ⟨?_,λi hi=>?_⟩
   · unfold Lib.cut;rw[if_neg (by omega)]
   · by_cases hl:i <=s.length
     · have:=h2 i hl
       rw[(Ly s i).2 hi]at this;cases this
     · have:=hi.1
       rw[List.getElem?_eq_none (by omega)]at this;cases this
 · refine .inr ⟨p,?_,(Ly s p).1 h3,λj hj hc=>?_,?_⟩
   · unfold Lib.cut;rw[if_pos (by omega),h1];rfl
   · have:=h4 j hj
     rw[(Ly s j).2 hc]at this;cases this
   · have:=((Ly s p).1 h3).2
     have h5:=(List.getElem?_eq_some_iff.1 this).1
     omega
theorem BD {s:List UInt8}{p:Nat}(h:at2 s p):s=s.take p++58::58::s.drop (p+2):=by
 obtain⟨h1,h2⟩:=h
 obtain⟨l1,e1⟩:=List.getElem?_eq_some_iff.1 h1
 obtain⟨l2,e2⟩:=List.getElem?_eq_some_iff.1 h2
 conv=>lhs;rw[<- List.take_append_drop p s,List.drop_eq_getElem_cons l1,List.drop_eq_getElem_cons l2,e1,e2]
theorem yZ (c:UInt8)(r:List UInt8)(h:r=[]\/∃t,r=c::t):([]:List UInt8)∈bL c [] r:=by
 rcases h with rfl|⟨t,rfl⟩
 · simp[bL]
 · show _∈(if c=c then _ else _)
   rw[if_pos rfl];simp
theorem La {l:List (List UInt8)}(h:([]:List UInt8)∈l):l.all cQ=false:=by
 rw[Bool.eq_false_iff]
 intro hc
 have:=List.all_eq_true.1 hc [] h
 revert this;decide
theorem JY {s:List UInt8}(h:e8 s=true)(i:Nat): ¬ at2 s i:=by
 intro hi
 unfold e8 at h
 rw[Bool.and_eq_true]at h
 have hm:([]:List UInt8)∈bL 58 [] s:=by
   rw[BD hi,cU]
   exact List.mem_append_right _ (yZ 58 _ (.inr ⟨_,rfl⟩))
 rw[La hm]at h
 exact absurd h.2 (by decide)
theorem late {s:List UInt8}{p q:Nat}(h:at2 s p)(hq:p<q)(hq2:at2 s q):(cE (s.take q)).all cQ=false:=by
 have hl:=(List.getElem?_eq_some_iff.1 hq2.1).1
 have hs:=BD h
 have hp:p<s.length:=by omega
 have hne:s.take q≠[]:=by
   intro e
   have:=congrArg List.length e
   rw[List.length_take,List.length_nil]at this
   omega
 unfold cE
 rw[if_neg hne]
 have e:s.take q=s.take p++58::(58::s.drop (p+2)).take (q-p-1):=by
   conv=>lhs;rw[hs]
   rw[List.take_append,List.length_take,Nat.min_eq_left (by omega),List.take_of_length_le (by rw[List.length_take];omega)]
   rw[show q-p=(q-p-1)+1 by omega,List.take_succ_cons];rfl
 rw[e,cU]
 refine La (List.mem_append_right _ (yZ 58 _ ?_))
 cases hk:q-p-1 with
 | zero=>exact .inl rfl
 | succ k=>exact .inr ⟨_,rfl⟩
def zsK:Nat->List UInt8
 | 0=>[48]
 | k+1=>zsK k++[58,48]
theorem Jt:∀k,(zsK k).length=2*k+1
 | 0=>rfl
 | k+1=>by rw[zsK,List.length_append,Jt k];simp;omega
theorem Gl:∀k,bL 58 [] (zsK k)=List.replicate (k+1) [48]
 | 0=>rfl
 | k+1=>by
   rw[zsK,cU,Gl k,List.replicate_succ' (n:=k+1)];rfl
def tF (f:List UInt8):List UInt8:=if f=[]then[]else f++[58]
def CX (b:List UInt8):List UInt8:=if b=[]then[]else 58::b
def EJ (f b:List UInt8)(k:Nat):List UInt8:=tF f++zsK k++CX b
theorem Gk (f b:List UInt8)(k:Nat):bL 58 [] (EJ f b k)=cE f++List.replicate (k+1) [48]++cE b:=by
 unfold EJ tF CX cE
 have e:∀b:List UInt8,bL 58 [] (zsK k++if b=[]then[]else 58::b)=List.replicate (k+1) [48]++(if b=[]then[]else bL 58 [] b):=by
   intro b
   split
   · rw[List.append_nil,List.append_nil,Gl]
   · rw[cU,Gl]
 by_cases hf:f=[]
 · rw[if_pos hf,if_pos hf,List.nil_append,e,List.nil_append]
 · rw[if_neg hf,if_neg hf,List.append_assoc,List.append_assoc,List.singleton_append,cU,e,List.append_assoc]
theorem Gp (f b:List UInt8)(k:Nat):e8 (EJ f b k)=true ↔ ((cE f).all cQ=true/\(cE b).all cQ=true)/\(cE f).length+(k+1)+(cE b).length=8:=by
 unfold e8
 rw[Gk]
 have h0:cQ [48]=true:=by decide
 have hz:(List.replicate (k+1) ([48]:List UInt8)).all cQ=true:=List.all_eq_true.2 λx hx=>by rw[(List.mem_replicate.1 hx).2];exact h0
 rw[List.all_append,List.all_append,hz,Bool.and_true,Bool.and_eq_true,Bool.and_eq_true,dTx,List.length_append,List.length_append,List.length_replicate]
 exact And.comm
theorem KC {f b:List UInt8}{k:Nat}(h:e8 (EJ f b k)=true):(bL 58 [] (EJ f b k)).map mG=v6L (cE f) (cE b):=by
 have hk:=((Gp f b k).1 h).2
 rw[Gk,List.map_append,List.map_append,List.map_replicate,show mG [48]=0 by decide]
 unfold v6L
 rw[show 8-(cE f).length-(cE b).length=k+1 by omega]
theorem L8 {s:List UInt8}(h:e8 s=true):v6V s=some ((bL 58 [] s).map mG):=by
 rcases qU s with⟨h1,h2⟩|⟨p,h1,h2,h3⟩
 · unfold v6V
   have hc:=h
   unfold e8 at hc
   rw[Bool.and_eq_true,dTx]at hc
   have hn:s≠[]:=by rintro rfl;exact absurd hc.1 (by decide)
   have hr:cE s=bL 58 [] s:=by unfold cE;rw[if_neg hn]
   have hr0:cE []=[]:=rfl
   rw[h1]
   simp only[hr,hr0]
   rw[if_pos]
   · unfold v6L
     rw[hc.1]
     simp
   · unfold De
     rw[hc.2]
     simp[hc.1]
 · exact absurd h2 (JY h p)
theorem L9 {s:List UInt8}(h:e8 s=false)(hn:∀i,¬ at2 s i):v6V s=none:=by
 rcases qU s with⟨h1,h2⟩|⟨p,h1,h2,h3⟩
 · unfold v6V
   rw[h1]
   rw[if_neg]
   intro hc
   have hr0:cE []=[]:=rfl
   unfold De at hc
   simp only[hr0,List.all_nil,Bool.and_true,Bool.and_eq_true,List.length_nil,Nat.add_zero]at hc
   have hc2:(cE s).all cQ=true/\(cE s).length=8:=by simpa using hc
   unfold cE at hc2
   split at hc2
   · exact absurd hc2.2 (by decide)
   · rw[<- Bool.not_eq_true]at h
     refine h ?_
     unfold e8
     rw[hc2.1,hc2.2];rfl
 · exact absurd h2 (hn p)
theorem Lr {s:List UInt8}{p:Nat}(h:at2 s p)(h2:∀j,j<p-> ¬ at2 s j):
   v6V s=if((cE (s.take p)).all cQ=true/\(cE (s.drop (p+2))).all cQ=true)/\(cE (s.take p)).length+(cE (s.drop (p+2))).length<8 then some (v6L (cE (s.take p)) (cE (s.drop (p+2))))else none:=by
 rcases qU s with⟨h1,h3⟩|⟨q,h1,h3,h4,h5⟩
 · exact absurd h (h3 p)
 · have e:q=p:=by
     rcases Nat.lt_trichotomy q p with hl|hl|hl
     · exact absurd h3 (h2 q hl)
     · exact hl
     · exact absurd h (h4 p hl)
   subst e
   unfold v6V De
   rw[h1]
   simp only[if_true,Bool.and_eq_true,dTx]
theorem Ls {s:List UInt8}{g:List Nat}(h:v6V s=some g):g.length=8:=by
 unfold v6V at h
 split at h
 · rename_i hf
   rw[<- Option.some.inj h]
   unfold v6L
   unfold De at hf
   rw[Bool.and_eq_true]at hf
   have:(cE (Lib.cut s [58,58]).1).length+(cE (Lib.cut s [58,58]).2.1).length <=8:=by
     have:=hf.2
     split at this
     · have:=of_decide_eq_true this;omega
     · have:=of_decide_eq_true this;omega
   simp;omega
 · cases h
theorem ra:∀(s:List UInt8) (n:Nat),s.all nN=true->s.foldl (λn c=>n*16+uR c) n<(n+1)*16 ^ s.length
 | [],n,_=>by simp
 | c::s,n,h=>by
   rw[List.all_cons,Bool.and_eq_true]at h
   have hc:uR c<16:=by simpa[nN]using h.1
   have:=ra s (n*16+uR c) h.2
   rw[List.foldl_cons,List.length_cons,Nat.pow_succ]
   refine Nat.lt_of_lt_of_le this ?_
   rw[Nat.mul_comm (16 ^ s.length) 16,<- Nat.mul_assoc]
   exact Nat.mul_le_mul_right _ (by omega)
theorem Jj {s:List UInt8}(h:cQ s=true):mG s<65536:=by
 unfold cQ at h
 simp only[Bool.and_eq_true,dTx]at h
 have:=ra s 0 h.2
 have h2:16 ^ s.length <=16 ^ 4:=Nat.pow_le_pow_right (by decide) h.1.2
 unfold mG
 have h3:(16:Nat) ^ 4=65536:=rfl
 omega
def ks (l:List Nat):List UInt8:=l.flatMap λn=>[UInt8.ofNat (n/256),UInt8.ofNat (n%256)]
theorem nI:∀l:List Nat,(ks l).length=2*l.length
 | []=>rfl
 | n::l=>by
   have:=nI l
   unfold ks at this ⊢
   rw[List.flatMap_cons,List.length_append,this];simp;omega
theorem GH (a b:List Nat):ks (a++b)=ks a++ks b:=by unfold ks;rw[List.flatMap_append]
def Ff (gs:List Nat)(k:Nat):List UInt8:=ks (gs.take k)++List.replicate (16-2*k) 0
theorem uK {gs:List Nat}(h:gs.length=8){k:Nat}(hk:k <=8):(Ff gs k).length=16:=by
 unfold Ff;rw[List.length_append,nI,List.length_take,List.length_replicate];omega
theorem Ef {gs:List Nat}(h:gs.length=8){k:Nat}(hk:k<8):((Ff gs k).set (2*k) (UInt8.ofNat ((gs[k]'(by omega))/256))).set (2*k+1) (UInt8.ofNat ((gs[k]'(by omega))%256))=Ff gs (k+1):=by
 unfold Ff
 have hl:(ks (gs.take k)).length=2*k:=by rw[nI,List.length_take];omega
 rw[show 16-2*k=(16-2*(k+1))+1+1 by omega,List.replicate_succ (n:=16-2*(k+1)+1),List.replicate_succ (n:=16-2*(k+1))]
 rw[List.set_append_right _ _ (by omega),hl,Nat.sub_self,List.set_cons_zero,List.set_append_right _ _ (by omega),hl,show 2*k+1-2*k=0+1 by omega,List.set_cons_succ,List.set_cons_zero,
   List.take_succ_eq_append_getElem (by omega),GH]
 simp[ks]
theorem Ji {gs:List Nat}(h:gs.length=8):Ff gs 8=ks gs:=by unfold Ff;rw[List.take_of_length_le (by omega)];simp
def e8V (s:List UInt8):Option (List UInt8):=if e8 s=true then some (ks ((bL 58 [] s).map mG))else none
theorem Eg (x:List UInt8){j:Nat}(h:j<x.length):mG (x.take (j+1))=mG (x.take j)*16+uR x[j]:=by
 unfold mG;rw[List.take_succ_eq_append_getElem h,List.foldl_append];rfl
theorem vK {x:List UInt8}{j:Nat}(h:∀i (hi:i<j) (h:i<x.length),nN x[i]=true)(hj:j <=4):mG (x.take j)<65536:=by
 have ha:(x.take j).all nN=true:=List.all_eq_true.2 λc hc=>by
   obtain⟨i,hi,rfl⟩:=List.mem_iff_getElem.1 hc
   rw[List.length_take]at hi
   rw[List.getElem_take]
   exact h i (by omega) (by omega)
 have h1:=ra (x.take j) 0 ha
 have h2:16 ^ (x.take j).length <=16 ^ 4:=Nat.pow_le_pow_right (by decide) (by rw[List.length_take];omega)
 have h3:(16:Nat) ^ 4=65536:=rfl
 unfold mG;omega
theorem CI {n:Nat}(h:n<256):((UInt8.ofNat n).toNat:Int)=(n:Int):=by rw[UInt8.toNat_ofNat'];omega
theorem yf (c:UInt8)(w:World):Cf mg #[.int .u8 ((c.toNat:Nat):Int)] w (Ret λv w'=>v=vI (if nN c=true then(uR c:Int)else -1)/\w'=w):=by
 apply wN
 have hu:=mD c
 have h16:nN c=decide (uR c<16):=rfl
 refine xT (w:=w) (¬ (48 <=c.toNat/\c.toNat <=57)) (LJ (ae.of (λh=>?_) (λh=>⟨rfl,by simp at h;omega⟩))) (λh1=>?_)
 · have:48 <=c.toNat/\c.toNat <=57:=by simp at h;omega
   have e:uR c=c.toNat-48:=by unfold uR;rw[if_pos this]
   rw[h16,e,if_pos (by simp;omega),wrap_i64 (n:=((c.toNat:Nat):Int)) (by omega) (by omega),wrap_i64 (by omega) (by omega)]
   exact⟨by congr 1;omega,rfl⟩
 refine xT (w:=w) (¬ (97 <=c.toNat/\c.toNat <=102)) (LJ (ae.of (λh=>?_) (λh=>⟨rfl,by simp at h;omega⟩))) (λh2=>?_)
 · have:97 <=c.toNat/\c.toNat <=102:=by simp at h;omega
   have e:uR c=c.toNat-87:=by unfold uR;rw[if_neg h1,if_pos this]
   rw[h16,e,if_pos (by simp;omega),wrap_i64 (n:=((c.toNat:Nat):Int)) (by omega) (by omega),wrap_i64 (by omega) (by omega)]
   exact⟨by congr 1;omega,rfl⟩
 refine LJ (ae.of (λh=>?_) (λh=>?_))
 · have:65 <=c.toNat/\c.toNat <=70:=by simp at h;omega
   have e:uR c=c.toNat-55:=by unfold uR;rw[if_neg h1,if_neg h2,if_pos this]
   rw[h16,e,if_pos (by simp;omega),wrap_i64 (n:=((c.toNat:Nat):Int)) (by omega) (by omega),wrap_i64 (by omega) (by omega)]
   exact⟨by congr 1;omega,rfl⟩
 · have: ¬ (65 <=c.toNat/\c.toNat <=70):=by simp at h;omega
   have e:uR c=16:=by unfold uR;rw[if_neg h1,if_neg h2,if_neg this]
   rw[h16,e,if_neg (by decide)]
   exact⟨rfl,rfl⟩
theorem py (s:List UInt8)(hs:s.length <=100000000)(w:World):Cf jw #[vS s] w (Ret λv w'=>v=adT (e8V s)/\bW w w'):=by
 apply wO
 intro k2 w2 hk2 hw2
 have hB2:=(hw2▸af w _:bW w w2)
 have h2:ak w2 k2 aj (adC ad0):=ak.new hk2 hw2
 intro k5 w4 hk5 hw4
 have hb4:=(hw4▸af w2 _:bW w2 w4)
 have hB4:=ab hB2 hb4 hB2.size
 have h54:ak w4 k5 aj (adC ad0):=ak.new hk5 hw4
 obtain⟨w5,hs5,h55,hg5⟩:=bv.store0 (cs:=adC ad0) rfl (dO _) h54 rfl
 refine⟨w5,hs5,?_⟩
 have hk5w:w.heap.size <=k5:=by have:=hB2.size;omega
 have hlt2:=h2.lt
 have h25:=(h2.below hb4).grown hg5 (gM (by omega))
 have hB5:=Below.put hB4 hg5 hk5w
 refine av (iW s 58 hs w5) ?_
 rintro _ w3 ⟨a,n,c,rfl,ho,hf,hb3⟩
 have hB3:=ab hB5 hb3 hB5.size
 have h23:=h25.below hb3
 have h53:=h55.below hb3
 have hn:=ho.len
 have hlens:∀x∈bL 58 [] s,x.length <=s.length:=λx hx=>by simpa using js 58 s [] x hx
 have none_end:∀{wx:World},e8 s=false->ak wx k2 aj (adC ad0)->bW w wx->_:=fun{wx} hv h2x hBx=>bv.fin (K:=λvr wy=>(.tuple #[vr,.bool false]:Value)=adT (e8V s)/\bW w wy) (cs:=adC ad0) rfl (dO _) h2x rfl hBx (by omega) λwy hb=>⟨by unfold e8V;rw[hv];rfl,hb⟩
 refine⟨_,_,_,rfl,ae.of (λh4=>?_) (λh4=>?_)⟩
 · refine none_end ?_ h23 hB3
   rw[bne_iff_ne]at h4
   unfold e8
   rw[decide_eq_false (by omega),Bool.false_and]
 have hl8:(bL 58 [] s).length=8:=by simp at h4;omega
 have hlt5:=h55.lt
 have hog:∀g,bu a=some g->g≠k5:=λg hg e=>by have:=hf g hg;omega
 have he8:e8 s=(bL 58 [] s).all cQ:=by unfold e8;rw[decide_eq_true hl8,Bool.true_and]
 have he8V:e8 s=true->e8V s=some (ks ((bL 58 [] s).map mG)):=λh=>if_pos h
 obtain⟨L,hL⟩:∃L,L=bL 58 [] s:=⟨_,rfl⟩
 rw[<- hL]at ho hl8 hlens hn he8 he8V
 have hbad:∀{x},x∈L->cQ x=false->e8 s=false:=fun{x} hx hg=>by
   rw[he8,Bool.eq_false_iff]
   intro hc
   rw[List.all_eq_true.1 hc x hx]at hg;cases hg
 have hG:(L.map mG).length=8:=by simp[hl8]
 refine⟨λm i w'=>∃k:Nat,k <=8/\i=(k:Int)/\m=8-k/\(∀j (hj:j<k) (h:j<L.length),cQ L[j]=true)/\ak w' k5 aj (adC (Ff (L.map mG) k))/\ak w' k2 aj (adC ad0)/\Ow tS aq w' NoB a n c L/\bW w w',
   ⟨_,0,by omega,rfl,rfl,λj hj=>by omega,h53,h23,ho,hB3⟩,?_⟩
 intro m i
 refine aE.of ?_ _
 rintro w6 ⟨k,hk,rfl,rfl,hok,h56,h26,ho6,hB6⟩
 refine ae.of (λh=>?_) (λh=>?_) <;> simp only[dTx,dFx]at h
 · have hk8:k<8:=by omega
   have hkL:k<L.length:=by omega
   have hld:=ho6.all.text (P:=prog) aB hkL
   have hlk:=hlens L[k] (List.getElem_mem hkL)
   have hin:(0 <=(k:Int)/\(k:Int)<((n:Nat):Int))/\Option.isSome a=true:=⟨⟨by omega,by omega⟩,ho6.all.isSome (by omega)⟩
   have hmem:L[k]∈L:=List.getElem_mem hkL
   refine xT (w:=w6) (1 <=L[k].length/\L[k].length <=4) ?_ (λhl4=>?_)
   · refine⟨λb w'=>w'=w6/\b=(!(decide (1 <=L[k].length)&&decide (L[k].length <=4))),⟨hin,_,hld,ae.of (λh1=>⟨rfl,?_⟩) (λh1=>⟨hin,_,hld,rfl,?_⟩)⟩,?_⟩
     · have: ¬ 1 <=L[k].length:=by simp at h1;omega
       simp[this]
     · have:1 <=L[k].length:=by simp at h1;omega
       rw[decide_eq_true this,Bool.true_and,Bool.eq_iff_iff];simp;omega
     · intro b
       refine aE.of ?_ _
       rintro wj ⟨hwj,hb⟩
       rw[hwj,hb];clear hwj hb
       refine ae.of (λh1=>none_end (hbad hmem ?_) h26 hB6) (λh1=>⟨rfl,by simpa using h1⟩)
       unfold cQ
       have h1':(decide (1 <=L[k].length)&&decide (L[k].length <=4))=false:=by simpa only[Bool.not_eq_true']using h1
       rw[h1',Bool.false_and]
   · refine⟨λm v i w'=>w'=w6/\∃j:Nat,j <=L[k].length/\i=(j:Int)/\m=L[k].length-j/\v=((mG (L[k].take j):Nat):Int)/\∀q (hq:q<j) (h:q<L[k].length),nN (L[k][q])=true,
       ⟨_,rfl,0,by omega,rfl,rfl,rfl,λq hq=>by omega⟩,?_⟩
     intro m v i
     refine aE.of ?_ _
     rintro wj ⟨hwj,j,hj,rfl,rfl,rfl,hx⟩
     rw[hwj];clear hwj
     refine⟨hin,_,hld,?_⟩
     have hgl:=vK hx (by omega)
     refine ae.of (λh5=>?_) (λh5=>?_) <;> simp only[dTx,dFx]at h5
     · have hjl:j<L[k].length:=by omega
       refine⟨hin,_,hld,⟨by omega,h5⟩,?_⟩
       rw[byte_at hjl]
       refine av (yf (L[k][j]) w6) ?_
       rintro _ w7 ⟨rfl,hw7⟩
       rw[hw7]
       refine⟨_,rfl,?_⟩
       by_cases hh:nN (L[k][j])=true
       · rw[if_pos hh]
         have h16:uR (L[k][j])<16:=by simpa[nN]using hh
         refine ae.no (by simp) ⟨L[k].length-(j+1),by omega,rfl,j+1,by omega,by rw[wrap_i64 (by omega) (by omega)];omega,rfl,?_,λq hq hql=>?_⟩
         · rw[wrap_i64 (n:=_*_) (by omega) (by omega),wrap_i64 (by omega) (by omega),Eg _ hjl];omega
         · by_cases e:q=j
           · subst e;exact hh
           · exact hx q (by omega) hql
       · rw[if_neg hh]
         refine ae.yes (by decide) (none_end (hbad hmem ?_) h26 hB6)
         unfold cQ
         have:(L[k]).all nN=false:=by
           rw[Bool.eq_false_iff]
           intro hc
           exact hh (List.all_eq_true.1 hc _ (List.getElem_mem hjl))
         rw[this,Bool.and_false]
     · have:j=L[k].length:=by omega
       subst this
       rw[List.take_length]at hgl ⊢
       have hg:cQ L[k]=true:=by
         unfold cQ
         rw[decide_eq_true hl4.1,decide_eq_true hl4.2,Bool.true_and,Bool.true_and]
         exact List.all_eq_true.2 λc hc=>by
           obtain⟨q,hq,rfl⟩:=List.mem_iff_getElem.1 hc
           exact hx q hq hq
       have hGk:(L.map mG)[k]'(by omega)=mG L[k]:=by simp
       refine⟨by decide,?_⟩
       rintro _ rfl
       have e1:i64.wrap (2*(k:Int))=((2*k:Nat):Int):=by rw[wrap_i64 (by omega) (by omega)];omega
       have e2:i64.wrap (((2*k:Nat):Int)+1)=((2*k+1:Nat):Int):=by rw[wrap_i64 (by omega) (by omega)];omega
       have e3:IntKind.u8.wrap (i64.wrap (Int.tdiv ((mG L[k]:Nat):Int) 256))=(((UInt8.ofNat (mG L[k]/256)).toNat:Nat):Int):=by
         rw[Be (by omega),wrap_i64 (by omega) (by omega),wrap_u8 (by omega) (by omega),CI (by omega)];omega
       have e4:IntKind.u8.wrap (Int.tmod ((mG L[k]:Nat):Int) 256)=(((UInt8.ofNat (mG L[k]%256)).toNat:Nat):Int):=by
         rw[Bh (by omega),wrap_u8 (by omega) (by omega),CI (by omega)];omega
       rw[e1,e2,fB,fB,e3]
       simp only[Nat.zero_add]
       have hlen:=uK hG hk
       obtain⟨w8,hs8,h58,hg8⟩:=h56.put (P:=prog) fQ (i:=2*k) (v:=.int .u8 (((UInt8.ofNat (mG L[k]/256)).toNat:Nat):Int)) (by rw[bX,hlen];omega) rfl rfl
       rw[qo]at h58
       refine⟨⟨⟨by omega,by omega⟩,trivial⟩,w8,hs8,by decide,?_⟩
       rintro _ rfl
       rw[e4]
       obtain⟨w9,hs9,h59,hg9⟩:=h58.put (P:=prog) fQ (i:=2*k+1) (v:=.int .u8 (((UInt8.ofNat (mG L[k]%256)).toNat:Nat):Int)) (by rw[bX,List.length_set,hlen];omega) rfl rfl
       rw[qo,<- hGk,Ef hG hk8]at h59
       refine⟨⟨⟨by omega,by omega⟩,trivial⟩,w9,hs9,8-(k+1),by omega,k+1,by omega,by rw[wrap_i64 (by omega) (by omega)];omega,rfl,?_,h59,(h26.grown hg8 (gM (by omega))).grown hg9 (gM (by omega)),(ho6.put hog hg8).put hog hg9,Below.put (Below.put hB6 hg8 hk5w) hg9 hk5w⟩
       intro q hq hql
       by_cases e:q=k
       · subst e;exact hg
       · exact hok q (by omega) hql
 · have:k=8:=by omega
   subst this
   have hv:e8 s=true:=by
     rw[he8]
     exact List.all_eq_true.2 λx hx=>by
       obtain⟨j,hj,rfl⟩:=List.mem_iff_getElem.1 hx
       exact hok j (by omega) hj
   have hlen:(adC (Ff (L.map mG) 8)).length=16:=by rw[bX,uK hG (by omega)]
   refine⟨_,bv.load0 h56 hlen,?_⟩
   exact bv.fin (K:=λvr wy=>(.tuple #[vr,.bool true]:Value)=adT (e8V s)/\bW w wy) hlen (dO _) h26 rfl hB6 (by omega) λwy hb=>⟨by rw[he8V hv,<- Ji hG];rfl,hb⟩
def v6A (s:List UInt8):Option (List UInt8):=(v6V s).map ks
def Lt (o:Option (List UInt8)):Prop:=∀a,o=some a->a.length=16
theorem yU (o:Option (List UInt8)):adT o=.tuple #[adV (o.getD ad0),.bool o.isSome]:=by cases o <;> rfl
theorem tA {o:Option (List UInt8)}(h:Lt o):(adC (o.getD ad0)).length=16:=by
 rw[bX]
 cases o with
 | none=>rfl
 | some a=>exact h a rfl
theorem It (s:List UInt8):Lt (e8V s):=λa h=>by
 unfold e8V at h
 split at h
 · rename_i h8
   unfold e8 at h8
   rw[Bool.and_eq_true,dTx]at h8
   rw[<- Option.some.inj h,nI,List.length_map,h8.1]
 · cases h
theorem HL (s:List UInt8):Lt (v6A s):=λa h=>by
 unfold v6A at h
 cases hv:v6V s with
 | none=>rw[hv]at h;cases h
 | some g=>
   rw[hv]at h
   rw[<- Option.some.inj h,nI,Ls hv]
theorem KB (s:List UInt8):Lt (v4V s):=λa h=>by
 unfold v4V at h
 split at h
 · rename_i h4
   rw[<- Option.some.inj h];simp;omega
 · cases h
theorem Dw (s:List UInt8)(hs:s.length <=99999000)(w:World):Cf sB #[vS s] w (Ret λv w'=>v=adT (v6A s)/\bW w w'):=by
 apply Cw
 intro k2 w2 hk2 hw2
 have hB2:=(hw2▸af w _:bW w w2)
 have h2:ak w2 k2 aj (adC ad0):=ak.new hk2 hw2
 refine av (py s (by omega) w2) ?_
 rintro _ w3 ⟨rfl,hb3⟩
 have hB3:=ab hB2 hb3 hB2.size
 have h23:=h2.below hb3
 refine⟨_,_,by rw[yU],?_⟩
 refine bv.new (zs:=adC ad0) (cs:=adC ((e8V s).getD ad0)) rfl (tA (It s)) (dO _) w3 λk4 w4 hk4 h44 hb4=>?_
 have hB4:=ab hB3 hb4 hB3.size
 have h24:=h23.below hb4
 have jf:∀{x:List UInt8} {wx:World},v6A s=some x->ak wx k2 aj (adC ad0)->bW w wx->_:=fun{x wx} hv h2x hBx=>bv.fin (K:=λvr wy=>(.tuple #[vr,.bool true]:Value)=adT (v6A s)/\bW w wy) (cs:=adC x) (by rw[bX];exact HL s _ hv) (dO _) h2x rfl hBx (by omega) λwy hb=>⟨by rw[hv];rfl,hb⟩
 refine ae.of (λh=>?_) (λh=>?_)
 · have h8:e8 s=true:=by
     unfold e8V at h
     split at h
     · assumption
     · cases h
   refine⟨_,bv.load0 h44 (tA (It s)),?_⟩
   have he:e8V s=some (ks ((bL 58 [] s).map mG)):=if_pos h8
   rw[he]
   exact jf (x:=ks ((bL 58 [] s).map mG)) (by unfold v6A;rw[L8 h8];rfl) h24 hB4
 have h8:e8 s=false:=by
   unfold e8V at h
   split at h
   · cases h
   · rename_i hne;simpa using hne
 refine⟨λm i w'=>∃k:Nat,k <=s.length/\i=(k:Int)/\m=s.length-k/\
     (∀j,j<k->at2 s j->(∀i,i<j-> ¬ at2 s i)-> ¬ (((cE (s.take j)).all cQ=true/\(cE (s.drop (j+2))).all cQ=true)/\(cE (s.take j)).length+(cE (s.drop (j+2))).length<8))/\
     ak w' k2 aj (adC ad0)/\bW w w',⟨_,0,by omega,rfl,rfl,λj hj=>by omega,h24,hB4⟩,?_⟩
 intro m i
 refine aE.of ?_ _
 rintro w5 ⟨k,hk,rfl,rfl,hno,h25,hB5⟩
 have e2:i64.wrap ((k:Int)+2)=((k+2:Nat):Int):=by rw[wrap_i64 (by omega) (by omega)];omega
 have e1:i64.wrap ((k:Int)+1)=((k+1:Nat):Int):=by rw[wrap_i64 (by omega) (by omega)];omega
 rw[e2,e1]
 refine ae.of (λh=>?_) (λh=>?_) <;> simp only[dTx,dFx]at h
 · have hk2':k+2 <=s.length:=by omega
   have hk0:k<s.length:=by omega
   have hk1:k+1<s.length:=by omega
   have hstep:∀{wx:World},(at2 s k->(∀i,i<k-> ¬ at2 s i)-> ¬ (((cE (s.take k)).all cQ=true/\(cE (s.drop (k+2))).all cQ=true)/\(cE (s.take k)).length+(cE (s.drop (k+2))).length<8))->
       ak wx k2 aj (adC ad0)->bW w wx->∃m':Nat,m'<s.length-k/\∃k':Nat,k' <=s.length/\((k+1:Nat):Int)=(k':Int)/\m'=s.length-k'/\
     (∀j,j<k'->at2 s j->(∀i,i<j-> ¬ at2 s i)-> ¬ (((cE (s.take j)).all cQ=true/\(cE (s.drop (j+2))).all cQ=true)/\(cE (s.take j)).length+(cE (s.drop (j+2))).length<8))/\
     ak wx k2 aj (adC ad0)/\bW w wx:=fun{wx} hc h2x hBx=>⟨s.length-(k+1),by omega,k+1,by omega,rfl,rfl,λj hj=>by
       by_cases e:j=k
       · subst e;exact hc
       · exact hno j (by omega),h2x,hBx⟩
   have u0:=pj s[k] 58
   have u1:=pj s[k+1] 58
   rw[show(((58:UInt8).toNat:Nat):Int)=58 from rfl]at u0 u1
   refine xT (w:=w5) (at2 s k) ⟨⟨by omega,by omega⟩,?_⟩ (λhat=>?_)
   · rw[byte_at hk0,bne,u0]
     refine ae.of (λhx=>hstep (λhat=>?_) h25 hB5) (λhx=>⟨⟨by omega,by omega⟩,?_⟩)
     · have:=hat.1
       rw[List.getElem?_eq_getElem hk0]at this
       rw[Option.some.inj this]at hx;simp at hx
     · rw[byte_at hk1,bne,u1]
       refine ae.of (λhy=>hstep (λhat=>?_) h25 hB5) (λhy=>⟨rfl,?_⟩)
       · have:=hat.2
         rw[List.getElem?_eq_getElem hk1]at this
         rw[Option.some.inj this]at hy;simp at hy
       · exact⟨by rw[List.getElem?_eq_getElem hk0];simp at hx;rw[hx],by rw[List.getElem?_eq_getElem hk1];simp at hy;rw[hy]⟩
   · refine⟨⟨by omega,by omega⟩,?_⟩
     intro s40 e40
     refine⟨⟨by omega,by omega⟩,?_⟩
     intro s44 e44
     simp only[Int.toNat_natCast]at e40 e44
     have l40:s40.length <=s.length:=by rw[e40,List.length_take];omega
     have l44:s44.length <=s.length:=by rw[e44,List.length_drop];omega
     have l4:s40.length+s44.length+2=s.length:=by rw[e40,e44,List.length_take,List.length_drop];omega
     refine L5 (B:=λJ=>ae _ (_/\∀s48,s48=(s40++[58])->J s48 w5) (J s40 w5)) (tF s40) (ae.of (λhx=>⟨fits (by simp;omega),?_⟩) (λhx=>⟨rfl,?_⟩)) ?_
     · rintro _ rfl
       exact⟨rfl,by unfold tF;rw[if_neg (by simpa using hx)]⟩
     · unfold tF;rw[if_pos (by simpa using hx)];simpa using hx
     refine L5 (B:=λJ=>ae _ (_/\∀s48,s48=([58]++s44)->J s48 w5) (J s44 w5)) (CX s44) (ae.of (λhx=>⟨fits (by simp;omega),?_⟩) (λhx=>⟨rfl,?_⟩)) ?_
     · rintro _ rfl
       exact⟨rfl,by unfold CX;rw[if_neg (by simpa using hx)];rfl⟩
     · unfold CX;rw[if_pos (by simpa using hx)];simpa using hx
     have lf:(tF s40).length <=s40.length+1:=by unfold tF;split <;> simp
     have lb:(CX s44).length <=s44.length+1:=by unfold CX;split <;> simp
     refine⟨λm z i w'=>∃q:Nat,q <=8/\i=(q:Int)/\m=8-q/\z=zsK q/\(∀j,j<q->e8 (EJ s40 s44 j)=false)/\ak w' k2 aj (adC ad0)/\bW w w',⟨_,0,by omega,rfl,rfl,rfl,λj hj=>by omega,h25,hB5⟩,?_⟩
     intro m z i
     refine aE.of ?_ _
     rintro w6 ⟨q,hq,rfl,rfl,rfl,hq8,h26,hB6⟩
     have hzl:=Jt q
     refine ae.of (λh5=>?_) (λh5=>?_) <;> simp only[dTx,dFx]at h5
     · refine⟨fits (by omega),?_⟩
       intro s60 e60
       have l60:s60.length=(tF s40).length+(zsK q).length:=by rw[e60,List.length_append]
       refine⟨fits (by omega),?_⟩
       intro s62 e62
       have f62:s62=EJ s40 s44 q:=by rw[e62,e60];rfl
       have l62:s62.length <=100000000:=by rw[e62,List.length_append];omega
       refine av (py s62 l62 w6) ?_
       rintro _ w7 ⟨rfl,hb7⟩
       have hB7:=ab hB6 hb7 hB6.size
       rw[f62]
       refine⟨_,_,by rw[yU],?_⟩
       refine bv.new (zs:=adC ad0) (cs:=adC ((e8V (EJ s40 s44 q)).getD ad0)) rfl (tA (It _)) (dO _) w7 λk11 w8 hk11 h118 hb8=>?_
       have hB8:=ab hB7 hb8 hB7.size
       have h28:=(h26.below hb7).below hb8
       by_cases ht:e8 (EJ s40 s44 q)=true
       · have he:e8V (EJ s40 s44 q)=some (ks ((bL 58 [] (EJ s40 s44 q)).map mG)):=if_pos ht
         have hl:=tA (It (EJ s40 s44 q))
         rw[he]at h118 hl ⊢
         refine ae.yes rfl ⟨_,bv.load0 h118 hl,?_⟩
         refine jf (x:=ks ((bL 58 [] (EJ s40 s44 q)).map mG)) ?_ h28 hB8
         have ht2:=(Gp s40 s44 q).1 ht
         rw[KC ht]
         have hfirst:∀j,j<k-> ¬ at2 s j:=λj hj hc=>by
           have:=late hc hj hat
           rw[<- e40,ht2.1.1]at this;cases this
         unfold v6A
         rw[Lr hat hfirst,<- e40,<- e44,if_pos ⟨ht2.1,by omega⟩];rfl
       · have he:e8V (EJ s40 s44 q)=none:=if_neg ht
         rw[he]at h118 ⊢
         refine ae.no rfl ⟨fits (by simp;omega),?_⟩
         rintro _ rfl
         refine⟨8-(q+1),by omega,q+1,by omega,by rw[wrap_i64 (by omega) (by omega)];omega,rfl,rfl,λj hj=>?_,h28,hB8⟩
         by_cases e:j=q
         · subst e;simpa using ht
         · exact hq8 j (by omega)
     · have:q=8:=by omega
       subst this
       refine hstep (λ_ hfirst hc=>?_) h26 hB6
       rw[<- e40,<- e44]at hc
       have:=(Gp s40 s44 (7-(cE s40).length-(cE s44).length)).2 ⟨hc.1,by omega⟩
       rw[hq8 _ (by omega)]at this;cases this
 · have hv:v6A s=none:=by
     unfold v6A
     rcases qU s with⟨h1,h2⟩|⟨p,h1,h2,h3,h4⟩
     · rw[L9 h8 h2];rfl
     · rw[Lr h2 h3,if_neg (hno p (by omega) h2 h3)];rfl
   exact bv.fin (K:=λvr wy=>(.tuple #[vr,.bool false]:Value)=adT (v6A s)/\bW w wy) (cs:=adC ad0) rfl (dO _) h25 rfl hB5 (by omega) λwy hb=>⟨by rw[hv];rfl,hb⟩
def Kx:Ty Int:=LD .u16 λ_=>True
theorem Iy:Flat Kx:=λ_ _ _ _ _ _ h=>h
def i16 (l:List Int):List Value:=l.map λn=>Value.int .u16 n
theorem Kr {w:World}{A:Bl}{n:Int} :Kx.rep w A [.int .u16 n] n:=⟨rfl,trivial⟩
theorem Hw:∀n,n<256->Lib.indexByte [48,49,50,51,52,53,54,55,56,57,97,98,99,100,101,102] (CQ (UInt8.ofNat n))=if uR (UInt8.ofNat n)<16 then(uR (UInt8.ofNat n):Int)else -1:=by decide+kernel
theorem Hx (c:UInt8):Lib.indexByte [48,49,50,51,52,53,54,55,56,57,97,98,99,100,101,102] (CQ c)=if uR c<16 then(uR c:Int)else -1:=by
 have:=Hw c.toNat (by have:=c.toNat_lt;omega)
 rwa [UInt8.ofNat_toNat]at this
theorem Mo {a d:Nat}(ha:a<4096)(hd:d<16):IntKind.u16.wrap (((BitVec.ofInt (IntKind.bits .u16) (IntKind.u16.wrap ((a:Int)*2 ^ (min (Int.toNat (4:Int)) (IntKind.bits .u16))))) ||| (BitVec.ofInt (IntKind.bits .u16) (IntKind.u16.wrap (d:Int)))).toNat:Nat)=((a*16+d:Nat):Int):=by
 have e1:(2:Int) ^ (min (Int.toNat (4:Int)) (IntKind.bits .u16))=16:=by decide
 have w16:∀n:Nat,n<65536->IntKind.u16.wrap (n:Int)=(n:Int):=λn hn=>by
   have:IntKind.u16.wrap (n:Int)=(n:Int)%65536:=rfl
   rw[this];omega
 have e2:(a:Int)*16=((a*16:Nat):Int):=by omega
 have b16:∀n:Nat,n<65536->(BitVec.ofInt (IntKind.bits .u16) (n:Int)).toNat=n:=λn hn=>by
   show(BitVec.ofInt 16 (n:Int)).toNat=n
   rw[BitVec.toNat_ofInt]
   have:((n:Int)%((2 ^ 16:Nat):Int)).toNat=n:=by
     have h:((2 ^ 16:Nat):Int)=65536:=by decide
     rw[h];omega
   exact this
 rw[e1,e2,w16 (a*16) (by omega),w16 d (by omega),BitVec.toNat_or,b16 (a*16) (by omega),b16 d (by omega)]
 have h3:a*16 ||| d=a*16+d:=by
   have:=Nat.two_pow_add_eq_or_of_lt (i:=4) hd a
   rw[Nat.mul_comm a 16];exact this.symm
 rw[h3,w16 _ (by omega)]
def zp (s:List UInt8):List Int:=(cE s).map λx=>(mG x:Int)
theorem zQ (s:List UInt8)(hs:s.length <=9223372036854775800)(w:World):Cf nq #[vS s] w
   (Ret λv w'=>v=(if cQ s=true then .tuple #[.int .u16 (mG s:Int),.bool true]else .tuple #[.int .u16 0,.bool false])/\bW w w'):=by
 apply yt
 have bad:∀{wx:World},cQ s=false->bW w wx->(.tuple #[.int .u16 0,.bool false]:Value)=(if cQ s=true then .tuple #[.int .u16 (mG s:Int),.bool true]else .tuple #[.int .u16 0,.bool false])/\bW w wx:=λhg hb=>⟨by rw[hg];rfl,hb⟩
 refine xT (w:=w) (1 <=s.length/\s.length <=4) ?_ (λhl=>?_)
 · refine ae.of (λh=>bad ?_ (Below.refl _ _)) (λh=>ae.of (λh2=>bad ?_ (Below.refl _ _)) (λh2=>⟨rfl,?_⟩))
   · unfold cQ;rw[decide_eq_false (by simp only[dTx]at h;omega),Bool.false_and,Bool.false_and]
   · unfold cQ;rw[decide_eq_false (p:=s.length <=4) (by simp only[dTx]at h2;omega),Bool.and_false,Bool.false_and]
   · simp only[dFx]at h h2
     exact⟨by omega,by omega⟩
 refine av (pt s hs w) ?_
 rintro _ w1 ⟨rfl,hb1⟩
 refine⟨_,rfl,?_⟩
 have ll:(gS s).length=s.length:=by simp[gS]
 obtain⟨w2,a,n,c,hr,ho,hb2,hf⟩:=oP (P:=prog) aB bG bA w1 (gS s) (by omega) NoB
 have hB2:=ab hb1 hb2 hb1.size
 have hnn:=ho.len
 subst hnn
 refine⟨w2,a,_,c,hr,?_⟩
 refine⟨λm v i w'=>∃j:Nat,j <=s.length/\i=(j:Int)/\m=s.length-j/\v=((mG (s.take j):Nat):Int)/\(∀q (hq:q<j) (h:q<s.length),nN s[q]=true)/\w'=w2,⟨_,0,by omega,rfl,rfl,rfl,λq hq=>by omega,rfl⟩,?_⟩
 intro m v i
 refine aE.of ?_ _
 rintro w' ⟨j,hj,rfl,rfl,rfl,hx,hw'⟩
 rw[hw'];clear hw'
 rw[ll]
 refine ae.of (λh=>?_) (λh=>?_) <;> simp only[dTx,dFx]at h
 · have hlt:j<s.length:=by omega
   have hgl:=vK hx (by omega)
   have hlt':j<(gS s).length:=by omega
   obtain⟨v,hv,hrep⟩:=ho.all.load1 (i:=(j:Int)) bA rfl rfl (by simpa using hlt')
   have:=tT hrep
   subst this
   simp only[Int.toNat_natCast]at hv
   have elow:(gS s)[j]=CQ s[j]:=by simp[gS]
   rw[elow]at hv
   refine⟨⟨⟨by omega,h⟩,ho.all.isSome hlt'⟩,_,hv,?_⟩
   refine(Tryz.strings_IndexByte (mkS [48,49,50,51,52,53,54,55,56,57,97,98,99,100,101,102]) _ w2).mono ?_
   rintro _ w3 ⟨rfl,hw3⟩
   rw[hw3];clear hw3
   have e5:Lib.indexByte (mkS [48,49,50,51,52,53,54,55,56,57,97,98,99,100,101,102]).data.toList (Int.toNat (((CQ s[j]).toNat:Nat):Int)).toUInt8=if uR s[j]<16 then(uR s[j]:Int)else -1:=by
     rw[Int.toNat_natCast,show(CQ s[j]).toNat.toUInt8=CQ s[j] from UInt8.ofNat_toNat]
     exact Hx s[j]
   rw[e5]
   refine⟨_,rfl,?_⟩
   by_cases hh:uR s[j]<16
   · rw[if_pos hh]
     have hhx:nN s[j]=true:=by simpa[nN]using hh
     have h4096:mG (s.take j)<4096:=by
       have ha:(s.take j).all nN=true:=List.all_eq_true.2 λc hc=>by
         obtain⟨i,hi,rfl⟩:=List.mem_iff_getElem.1 hc
         rw[List.length_take]at hi
         rw[List.getElem_take]
         exact hx i (by omega) (by omega)
       have h1:=ra (s.take j) 0 ha
       have h2:16 ^ (s.take j).length <=16 ^ 3:=Nat.pow_le_pow_right (by decide) (by rw[List.length_take];omega)
       have h3:(16:Nat) ^ 3=4096:=rfl
       unfold mG;omega
     refine ae.no (by simp) ⟨by decide,s.length-(j+1),by omega,j+1,by omega,by rw[wrap_i64 (by omega) (by omega)];omega,rfl,?_,λq hq hql=>?_,rfl⟩
     · rw[Mo h4096 hh,Eg _ hlt]
     · by_cases e:q=j
       · subst e;exact hhx
       · exact hx q (by omega) hql
   · rw[if_neg hh]
     refine ae.yes (by decide) (bad ?_ hB2)
     unfold cQ
     have:s.all nN=false:=by
       rw[Bool.eq_false_iff]
       intro hc
       have:=List.all_eq_true.1 hc _ (List.getElem_mem hlt)
       exact hh (by simpa[nN]using this)
     rw[this,Bool.and_false]
 · have:j=s.length:=by omega
   subst this
   have hg:cQ s=true:=by
     unfold cQ
     rw[decide_eq_true hl.1,decide_eq_true hl.2,Bool.true_and,Bool.true_and]
     exact List.all_eq_true.2 λc hc=>by
       obtain⟨q,hq,rfl⟩:=List.mem_iff_getElem.1 hc
       exact hx q hq hq
   rw[List.take_length,if_pos hg]
   exact⟨rfl,hB2⟩
def FT (s:List UInt8)(w:World)(v:Value)(w':World):Prop:=
 ∃(a:Option Addr) (n c:Nat),v=.tuple #[.slice a n c,.bool ((cE s).all cQ)]/\((cE s).all cQ=true->Ow Kx eF w' NoB a n c (zp s)/\bp w.heap.size a/\(zp s=[]->a=none/\n=0/\c=0))/\((cE s).all cQ=false->n=0)/\bW w w'
theorem vd (s:List UInt8)(hs:s.length<4294967281)(w:World)(he:Env w):Cf oT #[vS s] w (Ret (FT s w)):=by
 apply Cp
 refine ae.of (λh=>?_) (λh=>?_)
 · have h0:s=[]:=by simpa using h
   subst h0
   exact⟨none,0,0,rfl,λ_=>⟨Ow.nil _ _ _ _,bp.none _,λ_=>⟨rfl,rfl,rfl⟩⟩,λ_=>rfl,Below.refl _ _⟩
 have hne:s≠[]:=by simpa using h
 have hrow:cE s=bL 58 [] s:=by unfold cE;rw[if_neg hne]
 have hI:zp s=(bL 58 [] s).map λx=>(mG x:Int):=by unfold zp;rw[hrow]
 unfold FT
 rw[hrow,hI]
 refine av (iV s 58 hs w he) ?_
 rintro _ w3 ⟨a,n,c,rfl,ho,hf,hb3⟩
 have hn:=ho.len
 have hlens:∀x∈bL 58 [] s,x.length <=s.length:=λx hx=>by simpa using js 58 s [] x hx
 have hcn:=gG 58 s []
 have hnz:=jL 58 s []
 refine⟨_,_,_,rfl,?_⟩
 generalize bL 58 [] s=L at*
 refine⟨λm a4 l4 c4 i w'=>∃k:Nat,k <=L.length/\i=(k:Int)/\m=L.length-k/\(∀j (hj:j<k) (h:j<L.length),cQ L[j]=true)/\Ow Kx eF w' NoB a4 l4 c4 ((L.take k).map λx=>(mG x:Int))/\bp w3.heap.size a4/\bW w3 w',
   ⟨_,0,by omega,rfl,rfl,λj hj=>by omega,Ow.nil _ _ _ _,bp.none _,Below.refl _ _⟩,?_⟩
 intro m a4 l4 c4 i
 refine aE.of ?_ _
 rintro w6 ⟨k,hk,rfl,rfl,hok,ho4,hf4,hB6⟩
 have ho6:=ho.below hB6
 refine ae.of (λh=>?_) (λh=>?_) <;> simp only[dTx,dFx]at h
 · have hkL:k<L.length:=by omega
   have hlk:=hlens L[k] (List.getElem_mem hkL)
   refine⟨⟨⟨by omega,h⟩,ho6.all.isSome (by omega)⟩,_,ho6.all.text aB hkL,?_⟩
   refine av (zQ L[k] (by omega) w6) ?_
   rintro _ w7 ⟨rfl,hb7⟩
   have hB7:=ab hB6 hb7 hB6.size
   by_cases hg:cQ L[k]=true
   · rw[if_pos hg]
     refine⟨_,_,rfl,ae.no rfl ?_⟩
     intro k1 w8 hk1 hw8
     have ho47:=ho4.below hb7
     obtain⟨w9,a9,n9,c9,hr,ho9,hf9,hb9⟩:=Du (ty:=cT) (w0:=w3) (cm:=1) (vs:=[_]) Iy ou CH (by decide) ho47 hf4 hB7 hk1 hw8 (Kr) (by simp;omega)
     refine⟨w9,a9,n9,c9,hr,L.length-(k+1),by omega,k+1,by omega,by rw[wrap_i64 (by omega) (by omega)];omega,rfl,λj hj hjl=>?_,?_,hf9,hb9⟩
     · by_cases e:j=k
       · subst e;exact hg
       · exact hok j (by omega) hjl
     · rw[List.take_succ_eq_append_getElem hkL,List.map_append];exact ho9
   · rw[if_neg hg]
     refine⟨_,_,rfl,ae.yes rfl ?_⟩
     have hall:L.all cQ=false:=by
       rw[Bool.eq_false_iff]
       intro hc
       exact hg (List.all_eq_true.1 hc _ (List.getElem_mem hkL))
     rw[hall]
     exact⟨none,0,0,rfl,(λh=>by cases h),(λ_=>rfl),ab hb3 hB7 hb3.size⟩
 · have:k=L.length:=by omega
   subst this
   have hall:L.all cQ=true:=List.all_eq_true.2 λx hx=>by
     obtain⟨j,hj,rfl⟩:=List.mem_iff_getElem.1 hx
     exact hok j (by omega) hj
   rw[List.take_length]at ho4
   rw[hall]
   refine⟨a4,l4,c4,rfl,(λ_=>⟨ho4,hf4.mono hb3.size,λh0=>?_⟩),(λh=>by cases h),ab hb3 hB6 hb3.size⟩
   exact absurd (List.map_eq_nil_iff.1 h0) hnz
theorem GS (l:List Int):yT (i16 l):=λc hc=>by
 obtain⟨x,_,rfl⟩:=List.mem_map.1 hc;rfl
theorem Fe (w:World)(k:Nat):w.grownBy w (some k):=⟨rfl,rfl,rfl,Nat.le_refl _,λ_ _ _=>rfl⟩
theorem D5 {P:Program}{dT sT ty elem:TypeId}(hu:P.underlying dT=some (.slice elem))(hs:(P.info? elem).map (·.size)=some 1){w:World}{k:Nat}{T:TypeId}{vs:List Value}(h:ak w k T vs)
   {a:Option Addr} {n c:Nat} {xs:List Int} (ho:Ow Kx elem w NoB a n c xs) (hnil:xs=[]->a=none/\n=0/\c=0) {o dLen dCap:Nat} {A:Addr} (hA:xs≠[]->A=⟨k,o,none⟩) (hd:xs.length <=dLen) (hfit:o+xs.length <=vs.length):
   ∃w',(Builtin.copy_ #[dT,sT] ty #[.slice (some A) dLen dCap,.slice a n c]).run P w=.ok (vI ((xs.length:Nat):Int)) w'/\ak w' k T (vs.take o++i16 xs++vs.drop (o+xs.length))/\w.grownBy w' (some k):=by
 by_cases hx:xs=[]
 · obtain⟨rfl,rfl,rfl⟩:=hnil hx
   subst hx
   refine⟨w,run_copy_nil P w dT sT ty elem A dLen dCap hu (by rw[hs];rfl),?_,Fe w k⟩
   simpa[i16]using h
 · have hn:=ho.len
   obtain⟨h1,h2,h3,h4⟩:=ho.all
   obtain⟨b,off,rfl,hb,-,l,hr,hcells⟩:=h4.resolve_left hx
   have hl:l=i16 xs:=ez (h1:=λ_=>rfl) hr
   subst hl
   rw[hA hx]
   have hln:(i16 xs).length=xs.length:=by simp[i16]
   have hsrc:∀(j:Nat) (v:Value),(i16 xs)[j]? =some v->w.cell? ((⟨b,off,none⟩:Addr).add j)=some v:=by
     intro j v hj
     have hjl:j<(i16 xs).length:=(List.getElem?_eq_some_iff.1 hj).1
     have e:(⟨b,off,none⟩:Addr).add j=⟨b,off+j,none⟩:=by unfold Addr.add;split <;> simp_all
     rw[e,hcells j hjl,hj]
   have hmin:(i16 xs).length=Nat.min n dLen:=by rw[hln,hn];exact(Nat.min_eq_left (by omega)).symm
   have hrun:=run_copy_row P w dT sT ty elem k o dLen dCap ⟨b,off,none⟩ n c vs.toArray T (i16 xs) hu hs h hmin hsrc (by rw[hln];simpa using hfit) (GS xs)
   rw[hln]at hrun
   have hh:=setRow_heap w k vs.toArray (vs.take o++i16 xs++vs.drop (o+xs.length)).toArray T (0,0) h
   exact⟨_,hrun,hh,fI w k _⟩
theorem DL {n:Nat} :IntKind.u8.wrap (n:Int)=(((UInt8.ofNat (n%256)).toNat:Nat):Int):=by
 have e:IntKind.u8.wrap (n:Int)=(n:Int)%256:=rfl
 try dsimp only
 rw[e,CI (by omega)];omega
theorem L7 {n:Nat}(h:n<65536):IntKind.u8.wrap (Int.fdiv (n:Int) (2 ^ (min (Int.toNat (8:Int)) (IntKind.bits .u16))))=(((UInt8.ofNat (n/256)).toNat:Nat):Int):=by
 have e1:(2:Int) ^ (min (Int.toNat (8:Int)) (IntKind.bits .u16))=256:=by decide
 have e2:Int.fdiv (n:Int) 256=((n/256:Nat):Int):=by rw[Int.fdiv_eq_ediv_of_nonneg _ (by decide)];omega
 rw[e1,e2,wrap_u8 (by omega) (by omega),CI (by omega)]
theorem Bv (g0 g1 g2 g3 g4 g5 g6 g7:Nat)(hb:∀g∈[g0,g1,g2,g3,g4,g5,g6,g7],g<65536)(w:World):
   Cf qt #[.agg #[.int .u16 (g0:Int),.int .u16 (g1:Int),.int .u16 (g2:Int),.int .u16 (g3:Int),.int .u16 (g4:Int),.int .u16 (g5:Int),.int .u16 (g6:Int),.int .u16 (g7:Int)]] w
     (Ret λv w'=>v=adV (ks [g0,g1,g2,g3,g4,g5,g6,g7])/\bW w w'):=by
 apply AO
 intro k1 w1 hk1 hw1
 have hB1:=(hw1▸af w _:bW w w1)
 have h11:ak w1 k1 aG (i16 ([g0,g1,g2,g3,g4,g5,g6,g7].map λg:Nat=>(g:Int))):=ak.new hk1 hw1
 obtain⟨G,hG⟩:∃G,G=[g0,g1,g2,g3,g4,g5,g6,g7]:=⟨_,rfl⟩
 have hl8:G.length=8:=by rw[hG];rfl
 rw[<- hG]at h11 hb ⊢
 clear hG
 intro k2 w2 hk2 hw2
 have hb2:=(hw2▸af w1 _:bW w1 w2)
 have hB2:=ab hB1 hb2 hB1.size
 have h22:ak w2 k2 aj (adC ad0):=ak.new hk2 hw2
 intro k3 w3 hk3 hw3
 have hb3:=(hw3▸af w2 _:bW w2 w3)
 have hB3:=ab hB2 hb3 hB2.size
 have h33:ak w3 k3 aj (adC ad0):=ak.new hk3 hw3
 have h23:=h22.below hb3
 have h13:=(h11.below hb2).below hb3
 have l1:=h11.lt
 have l2:=h22.lt
 have hk3w:w.heap.size <=k3:=by have:=hB2.size;omega
 refine⟨λm i w'=>∃k:Nat,k <=8/\i=(k:Int)/\m=8-k/\ak w' k3 aj (adC (Ff G k))/\ak w' k2 aj (adC ad0)/\ak w' k1 aG (i16 (G.map λg:Nat=>(g:Int)))/\bW w w',
   ⟨_,0,by omega,rfl,rfl,h33,h23,h13,hB3⟩,?_⟩
 intro m i
 refine aE.of ?_ _
 rintro w6 ⟨k,hk,rfl,rfl,h36,h26,h16,hB6⟩
 refine ae.of (λh=>?_) (λh=>?_) <;> simp only[dTx,dFx]at h
 · have hk8:k<8:=by omega
   have hgk:=hb G[k] (List.getElem_mem (by omega))
   have e1:i64.wrap (2*(k:Int))=((2*k:Nat):Int):=by rw[wrap_i64 (by omega) (by omega)];omega
   have e2:i64.wrap (((2*k:Nat):Int)+1)=((2*k+1:Nat):Int):=by rw[wrap_i64 (by omega) (by omega)];omega
   rw[e1,e2,fB,fB,fB]
   simp only[Nat.zero_add]
   have hin:(0 <=(k:Int)/\(k:Int)<((8:Nat):Int))/\True:=⟨⟨by omega,by omega⟩,trivial⟩
   have hin1:(0 <=((2*k:Nat):Int)/\((2*k:Nat):Int)<((16:Nat):Int))/\True:=⟨⟨by omega,by omega⟩,trivial⟩
   have hin2:(0 <=((2*k+1:Nat):Int)/\((2*k+1:Nat):Int)<((16:Nat):Int))/\True:=⟨⟨by omega,by omega⟩,trivial⟩
   have hd:bW w (World.drew w6):=ab hB6 (q9 rfl rfl rfl (Nat.le_refl _) (λ_ _=>rfl)) hB6.size
   have d3:ak (World.drew w6) k3 aj (adC (Ff G k)):=h36
   have d2:ak (World.drew w6) k2 aj (adC ad0):=h26
   have d1:ak (World.drew w6) k1 aG (i16 (G.map λg:Nat=>(g:Int))):=h16
   have hget:(i16 (G.map λg:Nat=>(g:Int)))[k]? =some (.int .u16 ((G[k]'(by omega):Nat):Int)):=by
     unfold i16
     rw[List.getElem?_map,List.getElem?_map,List.getElem?_eq_getElem (by omega)];rfl
   have ld:∀{wx:World},ak wx k1 aG (i16 (G.map λg:Nat=>(g:Int)))->(Instr.loadAt eF (.pointer (some ⟨k1,k,none⟩))).run prog wx=.ok (.int .u16 ((G[k]'(by omega):Nat):Int)) wx:=λhx=>hx.load1 xw rfl hget
   have hlen:=uK hl8 hk
   obtain⟨w8,hs8,h58,hg8⟩:=d3.put (P:=prog) fQ (i:=2*k) (v:=.int .u8 (((UInt8.ofNat (G[k]/256)).toNat:Nat):Int)) (by rw[bX,hlen];omega) rfl rfl
   rw[qo]at h58
   have d18:=d1.grown hg8 (gM (by omega))
   obtain⟨w9,hs9,h59,hg9⟩:=h58.put (P:=prog) fQ (i:=2*k+1) (v:=.int .u8 (((UInt8.ofNat (G[k]%256)).toNat:Nat):Int)) (by rw[bX,List.length_set,hlen];omega) rfl rfl
   rw[qo,Ef hl8 hk8]at h59
   have hfin:∃m':Nat,m'<8-k/\∃k':Nat,k' <=8/\i64.wrap ((k:Int)+1)=(k':Int)/\m'=8-k'/\ak w9 k3 aj (adC (Ff G k'))/\ak w9 k2 aj (adC ad0)/\ak w9 k1 aG (i16 (G.map λg:Nat=>(g:Int)))/\bW w w9:=
     ⟨8-(k+1),by omega,k+1,by omega,by rw[wrap_i64 (by omega) (by omega)];omega,rfl,h59,(d2.grown hg8 (gM (by omega))).grown hg9 (gM (by omega)),d18.grown hg9 (gM (by omega)),Below.put (Below.put hd hg8 hk3w) hg9 hk3w⟩
   rw[<- L7 hgk]at hs8
   rw[<- DL]at hs9
   refine⟨hin,hin,⟨_,ld d1,by decide,hin1,⟨_,ld d1,w8,hs8,hin2,w9,hs9,hfin⟩,w8,hs8,_,ld d18,hin2,w9,hs9,hfin⟩,_,ld d1,_,ld d1,by decide,hin1,w8,hs8,hin2,w9,hs9,hfin⟩
 · have:k=8:=by omega
   subst this
   have hlen:(adC (Ff G 8)).length=16:=by rw[bX,uK hl8 (by omega)]
   refine⟨_,bv.load0 h36 hlen,?_⟩
   exact bv.fin (K:=λvr wy=>vr=adV (ks G)/\bW w wy) hlen (dO _) h26 rfl hB6 (by omega) λwy hb=>⟨by rw[Ji hl8];rfl,hb⟩
theorem tt:Whl prog aG 8:=⟨⟨_,_,yO⟩,by kernel_rfl⟩
theorem ES (s:List UInt8)(hs:s.length<4294967281)(w:World)(he:Env w):Cf vw #[vS s] w (Ret λv w'=>v=adT (v6A s)/\bW w w'):=by
 apply Dy
 intro k2 w2 hk2 hw2
 have hB2:=(hw2▸af w _:bW w w2)
 have h2:ak w2 k2 aj (adC ad0):=ak.new hk2 hw2
 obtain⟨m,hm⟩:=(he.step hB2).max
 refine(Tryz.strings_Cut (mkS s) (mkS [58,58]) m w2 hs hm).mono ?_
 rintro _ w3 ⟨rfl,q,rfl⟩
 have hb3:bW w2 (w2.drewN q):=q9 rfl rfl rfl (Nat.le_refl _) (λ_ _=>rfl)
 have hB3:=ab hB2 hb3 hB2.size
 have h23:=h2.below hb3
 have hlen:(Lib.cut s [58,58]).1.length <=s.length/\(Lib.cut s [58,58]).2.1.length <=s.length:=by
   rcases qU s with⟨h1,-⟩|⟨p,h1,-⟩ <;> rw[h1]
   · exact⟨Nat.le_refl _,Nat.zero_le _⟩
   · exact⟨by rw[List.length_take];omega,by rw[List.length_drop];omega⟩
 have hv6:v6A s=(if De (Lib.cut s [58,58]).2.2 (cE (Lib.cut s [58,58]).1) (cE (Lib.cut s [58,58]).2.1)=true then some (v6L (cE (Lib.cut s [58,58]).1) (cE (Lib.cut s [58,58]).2.1))else none).map ks:=rfl
 show ∃(s15_0:List UInt8) (s15_1:List UInt8) (b15_2:Bool),(Ending.returned (.tuple #[.string (mkS (Lib.cut s [58,58]).1),.string (mkS (Lib.cut s [58,58]).2.1),.bool (Lib.cut s [58,58]).2.2]):Ending)=.returned (.tuple #[vS s15_0,vS s15_1,.bool b15_2])/\_
 generalize Lib.cut s [58,58]=C at*
 obtain⟨f,b,g⟩:=C
 refine⟨f,b,g,rfl,?_⟩
 have hlf:f.length <=s.length:=hlen.1
 have hlb:b.length <=s.length:=hlen.2
 have hv:v6A s=(if De g (cE f) (cE b)=true then some (v6L (cE f) (cE b))else none).map ks:=hv6
 clear hv6 hlen
 refine av (vd f (by omega) _ (he.step hB3)) ?_
 rintro _ w4 ⟨a4,n4,c4,rfl,hok4,hno4,hb4⟩
 have hB4:=ab hB3 hb4 hB3.size
 refine⟨_,_,_,_,rfl,?_⟩
 refine av (vd b (by omega) w4 (he.step hB4)) ?_
 rintro _ w5 ⟨a5,n5,c5,rfl,hok5,hno5,hb5⟩
 have hB5:=ab hB4 hb5 hB4.size
 have h25:=(h23.below hb4).below hb5
 refine⟨_,_,_,_,rfl,?_⟩
 have hrl:∀t:List UInt8,(cE t).length <=t.length+1:=λt=>by
   unfold cE
   split
   · simp
   · exact gG 58 t []
 have hIl:∀t:List UInt8,(zp t).length=(cE t).length:=λt=>by simp[zp]
 have hrf:=hrl f
 have hrb:=hrl b
 have hn4:(cE f).all cQ=true->n4=(cE f).length:=λh=>by rw[<- hIl];exact(hok4 h).1.len
 have hn5:(cE b).all cQ=true->n5=(cE b).length:=λh=>by rw[<- hIl];exact(hok5 h).1.len
 have none_end:∀{wx:World},De g (cE f) (cE b)=false->ak wx k2 aj (adC ad0)->bW w wx->_:=fun{wx} hf h2x hBx=>bv.fin (K:=λvr wy=>(.tuple #[vr,.bool false]:Value)=adT (v6A s)/\bW w wy) (cs:=adC ad0) rfl (dO _) h2x rfl hBx (by omega) λwy hb=>⟨by rw[hv,hf];rfl,hb⟩
 refine xT (w:=w5) (De g (cE f) (cE b)=true) ?_ (λhfit=>?_)
 · refine⟨λx w'=>w'=w5/\x= !(De g (cE f) (cE b)),?_,?_⟩
   · refine ae.of (λh1=>⟨rfl,?_⟩) (λh1=>?_)
     · have h1':(cE f).all cQ=false:=by simpa only[Bool.not_eq_true']using h1
       unfold De;rw[h1',Bool.false_and,Bool.false_and];rfl
     have h1':(cE f).all cQ=true:=by simpa only[Bool.not_eq_false']using h1
     refine ae.of (λh2=>⟨rfl,?_⟩) (λh2=>?_)
     · have h2':(cE b).all cQ=false:=by simpa only[Bool.not_eq_true']using h2
       unfold De;rw[h2',Bool.and_false,Bool.false_and];rfl
     have h2':(cE b).all cQ=true:=by simpa only[Bool.not_eq_false']using h2
     have ef:De g (cE f) (cE b)=if g then decide ((cE f).length+(cE b).length<8)else decide ((cE f).length+(cE b).length=8):=by unfold De;rw[h1',h2',Bool.and_self,Bool.true_and]
     rw[ef,hn4 h1',hn5 h2',wrap_i64 (by omega) (by omega)]
     cases g with
     | true=>
       refine ae.yes rfl (ae.of (λh3=>⟨rfl,?_⟩) (λh3=>ae.no rfl ⟨rfl,?_⟩)) <;> simp at h3 ⊢ <;> omega
     | false=>
       refine ae.no rfl (ae.yes rfl ⟨rfl,?_⟩)
       rw[Bool.eq_iff_iff];simp;omega
   · intro x
     refine aE.of ?_ _
     rintro wj ⟨hwj,hx⟩
     rw[hwj,hx];clear hwj hx
     exact ae.of (λh1=>none_end (by simpa only[Bool.not_eq_true']using h1) h25 hB5) (λh1=>⟨rfl,by simpa only[Bool.not_eq_false']using h1⟩)
 · have hf2:=hfit
   unfold De at hf2
   rw[Bool.and_eq_true,Bool.and_eq_true]at hf2
   obtain⟨⟨ga,gb⟩,gl⟩:=hf2
   have hl8:(cE f).length+(cE b).length <=8:=by
     split at gl
     · have:=of_decide_eq_true gl;omega
     · have:=of_decide_eq_true gl;omega
   obtain⟨ho4,hf4,hz4⟩:=hok4 ga
   obtain⟨ho5,hf5,hz5⟩:=hok5 gb
   rw[hn5 gb]
   intro k12 w12 hk12 hw12
   have hb12:=(hw12▸af w5 _:bW w5 w12)
   have hB12:=ab hB5 hb12 hB5.size
   have h12:ak w12 k12 aG (i16 [0,0,0,0,0,0,0,0]):=ak.new hk12 hw12
   have ho42:=(ho4.below hb5).below hb12
   have ho52:=ho5.below hb12
   have og4:∀g,bu a4=some g->g≠k12:=λg hg e=>by have:=ho4.lt g hg;have:=hb5.size;omega
   have og5:∀g,bu a5=some g->g≠k12:=λg hg e=>by have:=ho5.lt g hg;omega
   have hk12w:w.heap.size <=k12:=by have:=hB5.size;omega
   have l2:=h25.lt
   obtain⟨w6,hr6,h16,hg6⟩:=D5 (P:=prog) (sT:=cT) (ty:=ay) (dLen:=8) (dCap:=8) (o:=0) (A:=⟨k12,0,none⟩) ou (by kernel_rfl) h12 ho42 hz4 (λ_=>rfl) (by rw[hIl];omega) (by rw[hIl];simp[i16];omega)
   have e5:Int.toNat (i64.wrap ((8:Int)-(((cE b).length:Nat):Int)))=8-(cE b).length:=by rw[wrap_i64 (by omega) (by omega)];omega
   have e5':i64.wrap ((8:Int)-(((cE b).length:Nat):Int))=((8-(cE b).length:Nat):Int):=by rw[wrap_i64 (by omega) (by omega)];omega
   refine⟨trivial,w6,_,hr6,⟨by rw[e5'];omega,by rw[e5'];omega⟩,?_⟩
   rw[e5]
   have ho56:=ho52.put og5 hg6
   have hlen16:(List.take 0 (i16 [0,0,0,0,0,0,0,0])++i16 (zp f)++List.drop (0+(zp f).length) (i16 [0,0,0,0,0,0,0,0])).length=8:=by
     have:=hIl f
     simp[i16];omega
   obtain⟨w7,hr7,h17,hg7⟩:=D5 (P:=prog) (sT:=cT) (ty:=ay) (dLen:=8-(8-(cE b).length)) (dCap:=8-(8-(cE b).length)) (o:=8-(cE b).length) (A:=if 8=8-(cE b).length then⟨k12,0,none⟩ else Addr.add ⟨k12,0,none⟩ ((8-(cE b).length)*1)) ou (by kernel_rfl) h16 ho56 hz5
     (λhne=>by
       have:(cE b).length≠0:=λe=>hne (List.length_eq_zero_iff.1 (by rw[hIl];exact e))
       rw[if_neg (by omega)]
       unfold Addr.add;split <;> simp_all) (by rw[hIl];omega) (by rw[hIl,hlen16];omega)
   rw[hn5 gb]at hr7
   refine⟨w7,_,hr7,?_⟩
   obtain⟨G,hG⟩:∃G,G=v6L (cE f) (cE b):=⟨_,rfl⟩
   have hGl:G.length=8:=by rw[hG];simp[v6L];omega
   have hGb:∀x∈G,x<65536:=λx hx=>by
     rw[hG]at hx
     unfold v6L at hx
     rcases List.mem_append.1 hx with hx|hx
     · rcases List.mem_append.1 hx with hx|hx
       · obtain⟨y,hy,rfl⟩:=List.mem_map.1 hx;exact Jj (List.all_eq_true.1 ga y hy)
       · rw[(List.mem_replicate.1 hx).2];decide
     · obtain⟨y,hy,rfl⟩:=List.mem_map.1 hx;exact Jj (List.all_eq_true.1 gb y hy)
   have hcells:(List.take 0 (i16 [0,0,0,0,0,0,0,0])++i16 (zp f)++List.drop (0+(zp f).length) (i16 [0,0,0,0,0,0,0,0])).take (8-(cE b).length)++i16 (zp b)++(List.take 0 (i16 [0,0,0,0,0,0,0,0])++i16 (zp f)++List.drop (0+(zp f).length) (i16 [0,0,0,0,0,0,0,0])).drop (8-(cE b).length+(zp b).length)=i16 (G.map λx:Nat=>(x:Int)):=by
     have hz:i16 [0,0,0,0,0,0,0,0]=List.replicate 8 (Value.int .u16 0):=rfl
     rw[hz,List.take_zero,List.nil_append,List.drop_replicate,hIl,hIl,Nat.zero_add,hG]
     rw[show 8-(cE b).length+(cE b).length=8 by omega,List.drop_eq_nil_of_le (by simp[i16,zp];omega),List.append_nil]
     rw[List.take_append,List.take_of_length_le (by simp[i16,zp];omega),List.take_replicate]
     have e1:min (8-(cE b).length-(i16 (zp f)).length) (8-(cE f).length)=8-(cE f).length-(cE b).length:=by
       have:(i16 (zp f)).length=(cE f).length:=by simp[i16,zp]
       omega
     rw[e1]
     unfold v6L i16 zp
     simp
     rfl
   rw[hcells]at h17
   have hB7:=Below.put (Below.put hB12 hg6 hk12w) hg7 hk12w
   have h27:=((h25.below hb12).grown hg6 (gM (by omega))).grown hg7 (gM (by omega))
   have hvG:v6A s=some (ks G):=by rw[hv,hfit,hG];rfl
   clear hG hcells hlen16
   match G,hGl,hGb,h17,hvG with
   | [g0,g1,g2,g3,g4,g5,g6,g7],_,hGb,h17,hvG=>
     refine⟨_,_,_,_,_,_,_,_,tt.load0 h17 rfl,?_⟩
     refine av (Bv g0 g1 g2 g3 g4 g5 g6 g7 hGb w7) ?_
     rintro _ w8 ⟨rfl,hb8⟩
     have hB8:=ab hB7 hb8 hB7.size
     refine⟨_,rfl,?_⟩
     exact bv.fin (K:=λvr wy=>(.tuple #[vr,.bool true]:Value)=adT (v6A s)/\bW w wy) (by rw[bX];exact HL s _ hvG) (dO _) (h27.below hb8) rfl hB8 (by omega) λwy hb=>⟨by rw[hvG];rfl,hb⟩
abbrev BN (n:Nat):List UInt8:=Lib.decDigits n
theorem Ek {n:Nat} :Lib.itoa (n:Int)=BN n:=by unfold Lib.itoa;rw[if_neg (by omega)];rfl
theorem lQ {n:Nat}(h:n <=9223372036854775807):(BN n).length <=21:=by rw[<- Ek];exact Lib.itoa_length_le n (by omega) (by omega)
theorem Iq {n:Nat}(h:n<10):BN n=[UInt8.ofNat (48+n)]:=Lib.decDigits_one h
theorem Gm {n:Nat}(h: ¬ n<10):BN n=BN (n/10)++[UInt8.ofNat (48+n%10)]:=by
 show Lib.decDigits n=_
 rw[Lib.decDigits,dif_neg h]
def xk (a:List UInt8):List UInt8:=Lib.join ((a.drop 12).map λc=>BN c.toNat) [46]
theorem KZ {a:List UInt8}(h:a.length=16):a.drop 12=[a[12]'(by omega),a[13]'(by omega),a[14]'(by omega),a[15]'(by omega)]:=by
 rw[List.drop_eq_getElem_cons (by omega),List.drop_eq_getElem_cons (by omega),List.drop_eq_getElem_cons (by omega),List.drop_eq_getElem_cons (by omega),List.drop_eq_nil_of_le (by omega)]
theorem xl {a:List UInt8}(h:a.length=16):xk a=BN (a[12]'(by omega)).toNat++([46]:List UInt8)++BN (a[13]'(by omega)).toNat++([46]:List UInt8)++BN (a[14]'(by omega)).toNat++([46]:List UInt8)++BN (a[15]'(by omega)).toNat:=by
 unfold xk
 rw[KZ h]
 simp[Lib.join_cons,Lib.joinTail]
theorem vU (xs:List (List UInt8))(c:UInt8)(M:Nat)(h:∀x∈xs,x.length <=M):(Lib.join xs [c]).length <=xs.length*(M+1):=by
 cases xs with
 | nil=>simp[Lib.join_nil]
 | cons x r=>
   rw[Lib.join_cons]
   have:∀r:List (List UInt8),(∀x∈r,x.length <=M)->(Lib.joinTail [c] r).length <=r.length*(M+1):=by
     intro r
     induction r with
     | nil=>intro _;simp[Lib.joinTail]
     | cons y r ih=>
       intro hr
       have h1:=ih λx hx=>hr x (List.mem_cons_of_mem _ hx)
       have h2:=hr y List.mem_cons_self
       have e:Lib.joinTail [c] (y::r)=[c]++y++Lib.joinTail [c] r:=by simp[Lib.joinTail]
       rw[e]
       simp only[List.length_append,List.length_cons,List.length_nil,Nat.add_mul];omega
   have h1:=this r λy hy=>h y (List.mem_cons_of_mem _ hy)
   have h2:=h x List.mem_cons_self
   simp only[List.length_append,List.length_cons,Nat.add_mul];omega
theorem Ao {w:World}{A:Bl}{a:Option Addr}{n c:Nat}{xs:List (List UInt8)}(ho:Sl tS w A a n c xs)(sep:List UInt8)(hx:xs.length <=140737488355328)(hl:(Lib.join xs sep).length <=140737488355328):
   Cf iT #[.slice a n c,vS sep] w (Ret λv w'=>v=vS (Lib.join xs sep)/\bW w w'):=by
 obtain⟨hn,hnc,hcm,h4⟩:=ho
 subst hn
 rcases h4 with h4|⟨b,off,rfl,hbl,_,cs,hcs,hcell⟩
 · subst h4
   refine(Tryz.strings_Join_none a c (mkS sep) w).mono ?_
   rintro _ _ ⟨rfl,rfl⟩
   exact⟨_,rfl,rfl,Below.refl _ _⟩
 · have he:=ez hcs
   have e:(xs.map mkS).map (λs=>s.data.toList)=xs:=by rw[List.map_map];exact List.map_id xs
   have hj:=Tryz.strings_Join b off c (xs.map mkS) (mkS sep) w (λj x hx=>by
     rw[List.getElem?_map]at hx
     cases hxj:xs[j]? with
     | none=>rw[hxj]at hx;cases hx
     | some y=>
       rw[hxj]at hx
       cases hx
       have hjl:=(List.getElem?_eq_some_iff.1 hxj).1
       rw[hcell j (by rw[he];simpa using hjl),he,List.getElem?_map,hxj];rfl) hbl (by rw[List.length_map];omega) (by rw[List.length_map];exact hnc) (by
       rw[e];exact hl)
   rw[List.length_map]at hj
   refine hj.mono ?_
   rintro _ w' ⟨rfl,hb'⟩
   rw[e]
   exact⟨_,rfl,rfl,hb'⟩
theorem Kd (n:Nat)(h:n <=9223372036854775807)(w:World)(he:Env w):Cf pp #[vI (n:Int)] w (Ret λv w'=>v=vS (BN n)/\bW w w'):=by
 refine(Tryz.strconv_Itoa n (by omega) (by omega) w he.tab).mono ?_
 rintro _ _ ⟨rfl,k,os,rfl⟩
 rw[Ek]
 exact⟨_,rfl,rfl,CY w k os⟩
theorem zO (a:List UInt8)(ha:a.length=16)(w:World)(he:Env w):Cf nm #[adV a] w (Ret λv w'=>v=vS (xk a)/\bW w w'):=by
 apply yq
 intro k1 w1 hk1 hw1
 have hB1:=(hw1▸af w _:bW w w1)
 have h1:ak w1 k1 aj (adC a):=ak.new hk1 hw1
 have e12:(if 16=(Int.toNat (12:Int))then(⟨k1,0,none⟩:Addr)else Addr.add ⟨k1,0,none⟩ ((Int.toNat (12:Int))*1))=⟨k1,12,none⟩:=by
   rw[if_neg (by decide)];unfold Addr.add;split <;> simp_all
 have e4:(16-(Int.toNat (12:Int)):Nat)=4:=rfl
 rw[e12,e4]
 refine⟨⟨by decide,by decide⟩,?_⟩
 refine⟨λm a3 l3 c3 i w'=>∃k:Nat,k <=4/\i=(k:Int)/\m=4-k/\Ow tS aq w' NoB a3 l3 c3 (((a.drop 12).take k).map λc=>BN c.toNat)/\bp w1.heap.size a3/\bW w1 w',
   ⟨_,0,by omega,rfl,rfl,Ow.nil _ _ _ _,bp.none _,Below.refl _ _⟩,?_⟩
 intro m a3 l3 c3 i
 refine aE.of ?_ _
 rintro w2 ⟨k,hk,rfl,rfl,ho2,hf2,hB2⟩
 have hl4:(a.drop 12).length=4:=by rw[List.length_drop];omega
 refine ae.of (λh=>?_) (λh=>?_) <;> simp only[dTx,dFx]at h
 · have hk4:k<4:=by omega
   rw[fB]
   have hu:=mD (a[12+k]'(by omega))
   refine⟨⟨⟨by omega,h⟩,rfl⟩,_,(h1.below hB2).load1 bA rfl (u5 (i:=12+k) (by omega)),?_⟩
   rw[wrap_i64 (by omega) (by omega)]
   refine av (Kd _ (by omega) w2 ((he.step hB1).step hB2)) ?_
   rintro _ w3 ⟨rfl,hb3⟩
   have hB3:=ab hB2 hb3 hB2.size
   refine⟨_,rfl,?_⟩
   intro k4 w4 hk4' hw4
   have hll:(((a.drop 12).take k).map λc=>BN c.toNat).length <=4:=by simp;omega
   obtain⟨w5,a5,n5,c5,hr,ho5,hf5,hb5⟩:=Du (ty:=au) (w0:=w1) (cm:=1) (vs:=[_]) (gZ _) bF lH (by decide) (ho2.below hb3) hf2 hB3 hk4' hw4 (sO trivial) (by omega)
   refine⟨w5,a5,n5,c5,hr,4-(k+1),by omega,k+1,by omega,by rw[wrap_i64 (by omega) (by omega)];omega,rfl,?_,hf5,hb5⟩
   rw[List.take_succ_eq_append_getElem (by omega),List.map_append]
   have:(a.drop 12)[k]'(by omega)=a[12+k]'(by omega):=by rw[List.getElem_drop]
   rw[this];exact ho5
 · have:k=4:=by omega
   subst this
   rw[List.take_of_length_le (by omega)]at ho2
   have hlen:(xk a).length <=4*(21+1):=by
     have:=vU ((a.drop 12).map λc=>BN c.toNat) 46 21 (λx hx=>by
       obtain⟨c,_,rfl⟩:=List.mem_map.1 hx
       have:=mD c
       exact lQ (by omega))
     rw[List.length_map,hl4]at this
     exact this
   refine av (Ao ho2.all [46] (by rw[List.length_map];omega) (Nat.le_trans hlen (by decide))) ?_
   rintro _ w3 ⟨rfl,hb3⟩
   have hB3:=ab hB2 hb3 hB2.size
   exact⟨_,rfl,rfl,ab hB1 hB3 hB1.size⟩
theorem oS {w w8:World}{k8:Nat}{d:Nat}(hd:d<10){x:Int}(hx:x=(d:Int))(hk:k8=w.heap.size)(hw:w8=w.alloc (.cells #[.int .u8 (IntKind.u8.wrap (i64.wrap ((48:Int)+x)))] aF)):
   ∀u,bW w8 u->(convert aM aq (.slice (some ⟨k8,0,none⟩) 1 1)).run prog u=.ok (vS [UInt8.ofNat (48+d)]) u:=by
 intro u hu
 have e:IntKind.u8.wrap (i64.wrap ((48:Int)+x))=(((UInt8.ofNat (48+d)).toNat:Nat):Int):=by
   rw[hx,wrap_i64 (by omega) (by omega),wrap_u8 (by omega) (by omega),CI (by omega)];omega
 rw[e]at hw
 have ho:Ow tU8 aF w8 NoB (some ⟨k8,0,none⟩) 1 1 [UInt8.ofNat (48+d)]:=Ow.newF sD hk hw (gy.one (rz rfl)) (show 1 <=maxLen by decide)
 exact oo bG aB bA (ho.below hu).all
theorem gw:∀(n:Nat) (h:n <=9223372036854775807) (w:World),Cf bM #[vI (n:Int)] w (Ret λv w'=>v=vS (BN n)/\bW w w')
 | n,hn,w=>by
   apply tj
   refine ae.of (λh=>?_) (λh=>?_) <;> simp only[dTx,dFx]at h
   · intro k8 w8 hk8 hw8
     refine⟨_,oS (d:=n) (by omega) rfl hk8 hw8 w8 (Below.refl _ _),?_⟩
     rw[Iq (by omega)]
     exact⟨rfl,hw8▸af _ _⟩
   · have hlt:n/10<n:=by omega
     refine⟨by decide,?_⟩
     rintro _ rfl
     refine⟨by decide,?_⟩
     rintro _ rfl
     have e1:i64.wrap (Int.tdiv (n:Int) 10)=((n/10:Nat):Int):=by rw[Be (by omega),wrap_i64 (by omega) (by omega)];omega
     have e2:Int.tmod (n:Int) 10=((n%10:Nat):Int):=by rw[Bh (by omega)];omega
     rw[e1,e2,Gm (by omega)]
     have hd:bW w (World.drew w):=q9 rfl rfl rfl (Nat.le_refl _) (λ_ _=>rfl)
     have hl:=lQ (n:=n/10) (by omega)
     refine⟨?_,?_⟩
     · refine av (gw (n/10) (by omega) (World.drew w)) ?_
       rintro _ w1 ⟨rfl,hb1⟩
       refine⟨_,rfl,?_⟩
       intro k8 w8 hk8 hw8
       refine⟨_,oS (d:=n%10) (by omega) rfl hk8 hw8 w8 (Below.refl _ _),fits (by simp;omega),?_⟩
       rintro _ rfl
       have hB1:=ab hd hb1 hd.size
       exact⟨rfl,ab hB1 (hw8▸af _ _) hB1.size⟩
     · intro k8 w8 hk8 hw8
       have hb8:Below (World.drew w).heap.size (World.drew w) w8:=hw8▸af _ _
       have hB8:=ab hd hb8 hd.size
       refine⟨?_,_,oS (d:=n%10) (by omega) rfl hk8 hw8 w8 (Below.refl _ _),?_⟩
       · refine av (gw (n/10) (by omega) w8) ?_
         rintro _ w1 ⟨rfl,hb1⟩
         refine⟨_,rfl,_,oS (d:=n%10) (by omega) rfl hk8 hw8 w1 hb1,fits (by simp;omega),?_⟩
         rintro _ rfl
         exact⟨rfl,ab hB8 hb1 hB8.size⟩
       · refine av (gw (n/10) (by omega) w8) ?_
         rintro _ w1 ⟨rfl,hb1⟩
         refine⟨_,rfl,fits (by simp;omega),?_⟩
         rintro _ rfl
         exact⟨rfl,ab hB8 hb1 hB8.size⟩
 termination_by n=>n
theorem yd (a:List UInt8)(ha:a.length=16)(w:World):Cf me #[adV a] w (Ret λv w'=>v=vS (xk a)/\bW w w'):=by
 apply wL
 intro k1 w1 hk1 hw1
 have hB1:=(hw1▸af w _:bW w w1)
 have h1:ak w1 k1 aj (adC a):=ak.new hk1 hw1
 have ld:∀(i:Nat) (hi:i<a.length) (u:World),bW w1 u->(Instr.loadAt aF (.pointer (am (some ⟨k1,0,none⟩) (i:Int) 1))).run prog u=.ok (.int .u8 ((a[i].toNat:Nat):Int)) u:=λi hi u hu=>by
   rw[fB,Nat.zero_add]
   exact(h1.below hu).load1 bA rfl (u5 hi)
 have dc:∀(c:UInt8) (u:World),bW w1 u->Cf bM #[vI (i64.wrap ((c.toNat:Nat):Int))] u λe w'=>e=.returned (vS (BN c.toNat))/\Below w1.heap.size u w':=λc u hu=>by
   have:=mD c
   rw[wrap_i64 (by omega) (by omega)]
   exact j3 (gw c.toNat (by omega) u) hu
 have l12:=lQ (n:=a[12].toNat) (by have:=mD a[12];omega)
 have l13:=lQ (n:=a[13].toNat) (by have:=mD a[13];omega)
 have l14:=lQ (n:=a[14].toNat) (by have:=mD a[14];omega)
 have l15:=lQ (n:=a[15].toNat) (by have:=mD a[15];omega)
 refine⟨⟨⟨by decide,by decide⟩,rfl⟩,_,ld 12 (by omega),_,dc _,fits (by simp;omega),?_⟩
 rintro _ rfl
 refine⟨⟨⟨by decide,by decide⟩,rfl⟩,_,ld 13 (by omega),_,dc _,fits (by simp;omega),?_⟩
 rintro _ rfl
 refine⟨fits (by simp;omega),?_⟩
 rintro _ rfl
 refine⟨⟨⟨by decide,by decide⟩,rfl⟩,_,ld 14 (by omega),_,dc _,fits (by simp;omega),?_⟩
 rintro _ rfl
 refine⟨fits (by simp;omega),?_⟩
 rintro _ rfl
 refine⟨⟨⟨by decide,by decide⟩,rfl⟩,_,ld 15 (by omega),_,dc _,fits (by simp;omega),?_⟩
 rintro _ rfl
 intro wq hwq
 rw[xl ha]
 exact⟨by simp only[List.append_assoc],ab hB1 hwq hB1.size⟩
def HZ (d:Nat):UInt8:=UInt8.ofNat (if d<10 then 48+d else 87+d)
def uM (n:Nat):List UInt8:=if n<16 then[HZ n]else uM (n/16)++[HZ (n%16)]
termination_by n
theorem uQ {n:Nat}(h:n<16):uM n=[HZ n]:=by rw[uM,if_pos h]
theorem lw {n:Nat}(h: ¬ n<16):uM n=uM (n/16)++[HZ (n%16)]:=by rw[uM,if_neg h]
theorem uO {n:Nat}(h:n<65536):(uM n).length <=4:=by
 have step:∀m M:Nat,(m/16<M->(uM (m/16)).length <=3)->True:=λ_ _ _=>trivial
 have l1:∀n,n<16->(uM n).length=1:=λn h=>by rw[uQ h];rfl
 have l2:∀n,n<256->(uM n).length <=2:=λn h=>by
   by_cases c:n<16
   · rw[l1 n c];omega
   · rw[lw c,List.length_append,l1 (n/16) (by omega)];simp
 have l3:∀n,n<4096->(uM n).length <=3:=λn h=>by
   by_cases c:n<16
   · rw[l1 n c];omega
   · have:=l2 (n/16) (by omega)
     rw[lw c,List.length_append];simp;omega
 by_cases c:n<16
 · rw[l1 n c];omega
 · have:=l3 (n/16) (by omega)
   rw[lw c,List.length_append];simp;omega
def LO:List UInt8:=[48,49,50,51,52,53,54,55,56,57,97,98,99,100,101,102,103,104,105,106,107,108,109,110,111,112,113,114,115,116,117,118,119,120,121,122]
theorem BO:∀d:Nat,d<16->aX LO (d:Int)=(((HZ d).toNat:Nat):Int):=by decide
theorem BX:∀d:Nat,d<16->(([48,49,50,51,52,53,54,55,56,57,97,98,99,100,101,102]:List UInt8).take (d+1)).drop d=[HZ d]:=by decide
theorem u64_in {n:Int}(h0:0 <=n)(h1:n<18446744073709551616):IntKind.u64.wrap n=n:=by
 have e:IntKind.u64.wrap n=n%18446744073709551616:=rfl
 try dsimp only
 rw[e];omega
theorem LI {u:Nat}(h:u<65536):IntKind.u64.wrap (((BitVec.ofInt (IntKind.bits .u64) (u:Int)) &&& (BitVec.ofInt (IntKind.bits .u64) (IntKind.u64.wrap ((IntKind.u64.wrap (16:Int))-(1:Int))))).toNat:Nat)=((u%16:Nat):Int):=by
 have e15:IntKind.u64.wrap ((IntKind.u64.wrap (16:Int))-(1:Int))=((15:Nat):Int):=by decide
 have b64:∀n:Nat,n<65536->(BitVec.ofInt (IntKind.bits .u64) (n:Int)).toNat=n:=λn hn=>by
   show(BitVec.ofInt 64 (n:Int)).toNat=n
   rw[BitVec.toNat_ofInt]
   have h:((2 ^ 64:Nat):Int)=18446744073709551616:=by decide
   rw[h];omega
 rw[e15,BitVec.toNat_and,b64 u h,b64 15 (by decide)]
 have:u &&& 15=u%16:=Nat.and_two_pow_sub_one_eq_mod u 4
 rw[this,u64_in (by omega) (by omega)]
theorem Mr {u:Nat} :Int.fdiv (u:Int) (2 ^ (min (Int.toNat (IntKind.u64.wrap (4:Int))) (IntKind.bits .u64)))=((u/16:Nat):Int):=by
 have e1:(2:Int) ^ (min (Int.toNat (IntKind.u64.wrap (4:Int))) (IntKind.bits .u64))=16:=by decide
 try dsimp only
 rw[e1,Int.fdiv_eq_ediv_of_nonneg _ (by decide)];omega
theorem Jc (k o j:Nat):Addr.add ⟨k,o,none⟩ j=⟨k,o+j,none⟩:=by unfold Addr.add;split <;> simp_all
theorem ak.sl8 {w:World}{k:Nat}{T:TypeId}{p xs:List UInt8}(h:ak w k T (adC (p++xs)))(hl:xs.length <=maxLen):Sl tU8 w iv (some ⟨k,p.length,none⟩) xs.length xs.length xs:=by
 refine⟨rfl,Nat.le_refl _,hl,.inr ⟨k,p.length,rfl,h.lt,trivial,adC xs,gu (λ_ _=>trivial),λj hj=>?_⟩⟩
 rw[h.cell]
 unfold adC
 rw[List.map_append,List.getElem?_append_right (by simp)]
 simp
theorem nk (w:World)(he:Env w):Cf dD #[.int .u64 (IntKind.u64.wrap (16:Int))] w (Ret λv w'=>v=vI 4/\w'=w):=by
 have e16:IntKind.u64.wrap (16:Int)=16:=by decide
 try dsimp only
 rw[e16]
 apply j6
 refine av (K:=λv w'=>v=vI 4/\w'=w) ?_ ?_
 · apply jh
   refine ae.no (by decide) ⟨by decide,⟨⟨by decide+kernel,by decide+kernel⟩,rfl⟩,4,?_,rfl,rfl⟩
   have hE:∀E:Int,E=15->(Instr.loadAt aF (.pointer (am (some ⟨5,0,none⟩) E 1))).run prog w=.ok (.int .u8 4) w:=by
     rintro _ rfl
     exact cV bA rfl he.tz
   exact hE _ (by decide+kernel)
 · rintro _ w1 ⟨rfl,hw⟩
   exact⟨_,rfl,rfl,hw⟩
theorem z7 (n:Nat)(hn:n<65536)(w:World)(he:Env w):Cf cH #[.slice none 0 0,.int .u64 (n:Int),vI 16,.bool false,.bool false] w
   (Ret λv w'=>v=.tuple #[.slice none 0 0,vS (uM n)]/\bW w w'):=by
 apply iO
 refine xT (w:=w) True ?_ (λ_=>?_)
 · refine⟨λb w'=>w'=w/\b=false,ae.no (by decide) (ae.no (by decide) ⟨rfl,by decide⟩),λb=>aE.of ?_ _⟩
   rintro wj ⟨hw,hb⟩
   rw[hw,hb]
   exact ae.no rfl ⟨rfl,trivial⟩
 intro k w1 hk hw1
 have hB1:=(hw1▸af w _:bW w w1)
 have h1:ak w1 k jp (adC (List.replicate 65 0++[])):=ak.new hk hw1
 have hk0:w.heap.size <=k:=by omega
 refine Lw (w:=w1) (n:Int) (ae.no rfl ⟨rfl,rfl⟩) ?_
 refine⟨λi w'=>∃xs:List UInt8,i=((65-xs.length:Nat):Int)/\xs=uM n/\ak w' k jp (adC (List.replicate (65-xs.length) 0++xs))/\bW w w',?_,λi=>aE.of ?_ _⟩
 · refine av (K:=λv w'=>v=.bool true/\w'=w1) ?_ ?_
   · apply hX
     exact⟨congrArg Value.bool (by decide+kernel),rfl⟩
   rintro _ w2 ⟨rfl,hw2⟩
   rw[hw2]
   refine⟨_,rfl,ae.yes rfl ?_⟩
   refine av (nk w1 (he.step hB1)) ?_
   rintro _ w3 ⟨rfl,hw3⟩
   rw[hw3]
   refine⟨_,rfl,?_⟩
   refine⟨λm u i w'=>∃(q t:Nat) (xs:List UInt8),u=(q:Int)/\m=q/\t=xs.length/\i=((65-t:Nat):Int)/\uM n=uM q++xs/\q*16 ^ t <=65535/\(t=0\/0<q)/\ak w' k jp (adC (List.replicate (65-t) 0++xs))/\bW w w',
     ⟨_,n,0,[],rfl,rfl,rfl,rfl,by rw[List.append_nil],by omega,.inl rfl,h1,hB1⟩,?_⟩
   intro m u i
   refine aE.of ?_ _
   rintro w4 ⟨q,t,xs,rfl,hm,rfl,rfl,hx,hq,ht,h4,hB4⟩
   obtain rfl:q=m:=hm.symm
   have ht3:xs.length <=3:=by
     rcases ht with h0|h0
     · omega
     · refine Decidable.byContradiction λhc=>?_
       have h16:16 ^ 4 <=16 ^ xs.length:=Nat.pow_le_pow_right (by decide) (by omega)
       have:16 ^ xs.length <=q*16 ^ xs.length:=Nat.le_mul_of_pos_left _ h0
       have e:(16:Nat) ^ 4=65536:=rfl
       omega
   have hq6:q<65536:=by
     have:q <=q*16 ^ xs.length:=Nat.le_mul_of_pos_right _ (Nat.pos_of_ne_zero (by simp))
     omega
   have e16:IntKind.u64.wrap (16:Int)=16:=by decide
   have ei:i64.wrap (((65-xs.length:Nat):Int)-1)=((65-(xs.length+1):Nat):Int):=by rw[wrap_i64 (by omega) (by omega)];omega
   have hset:∀c:UInt8,(adC (List.replicate (65-xs.length) 0++xs)).set (65-(xs.length+1)) (.int .u8 ((c.toNat:Nat):Int))=adC (List.replicate (65-(xs.length+1)) 0++(c::xs)):=λc=>by
     rw[qo,show 65-xs.length=(65-(xs.length+1))+1 by omega,List.replicate_succ' (n:=65-(xs.length+1)),List.append_assoc,List.set_append_right _ _ (by simp),List.length_replicate,Nat.sub_self];rfl
   have hput:=λc:UInt8=>h4.put (P:=prog) fQ (i:=65-(xs.length+1)) (v:=.int .u8 ((c.toNat:Nat):Int)) (by rw[bX];simp;omega) rfl rfl
   rw[ei,fB,Nat.zero_add]
   have hin:(0 <=((65-(xs.length+1):Nat):Int)/\((65-(xs.length+1):Nat):Int)<((65:Nat):Int))/\true=true:=⟨⟨by omega,by omega⟩,rfl⟩
   refine ae.of (λh=>?_) (λh=>?_)
   · rw[e16]at h
     simp only[ge_iff_le,dTx]at h
     have hq16:16 <=q:=by omega
     rw[LI hq6,Mr,show aX [48,49,50,51,52,53,54,55,56,57,97,98,99,100,101,102,103,104,105,106,107,108,109,110,111,112,113,114,115,116,117,118,119,120,121,122] ((q%16:Nat):Int)=_ from BO (q%16) (by omega)]
     obtain⟨w5,hs5,h5,hg5⟩:=hput (HZ (q%16))
     rw[hset]at h5
     refine⟨⟨by omega,by simp;omega⟩,hin,w5,hs5,by decide,q/16,by omega,q/16,xs.length+1,HZ (q%16)::xs,rfl,rfl,by simp,rfl,?_,?_,.inr (by omega),h5,Below.put hB4 hg5 hk0⟩
     · rw[hx,lw (n:=q) (by omega)];simp
     · have e:q/16*16 ^ (xs.length+1)=(q/16*16)*16 ^ xs.length:=by rw[Nat.pow_succ,Nat.mul_comm (16 ^ xs.length) 16,Nat.mul_assoc]
       rw[e]
       exact Nat.le_trans (Nat.mul_le_mul_right _ (by omega)) hq
   · rw[e16]at h
     simp only[ge_iff_le,dFx]at h
     have hq16:q<16:=by omega
     rw[show aX [48,49,50,51,52,53,54,55,56,57,97,98,99,100,101,102,103,104,105,106,107,108,109,110,111,112,113,114,115,116,117,118,119,120,121,122] (q:Int)=_ from BO q hq16]
     obtain⟨w5,hs5,h5,hg5⟩:=hput (HZ q)
     rw[hset]at h5
     refine⟨⟨by omega,by simp;omega⟩,hin,w5,hs5,HZ q::xs,rfl,?_,h5,Below.put hB4 hg5 hk0⟩
     rw[hx,uQ hq16];rfl
 · rintro w5 ⟨xs,rfl,hxs,h5,hB5⟩
   have hl:=uO hn
   rw[<- hxs]at hl
   refine Lw (w:=w5) ((65-xs.length:Nat):Int) (ae.no rfl ⟨rfl,rfl⟩) ?_
   refine ae.no rfl ⟨⟨by omega,by omega⟩,?_⟩
   have hpos:0<xs.length:=by
     rw[hxs]
     by_cases c:n<16
     · rw[uQ c];exact Nat.one_pos
     · rw[lw c];simp
   have ea:(if 65=(Int.toNat ((65-xs.length:Nat):Int))then(⟨k,0,none⟩:Addr)else Addr.add ⟨k,0,none⟩ ((Int.toNat ((65-xs.length:Nat):Int))*1))=⟨k,(List.replicate (65-xs.length) (0:UInt8)).length,none⟩:=by
     rw[List.length_replicate,Int.toNat_natCast,if_neg (by omega),Jc,Nat.zero_add,Nat.mul_one]
   have en:65-(Int.toNat ((65-xs.length:Nat):Int))=xs.length:=by rw[Int.toNat_natCast];omega
   rw[ea,en]
   refine⟨xs,oo bG aB bA (h5.sl8 (by unfold maxLen;omega)),?_⟩
   rw[hxs]
   exact⟨rfl,hB5⟩
theorem z8 (n:Nat)(hn:n<65536)(w:World)(he:Env w):Cf fY #[.int .u64 (n:Int),vI 16] w (Ret λv w'=>v=vS (uM n)/\bW w w'):=by
 apply nc
 refine av (K:=λv w'=>v=vS (uM n)/\bW w w') ?_ ?_
 · apply iN
   refine ae.no (by decide) ?_
   refine av (z7 n hn w he) ?_
   rintro _ w1 ⟨rfl,hb1⟩
   exact⟨_,_,_,_,rfl,rfl,hb1⟩
 · rintro _ w1 ⟨rfl,hb1⟩
   exact⟨_,rfl,rfl,hb1⟩
theorem tN:∀(n:Nat) (h:n<65536) (w:World),Cf mh #[vI (n:Int)] w (Ret λv w'=>v=vS (uM n)/\bW w w')
 | n,hn,w=>by
   apply AV
   refine ae.of (λh=>?_) (λh=>?_) <;> simp only[dTx,dFx]at h
   · have e:i64.wrap ((n:Int)+1)=((n+1:Nat):Int):=by rw[wrap_i64 (by omega) (by omega)];omega
     try dsimp only
     rw[e]
     refine⟨⟨⟨by omega,by simp;omega⟩,by omega,by omega⟩,?_⟩
     rintro _ rfl
     simp only[Int.toNat_natCast]
     rw[BX n (by omega),uQ (by omega)]
     exact⟨rfl,Below.refl _ _⟩
   · have hlt:n/16<n:=by omega
     have e1:i64.wrap (Int.tdiv (n:Int) 16)=((n/16:Nat):Int):=by rw[Be (by omega),wrap_i64 (by omega) (by omega)];omega
     have e2:Int.tmod (n:Int) 16=((n%16:Nat):Int):=by rw[Bh (by omega)];omega
     refine⟨by decide,?_⟩
     rintro _ rfl
     rw[e1,e2]
     have hl:=uO (n:=n/16) (by omega)
     refine⟨_,λu hu=>j3 (tN (n/16) (by omega) u) hu,by decide,?_⟩
     rintro _ rfl
     refine⟨by decide,?_⟩
     rintro _ rfl
     have e:i64.wrap (((n%16:Nat):Int)+1)=((n%16+1:Nat):Int):=by rw[wrap_i64 (by omega) (by omega)];omega
     try dsimp only
     rw[e]
     refine⟨⟨⟨by omega,by simp;omega⟩,by omega,by omega⟩,?_⟩
     rintro _ rfl
     simp only[Int.toNat_natCast]
     rw[BX (n%16) (by omega)]
     refine⟨fits (by simp;omega),?_⟩
     rintro _ rfl
     intro wq hwq
     rw[lw (n:=n) (by omega)]
     exact⟨rfl,hwq⟩
 termination_by n=>n
end Go.Pk
