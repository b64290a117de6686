/- What the laws lean on: Shelf, DateE, DateF, DateI, DateJ, DateL, DateN, DateT, HdrA, HdrB, HdrC, Big, AddrA, AddrP, AddrB, AddrC, AddrD, AddrE, AddrF, AddrG, AddrH, AddrI, Eq, HostA, HostB; what is used. Its conditions: none. -/
import Derived.Test.YtpafoodmpjlkhaaGreatDoorKB
import Derived.Shelf.Strings.SlTrimAscii
import Derived.Shelf.Strings.Builder1
import Derived.Shelf.Strings.Builder2
import Derived.Shelf.Strings.OnBuilder
import Derived.Shelf.Strings.Trim
import Derived.Shelf.Small.Utf8
import Derived.Shelf.Small.Bits
import Derived.Shelf.Small.Strs
import Derived.Shelf.Small.Wraps
import Derived.Shelf.Strings.BuilderF
import Derived.Shelf.Strings.BuilderK
import Derived.Shelf.Utf8.RuneCount
import Derived.Shelf.Strings.Builder2Cap
import Derived.Shelf.Strconv.Itoa0
import Derived.Shelf.Strconv.Itoa1
import Derived.Shelf.LaysM
import Derived.Shelf.Strconv.Itoa2
import Derived.Shelf.Strconv.Itoa3
import Derived.Shelf.Strings.Search1
import Derived.Shelf.Strings.Search2
import Derived.Shelf.Strings.Search3
import Derived.Shelf.Strings.Cut
import Derived.Shelf.Strings.Count
import Derived.Shelf.Strings.Shaped
import Derived.Shelf.Sort.Plain
import Derived.Shelf.Strings.Prefix
import Derived.Shelf.Strings.Split
import Derived.Shelf.Strings.SplitShaped
import Derived.Shelf.Unicode.Decode
import Derived.Shelf.Strings.Runes
import Derived.Shelf.Strings.RuneCount
import Derived.Shelf.Strings.AsciiSet
import Derived.Shelf.Strings.Explode
import Derived.Shelf.Bits.Mul64
import Derived.Shelf.Unicode.DecodeSlow
import Derived.Shelf.Unicode.DecodeAny
import Derived.Shelf.Unicode.DecodeLast
import Derived.Shelf.Strings.BuilderCap
import Derived.Shelf.Slices.Turned
import Derived.Ground.Names2Prog
import Derived.Shelf.Slices.Clone
import Derived.Shelf.Slices.CompactS
import Derived.Shelf.Slices.Cells
import Derived.Shelf.Slices.In.SortNone
import Derived.Ground.SlgnProg
import Derived.Shelf.SlicesE.Clone
import Derived.Lib.Atoi
import Derived.Lib.ConvBytes
import Derived.Laws.CopyRow
import Derived.Lib.ItoaLen
import Derived.Laws.StructEq
set_option linter.unusedVariables false
set_option linter.unusedSimpArgs false
set_option linter.unusedSectionVars false
set_option maxRecDepth 100000
open Go.IntKind (i64)
open Go.Proofs.Tryz
namespace Go.Pk
open Go.RowKit (Below)
open Go.Proofs
end Go.Pk
namespace Go.Proofs
open Go.Pk (Cf vS vI bW)
open Go.Shelf
open Go.RowKit in
def Tryz.lays156_ren:Go.Shelf.Ren:=⟨fun|156=>66|165=>125|166=>126|169=>127|240=>179|241=>180|276=>217|277=>218|n=>n,fun|31=>38|9=>9|3=>3|4=>4|0=>0|20=>20|72=>164|76=>168|70=>162|37=>39|75=>167|127=>229|164=>267|5=>5|80=>53|n=>n,fun|n=>n⟩
theorem Tryz.lays156:Go.Proofs.Lays.n156 prog Tryz.lays156_ren:=by constructor <;> intros <;> kernel_rfl
theorem Tryz.Builder_Extra_156:Builder.Extra prog Tryz.lays156_ren:= {
 sizeBuilder:=by kernel_rfl
 liesBuilder:=by kernel_rfl
 t5:=Tryz.underlying5
 a5:=Tryz.isAgg5
 z5:=Tryz.sizeOf5
 v5:=Tryz.zeroValue5
 infoByte:=by kernel_rfl
 cellsByte:=by kernel_rfl
 sizeByte:=by kernel_rfl
 neB5:=by decide }
open Go.RowKit in
theorem Tryz.strings_Join_none (a:Option Addr)(c:Nat)(sep:ByteArray)(w:World):
   Cf 66 #[.slice a 0 c,.string sep] w λe w'=>e=.returned (.string ⟨#[]⟩)/\w'=w:=Any.strings_Join_none Tryz.lays156 Tryz.Builder_Extra_156 a c sep w
open Go.RowKit in
theorem Tryz.strings_Join (bk o c:Nat)(xs:List ByteArray)(sep:ByteArray)(w:World)(hcells:∀(j:Nat) x,xs[j]? =some x->w.cell? ⟨bk,o+j,none⟩=some (.string x))(hbk:bk<w.heap.size)(hN:xs.length <=140737488355328)(hcap:xs.length <=c)(hlen:(Lib.join (xs.map (·.data.toList)) sep.data.toList).length <=140737488355328):
   Cf 66 #[.slice (some ⟨bk,o,none⟩) xs.length c,.string sep] w λe w'=>e=.returned (.string ⟨(Lib.join (xs.map (·.data.toList)) sep.data.toList).toArray⟩)/\bW w w':=Any.strings_Join Tryz.lays156 Tryz.Builder_Extra_156 bk o c xs sep w hcells hbk hN hcap hlen
open Go.RowKit in
def Tryz.lays160_ren:Go.Shelf.Ren:=⟨fun|160=>105|232=>161|231=>160|227=>162|234=>164|233=>163|236=>166|235=>165|228=>207|271=>210|151=>209|197=>208|120=>232|152=>231|260=>230|137=>139|119=>243|224=>244|225=>245|217=>186|266=>221|n=>n,fun|9=>9|4=>4|3=>3|5=>5|117=>212|116=>211|0=>0|124=>215|21=>21|105=>259|46=>191|119=>293|139=>296|138=>295|n=>n,fun|3=>1|4=>2|n=>n⟩
theorem Tryz.lays160:Go.Proofs.Lays.n160 prog Tryz.lays160_ren:=by constructor <;> intros <;> kernel_rfl
open Go.RowKit in
def Tryz.lays137_ren:Go.Shelf.Ren:=⟨fun|137=>139|217=>186|266=>221|n=>n,fun|9=>9|5=>5|3=>3|n=>n,fun|n=>n⟩
theorem Tryz.lays137:Go.Proofs.Lays.n137 prog Tryz.lays137_ren:=by constructor <;> intros <;> kernel_rfl
open Go.RowKit in
theorem Tryz.strings_IndexByte (s:ByteArray)(c:Int)(w:World):
   Cf 139 #[.string s,.int .u8 c] w λe w'=>e=.returned (vI (Lib.indexByte s.data.toList c.toNat.toUInt8))/\w'=w:=Any.strings_IndexByte Tryz.lays137 s c w
open Go.RowKit in
def Tryz.lays103_ren:Go.Shelf.Ren:=⟨fun|103=>116|210=>169|206=>212|n=>n,fun|9=>9|4=>4|24=>159|3=>3|n=>n,fun|n=>n⟩
theorem Tryz.lays103:Go.Proofs.Lays.n103 prog Tryz.lays103_ren:=by constructor <;> intros <;> kernel_rfl
open Go.RowKit in
theorem Tryz.strings_CutPrefix (s p:ByteArray)(w:World):
   Cf 116 #[.string s,.string p] w λe w'=>e=.returned (.tuple #[.string ⟨(Lib.trimPrefix s.data.toList p.data.toList).toArray⟩,.bool (Lib.hasPrefix s.data.toList p.data.toList)])/\w'=w:=Any.strings_CutPrefix Tryz.lays103 s p w
open Go.RowKit in
def Tryz.lays104_ren:Go.Shelf.Ren:=⟨fun|104=>117|211=>170|207=>185|n=>n,fun|9=>9|4=>4|24=>159|3=>3|n=>n,fun|n=>n⟩
theorem Tryz.lays104:Go.Proofs.Lays.n104 prog Tryz.lays104_ren:=by constructor <;> intros <;> kernel_rfl
open Go.RowKit in
theorem Tryz.strings_CutSuffix (s p:ByteArray)(w:World)(hs:s.size <=9223372036854775807):
   Cf 117 #[.string s,.string p] w λe w'=>e=.returned (.tuple #[.string ⟨(Lib.trimSuffix s.data.toList p.data.toList).toArray⟩,.bool (Lib.hasSuffix s.data.toList p.data.toList)])/\w'=w:=Any.strings_CutSuffix Tryz.lays104 s p w hs
open Go.RowKit in
open Go.Lib in
open Go.RowKit Go.Sort Go.Lib in
def Tryz.laysM171_ren:Go.Shelf.Ren:=⟨fun|171=>181|243=>219|246=>237|283=>249|284=>250|285=>251|286=>252|129=>201|317=>254|318=>255|319=>256|320=>257|337=>258|338=>259|n=>n,fun|3=>3|9=>9|2=>2|4=>4|171=>299|0=>0|53=>246|37=>39|5=>5|173=>301|212=>304|51=>244|20=>20|213=>305|46=>191|232=>306|233=>307|n=>n,fun|17=>3|18=>4|19=>5|n=>n⟩
theorem Tryz.laysM171:Go.Proofs.LaysM.n171 prog Tryz.laysM171_ren:=by constructor <;> first|(intros;kernel_rfl)|(constructor <;> intros <;> kernel_rfl)
open Go.RowKit Go.Sort Go.Lib in
theorem Tryz.strconv_Itoa (n:Int)(h0: -9223372036854775808 <=n)(h1:n <=9223372036854775807)(w:World)(htab:Lib.TabIs prog w "internal/strconv.uint64pow10" .u64 Lib.pow10Tab):
   Cf 181 #[vI n] w λe w'=>e=.returned (.string ⟨(Lib.itoa n).toArray⟩)/\∃k os,w'=grow (w.drewN k) os:=Any.strconv_Itoa Tryz.laysM171 n h0 h1 w htab
open Go.RowKit Go.Sort Go.Lib in
open Go.RowKit Go.Lib in
def Tryz.lays145_ren:Go.Shelf.Ren:=⟨fun|145=>171|220=>213|219=>233|217=>186|225=>245|224=>244|267=>246|266=>221|314=>253|n=>n,fun|9=>9|4=>4|59=>218|3=>3|5=>5|46=>191|146=>248|51=>244|n=>n,fun|1=>0|n=>n⟩
theorem Tryz.lays145:Go.Proofs.Lays.n145 prog Tryz.lays145_ren:=by constructor <;> intros <;> kernel_rfl
open Go.RowKit Go.Lib in
theorem Tryz.strings_Cut (s sep:ByteArray)(m:Int)(w:World)(hs:s.size<4294967281)(hm:w.cell? ⟨0,0,none⟩=some (vI m)):
   Cf 171 #[.string s,.string sep] w λe w'=>e=.returned (.tuple #[.string ⟨(Lib.cut s.data.toList sep.data.toList).1.toArray⟩,.string ⟨(Lib.cut s.data.toList sep.data.toList).2.1.toArray⟩,.bool (Lib.cut s.data.toList sep.data.toList).2.2])/\∃n,w'=w.drewN n:=Any.strings_Cut Tryz.lays145 s sep m w hs hm
open Go.RowKit Go.Lib in
def Tryz.lays190_ren:Go.Shelf.Ren:=⟨fun|190=>95|125=>150|258=>149|128=>200|129=>201|302=>191|303=>192|304=>193|305=>194|306=>195|307=>196|308=>197|309=>198|310=>199|333=>224|329=>225|330=>226|334=>227|335=>228|336=>229|344=>242|n=>n,fun|31=>38|9=>9|3=>3|46=>191|0=>0|51=>244|53=>246|4=>4|183=>238|182=>237|131=>122|5=>5|218=>278|222=>282|228=>291|229=>231|n=>n,fun|n=>n⟩
theorem Tryz.lays190:Go.Proofs.Lays.n190 prog Tryz.lays190_ren:=by constructor <;> intros <;> kernel_rfl
open Go.Sort Go.RowKit in
theorem Tryz.slices_Sort_string (blk off cap:Nat)(ss:List (List UInt8))(w:World)(hH:Holds encStr w blk off ss.toArray)(hblk:blk<w.heap.size)(hsz:ss.length<4611686018427387904):
   Cf 95 #[.slice (some ⟨blk,off,none⟩) ss.length cap] w λe w'=>
     e=.returned (.tuple #[])/\∃n os,w'=grow (putRow encStr (Sort.ahead w n) blk off (ss.mergeSort λx y=>decide (x <=y)).toArray) os:=Any.slices_Sort_string Tryz.lays190 blk off cap ss w hH hblk hsz
open Go.RowKit Go.Lib in
def Tryz.lays100_ren:Go.Shelf.Ren:=⟨fun|100=>135|207=>185|n=>n,fun|9=>9|4=>4|3=>3|n=>n,fun|n=>n⟩
theorem Tryz.lays100:Go.Proofs.Lays.n100 prog Tryz.lays100_ren:=by constructor <;> intros <;> kernel_rfl
open Go.RowKit Go.Lib in
theorem Tryz.strings_HasSuffix (s p:ByteArray)(w:World)(hs:s.size <=9223372036854775807):
   Cf 135 #[.string s,.string p] w λe w'=>e=.returned (.bool (Lib.hasSuffix s.data.toList p.data.toList))/\w'=w:=Any.strings_HasSuffix Tryz.lays100 s p w hs
open Go.RowKit Go.Lib in
def Tryz.lays146_ren:Go.Shelf.Ren:=⟨fun|146=>174|221=>215|268=>234|138=>235|143=>236|195=>247|197=>208|218=>248|219=>233|260=>230|217=>186|225=>245|224=>244|267=>246|266=>221|314=>253|n=>n,fun|9=>9|31=>38|3=>3|4=>4|0=>0|105=>259|21=>21|5=>5|46=>191|119=>293|139=>296|138=>295|146=>248|51=>244|n=>n,fun|1=>0|3=>1|4=>2|n=>n⟩
theorem Tryz.lays146:Go.Proofs.Lays.n146 prog Tryz.lays146_ren:=by constructor <;> intros <;> kernel_rfl
open Go.RowKit Go.Lib in
theorem Tryz.strings_Split (s sep:ByteArray)(m:Int)(w:World)(hs:s.size<4294967281)(hm:w.cell? ⟨0,0,none⟩=some (vI m))(h1:1 <=sep.size):
   Cf 174 #[.string s,.string sep] w λe w'=>
     e=.returned (.slice (some ⟨w.heap.size,0,none⟩) (Lib.countB s sep+1) (Lib.countB s sep+1))/\w'=w.alloc (.cells ((Lib.splitB sep 0 (Lib.countB s sep) s).map Value.string).toArray 9):=Any.strings_Split Tryz.lays146 (by kernel_rfl) s sep m w hs hm h1
open Go.RowKit Go.Lib in
open Go.Lib in
open Go.RowKit Go.Lib in
def Tryz.lays194_ren:Go.Shelf.Ren:=⟨fun|194=>45|n=>n,fun|31=>38|9=>9|3=>3|4=>4|0=>0|n=>n,fun|n=>n⟩
theorem Tryz.lays194:Go.Proofs.Lays.n194 prog Tryz.lays194_ren:=by constructor <;> intros <;> kernel_rfl
open Go.RowKit Go.Lib Go.Sort in
theorem Tryz.slices_Compact_string (blk off cap:Nat)(zs:List (List UInt8))(w:World)(hH:Holds encStr w blk off zs.toArray)(hsz:zs.length <=9223372036854775807)(hcap:zs.length <=cap):
   Cf 45 #[.slice (some ⟨blk,off,none⟩) zs.length cap] w λe w'=>e=.returned (.slice (some ⟨blk,off,none⟩) (Lib.compact zs).length cap)/\∃q,w'=putRow encStr (Sort.ahead w q) blk off (Lib.compact zs++List.replicate (zs.length-(Lib.compact zs).length) []).toArray:=Any.slices_Compact_string Tryz.lays194 blk off cap zs w hH hsz hcap
open Go.RowKit Go.Lib Go.Sort in
theorem Tryz.slices_Compact_string_empty (a:Option Addr)(cap:Nat)(w:World):
   Cf 45 #[.slice a 0 cap] w λe w'=>e=.returned (.slice a 0 cap)/\w'=w:=Any.slices_Compact_string_empty Tryz.lays194 a cap w
open Go.RowKit Go.Lib Go.Sort in
open Go.RowKit Go.Sort in
theorem Tryz.slices_Sort_string_none (p:Option Addr)(cap:Nat)(w:World):
   Cf 95 #[.slice p 0 cap] w λe w'=>e=.returned (.tuple #[])/\w'=w:=Any.slices_Sort_string_none Tryz.lays190 p cap w
open Go.RowKit Go.Lib in
open Go.RowKit in
theorem Tryz.strings_Trim_laid (s cutset:ByteArray)(w:World)(hs:s.size <=9223372036854775807)(hcs:cutset.size<4294967281)(hascii:∀(j:Nat) b,cutset.data.toList[j]? =some b->b.toNat<128):
   Cf 105 #[.string s,.string cutset] w λe w'=>e=.returned (.string ⟨(Lib.trimS s.data.toList cutset.data.toList).toArray⟩)/\bW w w':=
 Any.strings_Trim_laid Tryz.lays160 (by kernel_rfl) s cutset w hs hcs hascii
end Go.Proofs
namespace Go.Pk
open Go.RowKit (Below)
open Go.Proofs
def Ou (n:Int):Prop:=n=9\/(32 <=n/\n <=47)\/(59 <=n/\n <=64)\/(91 <=n/\n <=96)\/(123 <=n/\n <=126)
instance  (n:Int):Decidable (Ou n):=by unfold Ou;infer_instance
def ue (c:UInt8):Bool:=decide (48 <=c)&&decide (c <=57)
def wW (l:List UInt8):Int:=l.foldl (λn c=>n*10+((c.toNat:Int)-48)) 0
theorem Ii:∀n,n<256->([48,49,50,51,52,53,54,55,56,57]:List UInt8).contains (UInt8.ofNat n)=ue (UInt8.ofNat n):=by decide+kernel
theorem Pv (c:UInt8):([48,49,50,51,52,53,54,55,56,57]:List UInt8).contains c=ue c:=by
 have:=Ii c.toNat (by have:=c.toNat_lt;omega)
 rwa [UInt8.ofNat_toNat]at this
theorem yg {c:UInt8} :ue c=true ↔ 48 <=c.toNat/\c.toNat <=57:=by
 unfold ue
 rw[Bool.and_eq_true,dTx,dTx,UInt8.le_iff_toNat_le,UInt8.le_iff_toNat_le]
 exact Iff.rfl
theorem three {α:Type}{l:List α}(h:l.length=3):∃a b c,l=[a,b,c]:=by
 match l,h with
 | [a,b,c],_=>exact⟨a,b,c,rfl⟩
structure Fnd where
 time:Bool
 day:Bool
 month:Bool
 year:Bool
 s0:Int
 s1:Int
 s2:Int
 y:Int
 m:Int
 d:Int
def Fnd.cells (f:Fnd):List Value:=[.bool f.time,.bool f.day,.bool f.month,.bool f.year,vI f.s0,vI f.s1,vI f.s2,vI f.y,vI f.m,vI f.d]
def RA (y:Int):Int:=if 70 <=y/\y <=99 then y+1900 else if y<70 then y+2000 else y
def QK (f:Fnd):Prop:=L2 (RA f.y) f.m f.d/\f.time=true/\f.year=true/\f.s0 <=23/\f.s1 <=59/\f.s2 <=59
instance  (f:Fnd):Decidable (QK f):=by unfold QK;infer_instance
theorem qU:∀(l:List UInt8) (acc:Int),0 <=acc->(∀c∈l,ue c=true)->0 <=l.foldl (λn c=>n*10+((c.toNat:Int)-48)) acc/\l.foldl (λn c=>n*10+((c.toNat:Int)-48)) acc<(acc+1)*10 ^ l.length
 | [],acc,h,_=>by simp;omega
 | c::l,acc,h,hd=>by
   have hc:=yg.1 (hd c List.mem_cons_self)
   obtain⟨h1,h2⟩:=qU l (acc*10+((c.toNat:Int)-48)) (by omega) λx hx=>hd x (List.mem_cons_of_mem _ hx)
   rw[List.foldl_cons]
   refine⟨h1,Int.lt_of_lt_of_le h2 ?_⟩
   rw[List.length_cons,Int.pow_succ,Int.mul_comm (10 ^ l.length) 10,<- Int.mul_assoc]
   exact Int.mul_le_mul_of_nonneg_right (by omega) (Int.pow_nonneg (by decide))
theorem NZ {a b:Nat}(h:a <=b):(10:Int) ^ a <=10 ^ b:=by
 have:=Nat.pow_le_pow_right (n:=10) (by decide) h
 have e:∀k:Nat,((10 ^ k:Nat):Int)=10 ^ k:=λk=>by simp
 rw[<- e,<- e];omega
theorem Lo (l:List UInt8)(c:UInt8):wW (l++[c])=wW l*10+((c.toNat:Int)-48):=by unfold wW;rw[List.foldl_append];rfl
theorem H5 (w:World)(k:Nat)(os:Array Obj):bW w (Go.Sort.grow (w.drewN k) os):=by
 refine ve rfl rfl rfl (by simp[Go.Sort.grow,World.drewN]) λj hj=>?_
 show(w.heap++os)[j]? =_
 rw[Array.getElem?_append_left hj]
abbrev JT (P:Program)(w:World):Prop:=Lib.TabIs P w "internal/strconv.uint64pow10" .u64 Lib.pow10Tab
def stripR (p:UInt8->Bool)(s:List UInt8):List UInt8:=(s.reverse.dropWhile p).reverse
def EQ (p:UInt8->Bool)(s:List UInt8):List UInt8:=stripR p (s.dropWhile p)
theorem xA (p:UInt8->Bool)(x:UInt8)(s:List UInt8):stripR p (x::s)=if stripR p s=[]then(if p x then[]else[x])else x::stripR p s:=by
 unfold stripR
 rw[List.reverse_cons]
 have key:∀t:List UInt8,List.dropWhile p (t++[x])=if List.dropWhile p t=[]then(if p x then[]else[x])else List.dropWhile p t++[x]:=by
   intro t
   induction t with
   | nil=>simp[List.dropWhile_cons]
   | cons y t ih=>
     rw[List.cons_append,List.dropWhile_cons,List.dropWhile_cons]
     split
     · exact ih
     · rw[if_neg (by simp)];rfl
 rw[key]
 by_cases h:List.dropWhile p s.reverse=[]
 · have h':(List.dropWhile p s.reverse).reverse=[]:=by rw[h];rfl
   rw[if_pos h,if_pos h']
   split <;> rfl
 · have h': ¬ (List.dropWhile p s.reverse).reverse=[]:=by simpa using h
   rw[if_neg h,if_neg h']
   simp
theorem ER (p:UInt8->Bool):∀s:List UInt8,(stripR p s).dropWhile p=EQ p s
 | []=>rfl
 | x::s=>by
   have ih:=ER p s
   unfold EQ at ih ⊢
   cases hx:p x with
   | true=>
     have e1:List.dropWhile p (x::s)=List.dropWhile p s:=by rw[List.dropWhile_cons,if_pos hx]
     rw[e1,<- ih,xA]
     by_cases h:stripR p s=[]
     · rw[if_pos h,if_pos hx,h]
     · rw[if_neg h,List.dropWhile_cons,if_pos hx]
   | false=>
     have hx': ¬ p x=true:=by rw[hx];decide
     have e1:List.dropWhile p (x::s)=x::s:=by rw[List.dropWhile_cons,if_neg hx']
     rw[e1,xA]
     by_cases h:stripR p s=[]
     · rw[if_pos h,if_neg hx',List.dropWhile_cons,if_neg hx']
     · rw[if_neg h,List.dropWhile_cons,if_neg hx']
theorem vZ (p:UInt8->Bool):∀s:List UInt8,stripR p s=[] ↔ s.all p=true
 | []=>by simp[stripR]
 | x::s=>by
   have ih:=vZ p s
   rw[xA,List.all_cons,Bool.and_eq_true,<- ih]
   by_cases h:stripR p s=[]
   · rw[if_pos h]
     cases p x <;> simp[h]
   · rw[if_neg h];simp[h]
theorem vY (p:UInt8->Bool):∀s:List UInt8,EQ p s=[] ↔ s.all p=true
 | []=>by simp[EQ,stripR]
 | x::s=>by
   unfold EQ
   rw[List.dropWhile_cons]
   cases hx:p x with
   | true=>rw[if_pos rfl,List.all_cons,hx,Bool.true_and];exact vY p s
   | false=>rw[if_neg (by decide),vZ]
theorem IQ (s cs:List UInt8):Lib.trimS s cs=EQ (cs.contains ·) s:=ER _ s
def cC (s:List UInt8):Bool:= !(s==[])&&s.all ue
theorem zZb (s:List UInt8):(Lib.trimS s [48,49,50,51,52,53,54,55,56,57]==[])=s.all ue:=by
 rw[IQ]
 have e:(λx=>([48,49,50,51,52,53,54,55,56,57]:List UInt8).contains x)=ue:=funext Pv
 rw[e,Bool.eq_iff_iff,beq_iff_eq,vY]
def zD (s:List UInt8):Prop:=cC s=true/\s.length <=18/\ ¬ (s.head?=some 48/\1<s.length)
instance  (s:List UInt8):Decidable (zD s):=by unfold zD;infer_instance
theorem oZ (s:List UInt8)(hs:s.length <=9223372036854775807)(w:World):Cf jH #[vS s] w (Ret λv w'=>v=.bool (cC s)/\bW w w'):=by
 apply AY
 unfold cC
 refine ae.of (λh=>?_) (λh=>?_)
 · refine⟨⟨by decide,by decide⟩,?_⟩
   rintro _ rfl
   refine(Tryz.strings_Trim_laid (mkS s) (mkS [48,49,50,51,52,53,54,55,56,57]) w hs (by decide) (ascii_of_all (by decide))).mono ?_
   rintro _ w1 ⟨rfl,hb⟩
   refine⟨_,rfl,?_,hb⟩
   have e:=zZb s
   rw[h,Bool.true_and,<- e];rfl
 · rw[h];exact⟨rfl,Below.refl _ _⟩
theorem CK (s:List UInt8)(hs:s.length <=9223372036854775000)(w:World):
   Cf qo #[vS s] w (Ret λv w'=>v=(if zD s then .tuple #[vI (wW s),.bool true]else .tuple #[vI 0,.bool false])/\bW w w'):=by
 apply AZ
 have bad:∀{w':World},¬ zD s->bW w w'->(.tuple #[vI 0,.bool false]:Value)=(if zD s then .tuple #[vI (wW s),.bool true]else .tuple #[vI 0,.bool false])/\bW w w':=λhn hb=>⟨by rw[if_neg hn],hb⟩
 refine fY (λw'=>zD s/\bW w w') ?_ ?_
 · refine ax (oZ s (by omega) w) ?_
   rintro _ w1 ⟨rfl,hb⟩
   refine⟨_,rfl,?_⟩
   refine ae.of (λh=>?_) (λh=>?_) <;> simp only[Bool.not_eq_true',Bool.not_eq_false']at h
   · exact bad (λhc=>by rw[hc.1]at h;cases h) hb
   refine ae.of (λh2=>?_) (λh2=>?_) <;> simp only[gt_iff_lt,dTx,dFx]at h2
   · exact bad (λhc=>by have:=hc.2.1;omega) hb
   have hne:s≠[]:=λe=>by rw[e]at h;cases h
   match s,hne with
   | c::r,_=>
     have hx:aQ (c::r) 0=((c.toNat:Nat):Int):=rfl
     rw[hx]
     refine⟨⟨by decide,by simp only[List.length_cons];omega⟩,?_⟩
     refine ae.of (λh3=>?_) (λh3=>?_)
     · have hc:c=48:=MP (by simpa using h3)
       refine ae.of (λh4=>?_) (λh4=>?_) <;> simp only[gt_iff_lt,dTx,dFx]at h4
       · exact bad (λhcn=>hcn.2.2 ⟨by rw[hc];rfl,by omega⟩) hb
       · exact⟨⟨h,by omega,λhcn=>by omega⟩,hb⟩
     · have hc:c≠48:=λe=>by subst e;cases h3
       exact⟨⟨h,by omega,λhcn=>hc (by simpa using hcn.1)⟩,hb⟩
 · rintro w1 ⟨hn,hb⟩
   rw[if_pos hn]
   obtain⟨hd,hl,_⟩:=hn
   have hall:∀c∈s,ue c=true:=λc hc=>by
     unfold cC at hd
     rw[Bool.and_eq_true]at hd
     exact List.all_eq_true.1 hd.2 c hc
   obtain⟨w2,a,n,c,hr,ho,hb2,hf⟩:=uX aA bZ bP w1 s (by omega) NoB
   have hnn:=ho.len
   subst hnn
   have hb12:=ab hb hb2 hb.size
   refine⟨w2,a,_,c,hr,?_⟩
   refine⟨λm n i w'=>∃k:Nat,k <=s.length/\i=(k:Int)/\n=wW (s.take k)/\m=s.length-k/\w'=w2,⟨_,0,by omega,rfl,rfl,rfl,rfl⟩,?_⟩
   intro m n i
   refine aC.of ?_ _
   rintro w' ⟨k,hk,rfl,rfl,rfl,rfl⟩
   refine ae.of (λh=>?_) (λh=>?_) <;> simp only[dTx,dFx]at h
   · have hlt:k<s.length:=by omega
     have hc:=yg.1 (hall s[k] (List.getElem_mem hlt))
     have hbd:=qU (s.take k) 0 (by decide) λc hc=>hall c (List.mem_of_mem_take hc)
     have hp:(10:Int) ^ (s.take k).length <=10 ^ 17:=NZ (by rw[List.length_take];omega)
     have e17:(10:Int) ^ 17=100000000000000000:=by decide
     have hV:(s.take k).foldl (λn c=>n*10+((c.toNat:Int)-48)) 0=wW (s.take k):=rfl
     rw[hV]at hbd
     have hbb:=hbd.2
     rw[Int.zero_add,Int.one_mul]at hbb
     obtain⟨v,hv,hrep⟩:=ho.all.load1 (i:=(k:Int)) bP rfl rfl (by simpa using hlt)
     have:=Aw hrep
     subst this
     simp only[Int.toNat_natCast]at hv
     refine⟨⟨⟨by omega,h⟩,ho.all.isSome hlt⟩,_,hv,s.length-(k+1),by omega,k+1,by omega,by rw[wrap_i64 (by omega) (by omega)];omega,?_,rfl,rfl⟩
     rw[List.take_succ_eq_append_getElem hlt,Lo,wrap_i64 (n:=10*wW (s.take k)) (by omega) (by omega),wrap_u8 (n:=((s[k].toNat:Nat):Int)-48) (by omega) (by omega),wrap_i64 (n:=((s[k].toNat:Nat):Int)-48) (by omega) (by omega),wrap_i64 (by omega) (by omega)]
     omega
   · have:k=s.length:=by omega
     subst this
     rw[List.take_length];exact⟨rfl,hb12⟩
theorem mA (s:List UInt8)(c:UInt8)(hs:s.length<4294967281)(w:World)(he:Env w):
   Cf jk #[vS s,.int .u8 ((c.toNat:Nat):Int)] w (Ret λv w'=>∃a n cp,v=.slice a n cp/\Ow tS au w' NoB a n cp (bS c [] s)/\bI w.heap.size a/\bW w w'):=by
 apply C6
 intro k w1 hk hw
 have hB:=(hw▸ah w _:bW w w1)
 have ho:Ow tU8 aG w1 NoB (some ⟨k,0,none⟩) 1 1 [c]:=Ow.newF (l:=[_]) tT hk hw (iK.one (ul rfl)) (show 1 <=maxLen by decide)
 refine⟨_,qN bZ aA bP ho.all,?_⟩
 obtain⟨m,hm⟩:=(he.step hB).max
 refine(Tryz.strings_Split (mkS s) (mkS [c]) m w1 hs hm (Nat.le_refl 1)).mono ?_
 rintro _ w2 ⟨rfl,hw2⟩
 have hcnt:=kn c s []
 rw[Di,IH]at*
 refine⟨_,_,_,rfl,_,_,_,rfl,Ow.newF (j5 _) rfl hw2 (j1 λ_ _=>trivial) (by show _ <=2 ^ 63-1;omega),tU rfl |>.mono hB.size,ab hB (hw2▸ah _ _) hB.size⟩
theorem mu (c n:UInt8):((((c.toNat:Nat):Int))==((n.toNat:Nat):Int))=(c==n):=by
 rw[Bool.eq_iff_iff,beq_iff_eq,beq_iff_eq]
 exact⟨λh=>MP h,λh=>by rw[h]⟩
theorem byte_at {s:List UInt8}{k:Nat}(h:k<s.length):aQ s (k:Int)=((s[k].toNat:Nat):Int):=by
 rw[ow (i:=(k:Int)) (by simpa using h)];simp only[Int.toNat_natCast]
theorem N0 (s:List UInt8)(c:UInt8):Lib.hasPrefix s [c]=decide (s.head?=some c)/\Lib.trimPrefix s [c]=if s.head?=some c then s.drop 1 else s:=by
 cases s with
 | nil=>exact⟨by simp[Lib.hasPrefix],rfl⟩
 | cons x s=>
   by_cases h:x=c
   · subst h
     have ht:Lib.hasPrefix (x::s) [x]=true:=by simp[Lib.hasPrefix,List.isPrefixOf]
     refine⟨by rw[ht];simp,?_⟩
     unfold Lib.trimPrefix;rw[ht];simp
   · have hf:Lib.hasPrefix (x::s) [c]=false:=by simp[Lib.hasPrefix,List.isPrefixOf,Ne.symm h]
     refine⟨by rw[hf];simp[h],?_⟩
     unfold Lib.trimPrefix;rw[hf];simp[h]
theorem am.put {P:Program}{u:TypeId}{bytes:Nat}{z:Value}(tf:TF P u 1 bytes z){w:World}{k:Nat}{t:TypeId}{vs:List Value}(h:am w k t vs){i:Nat}{v:Value}(hi:i<vs.length)(h1:v.oneCell'=true)(hc:v.cells= #[v]):
   ∃w',(Instr.storeAt u (.pointer (some ⟨k,i,none⟩)) v).run P w=.ok () w'/\am w' k t (vs.set i v)/\w.grownBy w' (some k):=by
 obtain⟨w',hs,ha,hg⟩:=h.store tf (i:=i) (v:=v) (by rw[hc];rfl) (by omega) (by rw[hc];intro c hcc;simp at hcc;subst hcc;exact h1)
 refine⟨w',hs,?_,hg⟩
 rw[hc]at ha
 have:vs.set i v=vs.take i++[v]++vs.drop (i+1):=by
   rw[List.set_eq_take_append_cons_drop,if_pos hi];simp
 rw[this];exact ha
theorem Ln (s:List UInt8)(c:UInt8)(w:World):Cf oO #[vS s,vS [c]] w (Ret λv w'=>v=.tuple #[vS (if s.head?=some c then s.drop 1 else s),.bool (decide (s.head?=some c))]/\w'=w):=by
 refine(Tryz.strings_CutPrefix (mkS s) (mkS [c]) w).mono ?_
 rintro _ _ ⟨rfl,rfl⟩
 refine⟨_,rfl,?_,rfl⟩
 have h:=N0 s c
 have e:(mkS s).data.toList=s:=rfl
 have e2:(mkS [c]).data.toList=[c]:=rfl
 rw[e,e2,h.1]
 by_cases hc:s.head?=some c
 · rw[if_pos hc]
   have h2:=h.2
   rw[if_pos hc]at h2
   rw[h2];rfl
 · rw[if_neg hc]
   have h2:=h.2
   rw[if_neg hc]at h2
   rw[h2];rfl
structure Whl (P:Program)(t:TypeId)(n:Nat):Prop where
 tf:∃bytes z,TF P t n bytes z
 ag:(P.underlying t).map HP=some true
def DE (cs:List Value):Prop:=∀c∈cs,c.oneCell'=true
theorem CN {a b:List Value}(h:DE a)(k:DE b):DE (a++b):=λc hc=>(List.mem_append.1 hc).elim (h c) (k c)
theorem aW {x:Value}{b:List Value}(h:x.oneCell'=true)(k:DE b):DE (x::b):=λc hc=>(List.mem_cons.1 hc).elim (λe=>e▸h) (k c)
theorem jA:DE []:=λ_ h=>by cases h
theorem Q3 (a:List UInt8):DE (a.map λc=>Value.int .u8 ((c.toNat:Nat):Int)):=λc hc=>by
 obtain⟨x,_,rfl⟩:=List.mem_map.1 hc;rfl
theorem Whl.store {P:Program}{t:TypeId}{n:Nat}(h:Whl P t n){cs:List Value}(hl:cs.length=n)(h1:DE cs){w:World}{k:Nat}{T:TypeId}{vs:List Value}(ha:am w k T vs){i:Nat}(hfit:i+n <=vs.length):
   ∃wx,(Instr.storeAt t (.pointer (some ⟨k,i,none⟩)) (.agg cs.toArray)).run P w=.ok () wx/\am wx k T (vs.take i++cs++vs.drop (i+n))/\w.grownBy wx (some k):=by
 obtain⟨bytes,z,tf⟩:=h.tf
 exact ha.store tf (i:=i) (v:=.agg cs.toArray) (by simpa[Value.cells]using hl) hfit (λc hc=>h1 c (by simpa[Value.cells]using hc))
theorem Whl.store0 {P:Program}{t:TypeId}{n:Nat}(h:Whl P t n){cs:List Value}(hl:cs.length=n)(h1:DE cs){w:World}{k:Nat}{T:TypeId}{vs:List Value}(ha:am w k T vs)(hv:vs.length=n):
   ∃wx,(Instr.storeAt t (.pointer (some ⟨k,0,none⟩)) (.agg cs.toArray)).run P w=.ok () wx/\am wx k T cs/\w.grownBy wx (some k):=by
 obtain⟨wx,hs,h2,hg⟩:=h.store hl h1 ha (i:=0) (by omega)
 refine⟨wx,hs,?_,hg⟩
 rw[List.take_zero,List.nil_append,List.drop_eq_nil_of_le (by omega),List.append_nil]at h2
 exact h2
theorem Whl.load {P:Program}{t:TypeId}{n:Nat}(h:Whl P t n){w:World}{k:Nat}{T:TypeId}{vs us:List Value}(ha:am w k T vs){i:Nat}(hl:us.length=n)(hv:∀j,j<n->vs[i+j]? =us[j]?):
   (Instr.loadAt t (.pointer (some ⟨k,i,none⟩))).run P w=.ok (.agg us.toArray) w:=by
 obtain⟨bytes,z,tf⟩:=h.tf
 obtain⟨ti,hti,hsz,_,_⟩:=tf.info
 have hag:=h.ag
 cases hu:P.underlying t with
 | none=>rw[hu]at hag;cases hag
 | some d=>
   rw[hu]at hag
   simp only[Option.map_some,Option.some.injEq]at hag
   exact ha.loadA hu hag hti (us:=us) (i:=i) (by rw[hsz];exact hl) (λj hj=>hv j (by omega))
theorem Whl.load0 {P:Program}{t:TypeId}{n:Nat}(h:Whl P t n){w:World}{k:Nat}{T:TypeId}{cs:List Value}(ha:am w k T cs)(hl:cs.length=n):
   (Instr.loadAt t (.pointer (some ⟨k,0,none⟩))).run P w=.ok (.agg cs.toArray) w:=h.load ha hl λj _=>by rw[Nat.zero_add]
theorem Whl.new {P:Program}{t:TypeId}{n:Nat}(h:Whl P t n){zs cs:List Value}(hz:zs.length=n)(hl:cs.length=n)(h1:DE cs)(w:World){R:Nat->World->Prop}
   (H:∀k wx,k=w.heap.size->am wx k t cs->bW w wx->R k wx):
   ∀(k:Nat) (w1:World),k=w.heap.size->w1=w.alloc (.cells zs.toArray t)->∃(wx:World),(Instr.storeAt t (.pointer (some ⟨k,0,none⟩)) (.agg cs.toArray)).run P w1=.ok () wx/\R k wx:=by
 intro k w1 hk hw
 have hB:=(hw▸ah w _:bW w w1)
 obtain⟨wx,hs,h3,hg⟩:=h.store0 hl h1 (am.new hk hw:am w1 k t zs) hz
 exact⟨wx,hs,H k wx hk h3 (hB.grown hg hB.size λx e=>by cases e;omega)⟩
theorem Whl.fin {P:Program}{t:TypeId}{n:Nat}(h:Whl P t n){cs:List Value}(hl:cs.length=n)(h1:DE cs){w w':World}{k2:Nat}{vs:List Value}(h2:am w' k2 t vs)(hv:vs.length=n)(hb:bW w w')(hk:w.heap.size <=k2)
   {K:Value->World->Prop} (hK:∀wx,bW w wx->K (.agg cs.toArray) wx):
   ∃(wx:World),(Instr.storeAt t (.pointer (some ⟨k2,0,none⟩)) (.agg cs.toArray)).run P w'=.ok () wx/\∃vr:Value,(aR t (.pointer (some ⟨k2,0,none⟩))).run P wx=.ok vr wx/\K vr wx:=by
 obtain⟨wx,hs,h3,hg⟩:=h.store0 hl h1 h2 hv
 exact⟨wx,hs,_,am.res (h.load0 h3 hl),hK wx (hb.grown hg hb.size λx e=>by cases e;exact hk)⟩
theorem Below.put {w0 w w':World}{k:Nat}(h:bW w0 w)(hg:w.grownBy w' (some k))(hk:w0.heap.size <=k):bW w0 w':=h.grown hg h.size λx e=>by cases e;exact hk
theorem fH {x y:Nat}(h:x≠y):some x≠some y:=λe=>h (Option.some.inj e)
theorem cT (k o i:Nat):ao (some ⟨k,o,none⟩) (i:Int) 1=some ⟨k,o+i,none⟩:=by
 unfold ao
 simp only[Option.map_some,Int.toNat_natCast,Nat.mul_one,Option.some.injEq]
 unfold Addr.add;split <;> simp_all
theorem Ow.put {α:Type}{T:Ty α}{t:TypeId}{w w':World}{a:Option Addr}{n c k:Nat}{xs:List α}(h:Ow T t w NoB a n c xs)(hog:∀g,bK a=some g->g≠k)(hg:w.grownBy w' (some k)):Ow T t w' NoB a n c xs:=
 h.keep (lZ hg λb hb e=>by
   rcases hb with hb|hb
   · exact hb
   · exact hog b hb.symm (Option.some.inj e))
theorem Sl.text {P:Program}{u:TypeId}(hu:P.underlying u=some .string){w:World}{A:Bl}{a:Option Addr}{n c:Nat}{xs:List (List UInt8)}(h:Sl tS w A a n c xs){i:Nat}(hi:i<xs.length):(Instr.loadAt u (.pointer (ao a (i:Int) 1))).run P w=.ok (.string (mkS xs[i])) w:=by
 obtain⟨v,hv,hrep⟩:=h.load1 (i:=(i:Int)) hu rfl rfl (by simpa using hi)
 obtain⟨rfl,-⟩:=xz hrep
 simpa using hv
def adC (a:List UInt8):List Value:=a.map λc=>Value.int .u8 ((c.toNat:Nat):Int)
def adV (a:List UInt8):Value:=.agg (adC a).toArray
def ad0:List UInt8:=List.replicate 16 0
theorem bX (a:List UInt8):(adC a).length=a.length:=by simp[adC]
theorem cA (a:List UInt8):DE (adC a):=Q3 a
theorem qi (a:List UInt8)(i:Nat)(c:UInt8):(adC a).set i (.int .u8 ((c.toNat:Nat):Int))=adC (a.set i c):=by unfold adC;rw[List.map_set]
theorem tw {a:List UInt8}{i:Nat}(h:i<a.length):(adC a)[i]? =some (.int .u8 ((a[i].toNat:Nat):Int)):=by unfold adC;rw[List.getElem?_map,List.getElem?_eq_getElem h];rfl
def adT:Option (List UInt8)->Value
 | some a=>.tuple #[adV a,.bool true]
 | none=>.tuple #[adV ad0,.bool false]
def yf (x:List UInt8):Prop:=zD x/\wW x <=255
instance  (x:List UInt8):Decidable (yf x):=by unfold yf;infer_instance
def ipB (x:List UInt8):UInt8:=UInt8.ofNat (wW x).toNat
def v4V (s:List UInt8):Option (List UInt8):=if(bS 46 [] s).length=4/\∀x∈bS 46 [] s,yf x then some (List.replicate 12 0++(bS 46 [] s).map ipB)else none
theorem L1 {x:List UInt8}(h:yf x):IntKind.u8.wrap (wW x)=(((ipB x).toNat:Nat):Int):=by
 have hd:0 <=wW x:=by
   have:=h.1.1
   unfold cC at this
   rw[Bool.and_eq_true]at this
   exact(qU x 0 (by decide) (λc hc=>List.all_eq_true.1 this.2 c hc)).1
 have h2:=h.2
 rw[wrap_u8 hd h2]
 unfold ipB
 rw[UInt8.toNat_ofNat']
 omega
def v4S (L:List (List UInt8))(k:Nat):List UInt8:=List.replicate 12 0++(L.take k).map ipB++List.replicate (4-k) 0
theorem Ab {L:List (List UInt8)}(h:L.length=4){k:Nat}(hk:k <=4):(v4S L k).length=16:=by simp[v4S];omega
theorem IW {L:List (List UInt8)}(h:L.length=4){k:Nat}(hk:k<4):(v4S L k).set (12+k) (ipB (L[k]'(by omega)))=v4S L (k+1):=by
 unfold v4S
 have hl:(List.replicate 12 (0:UInt8)++(L.take k).map ipB).length=12+k:=by simp;omega
 rw[List.set_append_right _ _ (by omega),hl,Nat.sub_self,List.take_succ_eq_append_getElem (by omega),List.map_append]
 rw[show 4-k=(4-(k+1))+1 by omega,List.replicate_succ (n:=4-(k+1)),List.set_cons_zero]
 simp
theorem Qi {L:List (List UInt8)}(h:L.length=4):v4S L 4=List.replicate 12 0++L.map ipB:=by unfold v4S;rw[List.take_of_length_le (by omega)];simp
theorem MV {s:List UInt8}(h: ¬ ((bS 46 [] s).length=4/\∀x∈bS 46 [] s,yf x)):v4V s=none:=if_neg h
theorem bh:Whl prog ak 16:=⟨⟨_,_,IM⟩,by kernel_rfl⟩
theorem JV (s:List UInt8)(hs:s.length<4294967281)(w:World)(he:Env w):Cf Ck #[vS s] w (Ret λv w'=>v=adT (v4V s)/\bW w w'):=by
 apply IE
 intro k2 w2 hk2 hw2
 have hB2:=(hw2▸ah w _:bW w w2)
 have h2:am w2 k2 ak (adC ad0):=am.new hk2 hw2
 refine ax (mA s 46 hs w2 (he.step hB2)) ?_
 rintro _ w3 ⟨a,n,c,rfl,ho,hf,hb3⟩
 have hB3:=ab hB2 hb3 hB2.size
 have h23:=h2.below hb3
 have hn:=ho.len
 have hlens:∀x∈bS 46 [] s,x.length <=s.length:=λx hx=>by simpa using kH 46 s [] x hx
 have none_end:∀{wx:World},v4V s=none->am wx k2 ak (adC ad0)->bW w wx->_:=fun{wx} hv h2x hBx=>bh.fin (K:=λvr wy=>(.tuple #[vr,.bool false]:Value)=adT (v4V s)/\bW w wy) (cs:=adC ad0) rfl (cA _) h2x rfl hBx (by omega) λwy hb=>⟨by rw[hv];rfl,hb⟩
 refine⟨_,_,_,rfl,ae.of (λh4=>?_) (λh4=>?_)⟩
 · refine none_end (MV λhc=>?_) h23 hB3
   rw[bne_iff_ne]at h4;omega
 have hl4:(bS 46 [] s).length=4:=by simp at h4;omega
 intro k5 w5 hk5 hw5
 have hb5:=(hw5▸ah w3 _:bW w3 w5)
 have hB5:=ab hB3 hb5 hB3.size
 have h25:=h23.below hb5
 have h55:am w5 k5 ak (adC ad0):=am.new hk5 hw5
 have ho5:=ho.below hb5
 have hlt2:=h23.lt
 have hog:∀g,bK a=some g->g≠k5:=λg hg e=>by have:=ho.lt g hg;omega
 have hk5w:w.heap.size <=k5:=by have:=hB3.size;omega
 obtain⟨L,hL⟩:∃L,L=bS 46 [] s:=⟨_,rfl⟩
 rw[<- hL]at ho5 hl4 hlens hn
 have hv4:v4V s=if L.length=4/\∀x∈L,yf x then some (List.replicate 12 0++L.map ipB)else none:=by rw[hL];rfl
 refine⟨λm i w'=>∃k:Nat,k <=4/\i=(k:Int)/\m=4-k/\(∀j (hj:j<k) (h:j<L.length),yf L[j])/\am w' k5 ak (adC (v4S L k))/\am w' k2 ak (adC ad0)/\Ow tS au w' NoB a n c L/\bW w w',
   ⟨_,0,by omega,rfl,rfl,λj hj=>by omega,h55,h25,ho5,hB5⟩,?_⟩
 intro m i
 refine aC.of ?_ _
 rintro w6 ⟨k,hk,rfl,rfl,hok,h56,h26,ho6,hB6⟩
 refine ae.of (λh=>?_) (λh=>?_) <;> simp only[dTx,dFx]at h
 · have hk4:k<4:=by omega
   have hkL:k<L.length:=by omega
   refine⟨⟨⟨by omega,h⟩,ho6.all.isSome (by omega)⟩,_,ho6.all.text aA hkL,?_⟩
   have hlk:=hlens L[k] (List.getElem_mem hkL)
   refine ax (CK L[k] (by omega) w6) ?_
   rintro _ w7 ⟨rfl,hb7⟩
   have hB7:=ab hB6 hb7 hB6.size
   have hnone: ¬ yf L[k]->v4V s=none:=λhx=>by
     rw[hv4,if_neg λhc=>hx (hc.2 _ (List.getElem_mem hkL))]
   refine⟨if zD L[k]then wW L[k]else 0,if zD L[k]then true else false,by split <;> rfl,?_⟩
   refine⟨λw'=>w'=w7/\yf L[k],?_,?_⟩
   · refine K9 (B:=λJ=>ae _ (J true w7) (J _ w7)) (!decide (yf L[k])) (ae.of (λh1=>⟨rfl,?_⟩) (λh1=>⟨rfl,?_⟩)) ?_
     · have: ¬ zD L[k]:=λhc=>by rw[if_pos hc]at h1;cases h1
       have h2: ¬ yf L[k]:=λhc=>this hc.1
       simp[h2]
     · have hnp:zD L[k]:=Decidable.byContradiction λhc=>by rw[if_neg hc]at h1;cases h1
       rw[if_pos hnp,Bool.eq_iff_iff]
       simp[yf,hnp]
     · refine ae.of (λh1=>none_end (hnone (by simpa using h1)) (h26.below hb7) hB7) (λh1=>⟨rfl,by simpa using h1⟩)
   · refine aC.of ?_ _
     rintro wj ⟨hwj,hip⟩
     rw[hwj];clear hwj
     have e12:i64.wrap (12+(k:Int))=((12+k:Nat):Int):=by rw[wrap_i64 (by omega) (by omega)];omega
     try dsimp only
     rw[e12,cT,if_pos hip.1,L1 hip,Nat.zero_add]
     refine⟨⟨⟨by omega,by omega⟩,rfl⟩,?_⟩
     have h57:=h56.below hb7
     obtain⟨w8,hs8,h58,hg8⟩:=h57.put (P:=prog) gh (i:=12+k) (v:=.int .u8 (((ipB L[k]).toNat:Nat):Int)) (by rw[bX,Ab hl4 (by omega)];omega) rfl rfl
     rw[qi,IW hl4 hk4]at h58
     refine⟨w8,hs8,4-(k+1),by omega,k+1,by omega,by rw[wrap_i64 (by omega) (by omega)];omega,rfl,?_,h58,(h26.below hb7).grown hg8 (fH (by omega)),(ho6.below hb7).put hog hg8,Below.put hB7 hg8 hk5w⟩
     intro j hj hjl
     by_cases e:j=k
     · subst e;exact hip
     · exact hok j (by omega) hjl
 · have:k=4:=by omega
   subst this
   have hall:∀x∈L,yf x:=λx hx=>by
     obtain⟨j,hj,rfl⟩:=List.mem_iff_getElem.1 hx
     exact hok j (by omega) hj
   have hv:v4V s=some (v4S L 4):=by rw[hv4,if_pos ⟨hl4,hall⟩,Qi hl4]
   have hlen:(adC (v4S L 4)).length=16:=by rw[bX,Ab hl4 (by omega)]
   refine⟨_,bh.load0 h56 hlen,?_⟩
   exact bh.fin (K:=λvr wy=>(.tuple #[vr,.bool true]:Value)=adT (v4V s)/\bW w wy) hlen (cA _) h26 rfl hB6 (by omega) λwy hb=>⟨by rw[hv];rfl,hb⟩
def ua (c:UInt8):Nat:=if 48 <=c.toNat/\c.toNat <=57 then c.toNat-48 else if 97 <=c.toNat/\c.toNat <=102 then c.toNat-87 else if 65 <=c.toNat/\c.toNat <=70 then c.toNat-55 else 16
def oX (c:UInt8):Bool:=decide (ua c<16)
def kO (s:List UInt8):Nat:=s.foldl (λn c=>n*16+ua c) 0
def co (s:List UInt8):Bool:=decide (1 <=s.length)&&decide (s.length <=4)&&s.all oX
def ce (s:List UInt8):List (List UInt8):=if s=[]then[]else bS 58 [] s
def at2 (s:List UInt8)(i:Nat):Prop:=s[i]? =some 58/\s[i+1]? =some 58
def e8 (s:List UInt8):Bool:=decide ((bS 58 [] s).length=8)&&(bS 58 [] s).all co
def v6L (A B:List (List UInt8)):List Nat:=A.map kO++List.replicate (8-A.length-B.length) 0++B.map kO
def Gq (gap:Bool)(A B:List (List UInt8)):Bool:=A.all co&&B.all co&&(if gap then decide (A.length+B.length<8)else decide (A.length+B.length=8))
def v6V (s:List UInt8):Option (List Nat):=
 if Gq (Lib.cut s [58,58]).2.2 (ce (Lib.cut s [58,58]).1) (ce (Lib.cut s [58,58]).2.1)=true then some (v6L (ce (Lib.cut s [58,58]).1) (ce (Lib.cut s [58,58]).2.1))else none
theorem Ri (s:List UInt8)(i:Nat):Lib.occAt s [58,58] i=true ↔ at2 s i:=by
 unfold Lib.occAt at2
 have e0:s[i]? =(s.drop i)[0]? :=by rw[List.getElem?_drop];rfl
 have e1:s[i+1]? =(s.drop i)[1]? :=by rw[List.getElem?_drop]
 rw[e0,e1]
 generalize s.drop i=d
 match d with
 | []=>simp
 | [a]=>simp
 | a::b::r=>
   simp only[List.isPrefixOf,Bool.and_true,Bool.and_eq_true,beq_iff_eq,List.getElem?_cons_zero,List.getElem?_cons_succ,Option.some.injEq]
   exact⟨λh=>⟨h.1.symm,h.2.symm⟩,λh=>⟨h.1.symm,h.2.symm⟩⟩
theorem nO (s:List UInt8):(Lib.cut s [58,58]=(s,[],false)/\∀i,¬ at2 s i)\/∃p,Lib.cut s [58,58]=(s.take p,s.drop (p+2),true)/\at2 s p/\(∀j,j<p-> ¬ at2 s j)/\p+2 <=s.length:=by
 rcases Lib.index_spec s [58,58]with⟨h1,h2⟩|⟨p,h1,h2,h3,h4⟩
 · refine .inl ⟨?_,λi hi=>?_⟩
   · unfold Lib.cut;rw[if_neg (by omega)]
   · by_cases hl:i <=s.length
     · have:=h2 i hl
       rw[(Ri s i).2 hi]at this;cases this
     · have:=hi.1
       rw[List.getElem?_eq_none (by omega)]at this;cases this
 · refine .inr ⟨p,?_,(Ri s p).1 h3,λj hj hc=>?_,?_⟩
   · unfold Lib.cut;rw[if_pos (by omega),h1];rfl
   · have:=h4 j hj
     rw[(Ri s j).2 hc]at this;cases this
   · have:=((Ri s p).1 h3).2
     have h5:=(List.getElem?_eq_some_iff.1 this).1
     omega
theorem Rc {s:List UInt8}{g:List Nat}(h:v6V s=some g):g.length=8:=by
 unfold v6V at h
 split at h
 · rename_i hf
   rw[<- Option.some.inj h]
   unfold v6L
   unfold Gq at hf
   rw[Bool.and_eq_true]at hf
   have:(ce (Lib.cut s [58,58]).1).length+(ce (Lib.cut s [58,58]).2.1).length <=8:=by
     have:=hf.2
     split at this
     · have:=of_decide_eq_true this;omega
     · have:=of_decide_eq_true this;omega
   simp;omega
 · cases h
theorem xY:∀(s:List UInt8) (n:Nat),s.all oX=true->s.foldl (λn c=>n*16+ua c) n<(n+1)*16 ^ s.length
 | [],n,_=>by simp
 | c::s,n,h=>by
   rw[List.all_cons,Bool.and_eq_true]at h
   have hc:ua c<16:=by simpa[oX]using h.1
   have:=xY s (n*16+ua c) h.2
   rw[List.foldl_cons,List.length_cons,Nat.pow_succ]
   refine Nat.lt_of_lt_of_le this ?_
   rw[Nat.mul_comm (16 ^ s.length) 16,<- Nat.mul_assoc]
   exact Nat.mul_le_mul_right _ (by omega)
theorem Oo {s:List UInt8}(h:co s=true):kO s<65536:=by
 unfold co at h
 simp only[Bool.and_eq_true,dTx]at h
 have:=xY s 0 h.2
 have h2:16 ^ s.length <=16 ^ 4:=Nat.pow_le_pow_right (by decide) h.1.2
 unfold kO
 have h3:(16:Nat) ^ 4=65536:=rfl
 omega
def lE (l:List Nat):List UInt8:=l.flatMap λn=>[UInt8.ofNat (n/256),UInt8.ofNat (n%256)]
theorem q9:∀l:List Nat,(lE l).length=2*l.length
 | []=>rfl
 | n::l=>by
   have:=q9 l
   unfold lE at this ⊢
   rw[List.flatMap_cons,List.length_append,this];simp;omega
theorem LG (a b:List Nat):lE (a++b)=lE a++lE b:=by unfold lE;rw[List.flatMap_append]
def Iq (gs:List Nat)(k:Nat):List UInt8:=lE (gs.take k)++List.replicate (16-2*k) 0
theorem vf {gs:List Nat}(h:gs.length=8){k:Nat}(hk:k <=8):(Iq gs k).length=16:=by
 unfold Iq;rw[List.length_append,q9,List.length_take,List.length_replicate];omega
theorem Fw {gs:List Nat}(h:gs.length=8){k:Nat}(hk:k<8):((Iq gs k).set (2*k) (UInt8.ofNat ((gs[k]'(by omega))/256))).set (2*k+1) (UInt8.ofNat ((gs[k]'(by omega))%256))=Iq gs (k+1):=by
 unfold Iq
 have hl:(lE (gs.take k)).length=2*k:=by rw[q9,List.length_take];omega
 rw[show 16-2*k=(16-2*(k+1))+1+1 by omega,List.replicate_succ (n:=16-2*(k+1)+1),List.replicate_succ (n:=16-2*(k+1))]
 rw[List.set_append_right _ _ (by omega),hl,Nat.sub_self,List.set_cons_zero,List.set_append_right _ _ (by omega),hl,show 2*k+1-2*k=0+1 by omega,List.set_cons_succ,List.set_cons_zero,
   List.take_succ_eq_append_getElem (by omega),LG]
 simp[lE]
theorem LF {gs:List Nat}(h:gs.length=8):Iq gs 8=lE gs:=by unfold Iq;rw[List.take_of_length_le (by omega)];simp
theorem Fx (x:List UInt8){j:Nat}(h:j<x.length):kO (x.take (j+1))=kO (x.take j)*16+ua x[j]:=by
 unfold kO;rw[List.take_succ_eq_append_getElem h,List.foldl_append];rfl
theorem xd {x:List UInt8}{j:Nat}(h:∀i (hi:i<j) (h:i<x.length),oX x[i]=true)(hj:j <=4):kO (x.take j)<65536:=by
 have ha:(x.take j).all oX=true:=List.all_eq_true.2 λc hc=>by
   obtain⟨i,hi,rfl⟩:=List.mem_iff_getElem.1 hc
   rw[List.length_take]at hi
   rw[List.getElem_take]
   exact h i (by omega) (by omega)
 have h1:=xY (x.take j) 0 ha
 have h2:16 ^ (x.take j).length <=16 ^ 4:=Nat.pow_le_pow_right (by decide) (by rw[List.length_take];omega)
 have h3:(16:Nat) ^ 4=65536:=rfl
 unfold kO;omega
theorem Av {n:Nat}(h:n<256):((UInt8.ofNat n).toNat:Int)=(n:Int):=by rw[UInt8.toNat_ofNat'];omega
def v6A (s:List UInt8):Option (List UInt8):=(v6V s).map lE
def Qz (o:Option (List UInt8)):Prop:=∀a,o=some a->a.length=16
theorem vL (o:Option (List UInt8)):adT o=.tuple #[adV (o.getD ad0),.bool o.isSome]:=by cases o <;> rfl
theorem pT {o:Option (List UInt8)}(h:Qz o):(adC (o.getD ad0)).length=16:=by
 rw[bX]
 cases o with
 | none=>rfl
 | some a=>exact h a rfl
theorem IX (s:List UInt8):Qz (v6A s):=λa h=>by
 unfold v6A at h
 cases hv:v6V s with
 | none=>rw[hv]at h;cases h
 | some g=>
   rw[hv]at h
   rw[<- Option.some.inj h,q9,Rc hv]
theorem N7 (s:List UInt8):Qz (v4V s):=λa h=>by
 unfold v4V at h
 split at h
 · rename_i h4
   rw[<- Option.some.inj h];simp;omega
 · cases h
def Qe:Ty Int:=Rm .u16 λ_=>True
theorem NK:Flat Qe:=λ_ _ _ _ _ _ h=>h
def i16 (l:List Int):List Value:=l.map λn=>Value.int .u16 n
theorem P7 {w:World}{A:Bl}{n:Int} :Qe.rep w A [.int .u16 n] n:=⟨rfl,trivial⟩
theorem ME:∀n,n<256->Lib.indexByte [48,49,50,51,52,53,54,55,56,57,97,98,99,100,101,102] (Gs (UInt8.ofNat n))=if ua (UInt8.ofNat n)<16 then(ua (UInt8.ofNat n):Int)else -1:=by decide+kernel
theorem MF (c:UInt8):Lib.indexByte [48,49,50,51,52,53,54,55,56,57,97,98,99,100,101,102] (Gs c)=if ua c<16 then(ua c:Int)else -1:=by
 have:=ME c.toNat (by have:=c.toNat_lt;omega)
 rwa [UInt8.ofNat_toNat]at this
theorem Sc {a d:Nat}(ha:a<4096)(hd:d<16):IntKind.u16.wrap (((BitVec.ofInt (IntKind.bits .u16) (IntKind.u16.wrap ((a:Int)*2 ^ (min (Int.toNat (4:Int)) (IntKind.bits .u16))))) ||| (BitVec.ofInt (IntKind.bits .u16) (IntKind.u16.wrap (d:Int)))).toNat:Nat)=((a*16+d:Nat):Int):=by
 have e1:(2:Int) ^ (min (Int.toNat (4:Int)) (IntKind.bits .u16))=16:=by decide
 have w16:∀n:Nat,n<65536->IntKind.u16.wrap (n:Int)=(n:Int):=λn hn=>by
   have:IntKind.u16.wrap (n:Int)=(n:Int)%65536:=rfl
   rw[this];omega
 have e2:(a:Int)*16=((a*16:Nat):Int):=by omega
 have b16:∀n:Nat,n<65536->(BitVec.ofInt (IntKind.bits .u16) (n:Int)).toNat=n:=λn hn=>by
   show(BitVec.ofInt 16 (n:Int)).toNat=n
   rw[BitVec.toNat_ofInt]
   have:((n:Int)%((2 ^ 16:Nat):Int)).toNat=n:=by
     have h:((2 ^ 16:Nat):Int)=65536:=by decide
     rw[h];omega
   exact this
 rw[e1,e2,w16 (a*16) (by omega),w16 d (by omega),BitVec.toNat_or,b16 (a*16) (by omega),b16 d (by omega)]
 have h3:a*16 ||| d=a*16+d:=by
   have:=Nat.two_pow_add_eq_or_of_lt (i:=4) hd a
   rw[Nat.mul_comm a 16];exact this.symm
 rw[h3,w16 _ (by omega)]
def EL (s:List UInt8):List Int:=(ce s).map λx=>(kO x:Int)
theorem Fb (s:List UInt8)(hs:s.length <=9223372036854775800)(w:World):Cf tH #[vS s] w
   (Ret λv w'=>v=(if co s=true then .tuple #[.int .u16 (kO s:Int),.bool true]else .tuple #[.int .u16 0,.bool false])/\bW w w'):=by
 apply DU
 have bad:∀{wx:World},co s=false->bW w wx->(.tuple #[.int .u16 0,.bool false]:Value)=(if co s=true then .tuple #[.int .u16 (kO s:Int),.bool true]else .tuple #[.int .u16 0,.bool false])/\bW w wx:=λhg hb=>⟨by rw[hg];rfl,hb⟩
 refine vt (w:=w) (1 <=s.length/\s.length <=4) ?_ (λhl=>?_)
 · refine ae.of (λh=>bad ?_ (Below.refl _ _)) (λh=>ae.of (λh2=>bad ?_ (Below.refl _ _)) (λh2=>⟨rfl,?_⟩))
   · unfold co;rw[decide_eq_false (by simp only[dTx]at h;omega),Bool.false_and,Bool.false_and]
   · unfold co;rw[decide_eq_false (p:=s.length <=4) (by simp only[dTx]at h2;omega),Bool.and_false,Bool.false_and]
   · simp only[dFx]at h h2
     exact⟨by omega,by omega⟩
 refine ax (vU s hs w) ?_
 rintro _ w1 ⟨rfl,hb1⟩
 refine⟨_,rfl,?_⟩
 have ll:(ir s).length=s.length:=by simp[ir]
 obtain⟨w2,a,n,c,hr,ho,hb2,hf⟩:=uX (P:=prog) aA bZ bP w1 (ir s) (by omega) NoB
 have hB2:=ab hb1 hb2 hb1.size
 have hnn:=ho.len
 subst hnn
 refine⟨w2,a,_,c,hr,?_⟩
 refine⟨λm v i w'=>∃j:Nat,j <=s.length/\i=(j:Int)/\m=s.length-j/\v=((kO (s.take j):Nat):Int)/\(∀q (hq:q<j) (h:q<s.length),oX s[q]=true)/\w'=w2,⟨_,0,by omega,rfl,rfl,rfl,λq hq=>by omega,rfl⟩,?_⟩
 intro m v i
 refine aC.of ?_ _
 rintro w' ⟨j,hj,rfl,rfl,rfl,hx,hw'⟩
 rw[hw'];clear hw'
 rw[ll]
 refine ae.of (λh=>?_) (λh=>?_) <;> simp only[dTx,dFx]at h
 · have hlt:j<s.length:=by omega
   have hgl:=xd hx (by omega)
   have hlt':j<(ir s).length:=by omega
   obtain⟨v,hv,hrep⟩:=ho.all.load1 (i:=(j:Int)) bP rfl rfl (by simpa using hlt')
   have:=Aw hrep
   subst this
   simp only[Int.toNat_natCast]at hv
   have elow:(ir s)[j]=Gs s[j]:=by simp[ir]
   rw[elow]at hv
   refine⟨⟨⟨by omega,h⟩,ho.all.isSome hlt'⟩,_,hv,?_⟩
   refine(Tryz.strings_IndexByte (mkS [48,49,50,51,52,53,54,55,56,57,97,98,99,100,101,102]) _ w2).mono ?_
   rintro _ w3 ⟨rfl,hw3⟩
   rw[hw3];clear hw3
   have e5:Lib.indexByte (mkS [48,49,50,51,52,53,54,55,56,57,97,98,99,100,101,102]).data.toList (Int.toNat (((Gs s[j]).toNat:Nat):Int)).toUInt8=if ua s[j]<16 then(ua s[j]:Int)else -1:=by
     rw[Int.toNat_natCast,show(Gs s[j]).toNat.toUInt8=Gs s[j] from UInt8.ofNat_toNat]
     exact MF s[j]
   rw[e5]
   refine⟨_,rfl,?_⟩
   by_cases hh:ua s[j]<16
   · rw[if_pos hh]
     have hhx:oX s[j]=true:=by simpa[oX]using hh
     have h4096:kO (s.take j)<4096:=by
       have ha:(s.take j).all oX=true:=List.all_eq_true.2 λc hc=>by
         obtain⟨i,hi,rfl⟩:=List.mem_iff_getElem.1 hc
         rw[List.length_take]at hi
         rw[List.getElem_take]
         exact hx i (by omega) (by omega)
       have h1:=xY (s.take j) 0 ha
       have h2:16 ^ (s.take j).length <=16 ^ 3:=Nat.pow_le_pow_right (by decide) (by rw[List.length_take];omega)
       have h3:(16:Nat) ^ 3=4096:=rfl
       unfold kO;omega
     refine ae.no (by simp) ⟨by decide,s.length-(j+1),by omega,j+1,by omega,by rw[wrap_i64 (by omega) (by omega)];omega,rfl,?_,λq hq hql=>?_,rfl⟩
     · rw[Sc h4096 hh,Fx _ hlt]
     · by_cases e:q=j
       · subst e;exact hhx
       · exact hx q (by omega) hql
   · rw[if_neg hh]
     refine ae.yes (by decide) (bad ?_ hB2)
     unfold co
     have:s.all oX=false:=by
       rw[Bool.eq_false_iff]
       intro hc
       have:=List.all_eq_true.1 hc _ (List.getElem_mem hlt)
       exact hh (by simpa[oX]using this)
     rw[this,Bool.and_false]
 · have:j=s.length:=by omega
   subst this
   have hg:co s=true:=by
     unfold co
     rw[decide_eq_true hl.1,decide_eq_true hl.2,Bool.true_and,Bool.true_and]
     exact List.all_eq_true.2 λc hc=>by
       obtain⟨q,hq,rfl⟩:=List.mem_iff_getElem.1 hc
       exact hx q hq hq
   rw[List.take_length,if_pos hg]
   exact⟨rfl,hB2⟩
def KU (s:List UInt8)(w:World)(v:Value)(w':World):Prop:=
 ∃(a:Option Addr) (n c:Nat),v=.tuple #[.slice a n c,.bool ((ce s).all co)]/\((ce s).all co=true->Ow Qe gQ w' NoB a n c (EL s)/\bI w.heap.size a/\(EL s=[]->a=none/\n=0/\c=0))/\((ce s).all co=false->n=0)/\bW w w'
theorem BJ (s:List UInt8)(hs:s.length<4294967281)(w:World)(he:Env w):Cf vc #[vS s] w (Ret (KU s w)):=by
 apply Hl
 refine ae.of (λh=>?_) (λh=>?_)
 · have h0:s=[]:=by simpa using h
   subst h0
   exact⟨none,0,0,rfl,λ_=>⟨Ow.nil _ _ _ _,bI.none _,λ_=>⟨rfl,rfl,rfl⟩⟩,λ_=>rfl,Below.refl _ _⟩
 have hne:s≠[]:=by simpa using h
 have hrow:ce s=bS 58 [] s:=by unfold ce;rw[if_neg hne]
 have hI:EL s=(bS 58 [] s).map λx=>(kO x:Int):=by unfold EL;rw[hrow]
 unfold KU
 rw[hrow,hI]
 refine ax (mA s 58 hs w he) ?_
 rintro _ w3 ⟨a,n,c,rfl,ho,hf,hb3⟩
 have hn:=ho.len
 have hlens:∀x∈bS 58 [] s,x.length <=s.length:=λx hx=>by simpa using kH 58 s [] x hx
 have hcn:=kn 58 s []
 have hnz:=mW 58 s []
 refine⟨_,_,_,rfl,?_⟩
 generalize bS 58 [] s=L at*
 refine⟨λm a4 l4 c4 i w'=>∃k:Nat,k <=L.length/\i=(k:Int)/\m=L.length-k/\(∀j (hj:j<k) (h:j<L.length),co L[j]=true)/\Ow Qe gQ w' NoB a4 l4 c4 ((L.take k).map λx=>(kO x:Int))/\bI w3.heap.size a4/\bW w3 w',
   ⟨_,0,by omega,rfl,rfl,λj hj=>by omega,Ow.nil _ _ _ _,bI.none _,Below.refl _ _⟩,?_⟩
 intro m a4 l4 c4 i
 refine aC.of ?_ _
 rintro w6 ⟨k,hk,rfl,rfl,hok,ho4,hf4,hB6⟩
 have ho6:=ho.below hB6
 refine ae.of (λh=>?_) (λh=>?_) <;> simp only[dTx,dFx]at h
 · have hkL:k<L.length:=by omega
   have hlk:=hlens L[k] (List.getElem_mem hkL)
   refine⟨⟨⟨by omega,h⟩,ho6.all.isSome (by omega)⟩,_,ho6.all.text aA hkL,?_⟩
   refine ax (Fb L[k] (by omega) w6) ?_
   rintro _ w7 ⟨rfl,hb7⟩
   have hB7:=ab hB6 hb7 hB6.size
   by_cases hg:co L[k]=true
   · rw[if_pos hg]
     refine⟨_,_,rfl,ae.no rfl ?_⟩
     intro k1 w8 hk1 hw8
     have ho47:=ho4.below hb7
     obtain⟨w9,a9,n9,c9,hr,ho9,hf9,hb9⟩:=FW (ty:=eW) (w0:=w3) (cm:=1) (vs:=[_]) NK uA HC (by decide) ho47 hf4 hB7 hk1 hw8 (P7) (by simp;omega)
     refine⟨w9,a9,n9,c9,hr,L.length-(k+1),by omega,k+1,by omega,by rw[wrap_i64 (by omega) (by omega)];omega,rfl,λj hj hjl=>?_,?_,hf9,hb9⟩
     · by_cases e:j=k
       · subst e;exact hg
       · exact hok j (by omega) hjl
     · rw[List.take_succ_eq_append_getElem hkL,List.map_append];exact ho9
   · rw[if_neg hg]
     refine⟨_,_,rfl,ae.yes rfl ?_⟩
     have hall:L.all co=false:=by
       rw[Bool.eq_false_iff]
       intro hc
       exact hg (List.all_eq_true.1 hc _ (List.getElem_mem hkL))
     rw[hall]
     exact⟨none,0,0,rfl,(λh=>by cases h),(λ_=>rfl),ab hb3 hB7 hb3.size⟩
 · have:k=L.length:=by omega
   subst this
   have hall:L.all co=true:=List.all_eq_true.2 λx hx=>by
     obtain⟨j,hj,rfl⟩:=List.mem_iff_getElem.1 hx
     exact hok j (by omega) hj
   rw[List.take_length]at ho4
   rw[hall]
   refine⟨a4,l4,c4,rfl,(λ_=>⟨ho4,hf4.mono hb3.size,λh0=>?_⟩),(λh=>by cases h),ab hb3 hB6 hb3.size⟩
   exact absurd (List.map_eq_nil_iff.1 h0) hnz
theorem LU (l:List Int):DE (i16 l):=λc hc=>by
 obtain⟨x,_,rfl⟩:=List.mem_map.1 hc;rfl
theorem Kg (w:World)(k:Nat):w.grownBy w (some k):=⟨rfl,rfl,rfl,Nat.le_refl _,λ_ _ _=>rfl⟩
theorem Je {P:Program}{dT sT ty elem:TypeId}(hu:P.underlying dT=some (.slice elem))(hs:(P.info? elem).map (·.size)=some 1){w:World}{k:Nat}{T:TypeId}{vs:List Value}(h:am w k T vs)
   {a:Option Addr} {n c:Nat} {xs:List Int} (ho:Ow Qe elem w NoB a n c xs) (hnil:xs=[]->a=none/\n=0/\c=0) {o dLen dCap:Nat} {A:Addr} (hA:xs≠[]->A=⟨k,o,none⟩) (hd:xs.length <=dLen) (hfit:o+xs.length <=vs.length):
   ∃w',(Builtin.copy_ #[dT,sT] ty #[.slice (some A) dLen dCap,.slice a n c]).run P w=.ok (vI ((xs.length:Nat):Int)) w'/\am w' k T (vs.take o++i16 xs++vs.drop (o+xs.length))/\w.grownBy w' (some k):=by
 by_cases hx:xs=[]
 · obtain⟨rfl,rfl,rfl⟩:=hnil hx
   subst hx
   refine⟨w,run_copy_nil P w dT sT ty elem A dLen dCap hu (by rw[hs];rfl),?_,Kg w k⟩
   simpa[i16]using h
 · have hn:=ho.len
   obtain⟨h1,h2,h3,h4⟩:=ho.all
   obtain⟨b,off,rfl,hb,-,l,hr,hcells⟩:=h4.resolve_left hx
   have hl:l=i16 xs:=gP (h1:=λ_=>rfl) hr
   subst hl
   rw[hA hx]
   have hln:(i16 xs).length=xs.length:=by simp[i16]
   have hsrc:∀(j:Nat) (v:Value),(i16 xs)[j]? =some v->w.cell? ((⟨b,off,none⟩:Addr).add j)=some v:=by
     intro j v hj
     have hjl:j<(i16 xs).length:=(List.getElem?_eq_some_iff.1 hj).1
     have e:(⟨b,off,none⟩:Addr).add j=⟨b,off+j,none⟩:=by unfold Addr.add;split <;> simp_all
     rw[e,hcells j hjl,hj]
   have hmin:(i16 xs).length=Nat.min n dLen:=by rw[hln,hn];exact(Nat.min_eq_left (by omega)).symm
   have hrun:=run_copy_row P w dT sT ty elem k o dLen dCap ⟨b,off,none⟩ n c vs.toArray T (i16 xs) hu hs h hmin hsrc (by rw[hln];simpa using hfit) (LU xs)
   rw[hln]at hrun
   have hh:=setRow_heap w k vs.toArray (vs.take o++i16 xs++vs.drop (o+xs.length)).toArray T (0,0) h
   exact⟨_,hrun,hh,gK w k _⟩
theorem IU {n:Nat} :IntKind.u8.wrap (n:Int)=(((UInt8.ofNat (n%256)).toNat:Nat):Int):=by
 have e:IntKind.u8.wrap (n:Int)=(n:Int)%256:=rfl
 try dsimp only
 rw[e,Av (by omega)];omega
theorem RR {n:Nat}(h:n<65536):IntKind.u8.wrap (Int.fdiv (n:Int) (2 ^ (min (Int.toNat (8:Int)) (IntKind.bits .u16))))=(((UInt8.ofNat (n/256)).toNat:Nat):Int):=by
 have e1:(2:Int) ^ (min (Int.toNat (8:Int)) (IntKind.bits .u16))=256:=by decide
 have e2:Int.fdiv (n:Int) 256=((n/256:Nat):Int):=by rw[Int.fdiv_eq_ediv_of_nonneg _ (by decide)];omega
 rw[e1,e2,wrap_u8 (by omega) (by omega),Av (by omega)]
theorem GB (g0 g1 g2 g3 g4 g5 g6 g7:Nat)(hb:∀g∈[g0,g1,g2,g3,g4,g5,g6,g7],g<65536)(w:World):
   Cf wZ #[.agg #[.int .u16 (g0:Int),.int .u16 (g1:Int),.int .u16 (g2:Int),.int .u16 (g3:Int),.int .u16 (g4:Int),.int .u16 (g5:Int),.int .u16 (g6:Int),.int .u16 (g7:Int)]] w
     (Ret λv w'=>v=adV (lE [g0,g1,g2,g3,g4,g5,g6,g7])/\bW w w'):=by
 apply F1
 intro k1 w1 hk1 hw1
 have hB1:=(hw1▸ah w _:bW w w1)
 have h11:am w1 k1 aS (i16 ([g0,g1,g2,g3,g4,g5,g6,g7].map λg:Nat=>(g:Int))):=am.new hk1 hw1
 obtain⟨G,hG⟩:∃G,G=[g0,g1,g2,g3,g4,g5,g6,g7]:=⟨_,rfl⟩
 have hl8:G.length=8:=by rw[hG];rfl
 rw[<- hG]at h11 hb ⊢
 clear hG
 intro k2 w2 hk2 hw2
 have hb2:=(hw2▸ah w1 _:bW w1 w2)
 have hB2:=ab hB1 hb2 hB1.size
 have h22:am w2 k2 ak (adC ad0):=am.new hk2 hw2
 intro k3 w3 hk3 hw3
 have hb3:=(hw3▸ah w2 _:bW w2 w3)
 have hB3:=ab hB2 hb3 hB2.size
 have h33:am w3 k3 ak (adC ad0):=am.new hk3 hw3
 have h23:=h22.below hb3
 have h13:=(h11.below hb2).below hb3
 have l1:=h11.lt
 have l2:=h22.lt
 have hk3w:w.heap.size <=k3:=by have:=hB2.size;omega
 refine⟨λm i w'=>∃k:Nat,k <=8/\i=(k:Int)/\m=8-k/\am w' k3 ak (adC (Iq G k))/\am w' k2 ak (adC ad0)/\am w' k1 aS (i16 (G.map λg:Nat=>(g:Int)))/\bW w w',
   ⟨_,0,by omega,rfl,rfl,h33,h23,h13,hB3⟩,?_⟩
 intro m i
 refine aC.of ?_ _
 rintro w6 ⟨k,hk,rfl,rfl,h36,h26,h16,hB6⟩
 refine ae.of (λh=>?_) (λh=>?_) <;> simp only[dTx,dFx]at h
 · have hk8:k<8:=by omega
   have hgk:=hb G[k] (List.getElem_mem (by omega))
   have e1:i64.wrap (2*(k:Int))=((2*k:Nat):Int):=by rw[wrap_i64 (by omega) (by omega)];omega
   have e2:i64.wrap (((2*k:Nat):Int)+1)=((2*k+1:Nat):Int):=by rw[wrap_i64 (by omega) (by omega)];omega
   rw[e1,e2,cT,cT,cT]
   simp only[Nat.zero_add]
   have hin:(0 <=(k:Int)/\(k:Int)<((8:Nat):Int))/\True:=⟨⟨by omega,by omega⟩,trivial⟩
   have hin1:(0 <=((2*k:Nat):Int)/\((2*k:Nat):Int)<((16:Nat):Int))/\True:=⟨⟨by omega,by omega⟩,trivial⟩
   have hin2:(0 <=((2*k+1:Nat):Int)/\((2*k+1:Nat):Int)<((16:Nat):Int))/\True:=⟨⟨by omega,by omega⟩,trivial⟩
   have hd:bW w (World.drew w6):=ab hB6 (ve rfl rfl rfl (Nat.le_refl _) (λ_ _=>rfl)) hB6.size
   have d3:am (World.drew w6) k3 ak (adC (Iq G k)):=h36
   have d2:am (World.drew w6) k2 ak (adC ad0):=h26
   have d1:am (World.drew w6) k1 aS (i16 (G.map λg:Nat=>(g:Int))):=h16
   have hget:(i16 (G.map λg:Nat=>(g:Int)))[k]? =some (.int .u16 ((G[k]'(by omega):Nat):Int)):=by
     unfold i16
     rw[List.getElem?_map,List.getElem?_map,List.getElem?_eq_getElem (by omega)];rfl
   have ld:∀{wx:World},am wx k1 aS (i16 (G.map λg:Nat=>(g:Int)))->(Instr.loadAt gQ (.pointer (some ⟨k1,k,none⟩))).run prog wx=.ok (.int .u16 ((G[k]'(by omega):Nat):Int)) wx:=λhx=>hx.load1 Dq rfl hget
   have hlen:=vf hl8 hk
   obtain⟨w8,hs8,h58,hg8⟩:=d3.put (P:=prog) gh (i:=2*k) (v:=.int .u8 (((UInt8.ofNat (G[k]/256)).toNat:Nat):Int)) (by rw[bX,hlen];omega) rfl rfl
   rw[qi]at h58
   have d18:=d1.grown hg8 (fH (by omega))
   obtain⟨w9,hs9,h59,hg9⟩:=h58.put (P:=prog) gh (i:=2*k+1) (v:=.int .u8 (((UInt8.ofNat (G[k]%256)).toNat:Nat):Int)) (by rw[bX,List.length_set,hlen];omega) rfl rfl
   rw[qi,Fw hl8 hk8]at h59
   have hfin:∃m':Nat,m'<8-k/\∃k':Nat,k' <=8/\i64.wrap ((k:Int)+1)=(k':Int)/\m'=8-k'/\am w9 k3 ak (adC (Iq G k'))/\am w9 k2 ak (adC ad0)/\am w9 k1 aS (i16 (G.map λg:Nat=>(g:Int)))/\bW w w9:=
     ⟨8-(k+1),by omega,k+1,by omega,by rw[wrap_i64 (by omega) (by omega)];omega,rfl,h59,(d2.grown hg8 (fH (by omega))).grown hg9 (fH (by omega)),d18.grown hg9 (fH (by omega)),Below.put (Below.put hd hg8 hk3w) hg9 hk3w⟩
   rw[<- RR hgk]at hs8
   rw[<- IU]at hs9
   refine⟨hin,hin,⟨_,ld d1,by decide,hin1,⟨_,ld d1,w8,hs8,hin2,w9,hs9,hfin⟩,w8,hs8,_,ld d18,hin2,w9,hs9,hfin⟩,_,ld d1,_,ld d1,by decide,hin1,w8,hs8,hin2,w9,hs9,hfin⟩
 · have:k=8:=by omega
   subst this
   have hlen:(adC (Iq G 8)).length=16:=by rw[bX,vf hl8 (by omega)]
   refine⟨_,bh.load0 h36 hlen,?_⟩
   exact bh.fin (K:=λvr wy=>vr=adV (lE G)/\bW w wy) hlen (cA _) h26 rfl hB6 (by omega) λwy hb=>⟨by rw[LF hl8];rfl,hb⟩
theorem Ae:Whl prog aS 8:=⟨⟨_,_,Ef⟩,by kernel_rfl⟩
theorem JW (s:List UInt8)(hs:s.length<4294967281)(w:World)(he:Env w):Cf Cl #[vS s] w (Ret λv w'=>v=adT (v6A s)/\bW w w'):=by
 apply IF
 intro k2 w2 hk2 hw2
 have hB2:=(hw2▸ah w _:bW w w2)
 have h2:am w2 k2 ak (adC ad0):=am.new hk2 hw2
 obtain⟨m,hm⟩:=(he.step hB2).max
 refine(Tryz.strings_Cut (mkS s) (mkS [58,58]) m w2 hs hm).mono ?_
 rintro _ w3 ⟨rfl,q,rfl⟩
 have hb3:bW w2 (w2.drewN q):=ve rfl rfl rfl (Nat.le_refl _) (λ_ _=>rfl)
 have hB3:=ab hB2 hb3 hB2.size
 have h23:=h2.below hb3
 have hlen:(Lib.cut s [58,58]).1.length <=s.length/\(Lib.cut s [58,58]).2.1.length <=s.length:=by
   rcases nO s with⟨h1,-⟩|⟨p,h1,-⟩ <;> rw[h1]
   · exact⟨Nat.le_refl _,Nat.zero_le _⟩
   · exact⟨by rw[List.length_take];omega,by rw[List.length_drop];omega⟩
 have hv6:v6A s=(if Gq (Lib.cut s [58,58]).2.2 (ce (Lib.cut s [58,58]).1) (ce (Lib.cut s [58,58]).2.1)=true then some (v6L (ce (Lib.cut s [58,58]).1) (ce (Lib.cut s [58,58]).2.1))else none).map lE:=rfl
 show ∃(s15_0:List UInt8) (s15_1:List UInt8) (b15_2:Bool),(Ending.returned (.tuple #[.string (mkS (Lib.cut s [58,58]).1),.string (mkS (Lib.cut s [58,58]).2.1),.bool (Lib.cut s [58,58]).2.2]):Ending)=.returned (.tuple #[vS s15_0,vS s15_1,.bool b15_2])/\_
 generalize Lib.cut s [58,58]=C at*
 obtain⟨f,b,g⟩:=C
 refine⟨f,b,g,rfl,?_⟩
 have hlf:f.length <=s.length:=hlen.1
 have hlb:b.length <=s.length:=hlen.2
 have hv:v6A s=(if Gq g (ce f) (ce b)=true then some (v6L (ce f) (ce b))else none).map lE:=hv6
 clear hv6 hlen
 refine ax (BJ f (by omega) _ (he.step hB3)) ?_
 rintro _ w4 ⟨a4,n4,c4,rfl,hok4,hno4,hb4⟩
 have hB4:=ab hB3 hb4 hB3.size
 refine⟨_,_,_,_,rfl,?_⟩
 refine ax (BJ b (by omega) w4 (he.step hB4)) ?_
 rintro _ w5 ⟨a5,n5,c5,rfl,hok5,hno5,hb5⟩
 have hB5:=ab hB4 hb5 hB4.size
 have h25:=(h23.below hb4).below hb5
 refine⟨_,_,_,_,rfl,?_⟩
 have hrl:∀t:List UInt8,(ce t).length <=t.length+1:=λt=>by
   unfold ce
   split
   · simp
   · exact kn 58 t []
 have hIl:∀t:List UInt8,(EL t).length=(ce t).length:=λt=>by simp[EL]
 have hrf:=hrl f
 have hrb:=hrl b
 have hn4:(ce f).all co=true->n4=(ce f).length:=λh=>by rw[<- hIl];exact(hok4 h).1.len
 have hn5:(ce b).all co=true->n5=(ce b).length:=λh=>by rw[<- hIl];exact(hok5 h).1.len
 have none_end:∀{wx:World},Gq g (ce f) (ce b)=false->am wx k2 ak (adC ad0)->bW w wx->_:=fun{wx} hf h2x hBx=>bh.fin (K:=λvr wy=>(.tuple #[vr,.bool false]:Value)=adT (v6A s)/\bW w wy) (cs:=adC ad0) rfl (cA _) h2x rfl hBx (by omega) λwy hb=>⟨by rw[hv,hf];rfl,hb⟩
 refine vt (w:=w5) (Gq g (ce f) (ce b)=true) ?_ (λhfit=>?_)
 · refine⟨λx w'=>w'=w5/\x= !(Gq g (ce f) (ce b)),?_,?_⟩
   · refine ae.of (λh1=>⟨rfl,?_⟩) (λh1=>?_)
     · have h1':(ce f).all co=false:=by simpa only[Bool.not_eq_true']using h1
       unfold Gq;rw[h1',Bool.false_and,Bool.false_and];rfl
     have h1':(ce f).all co=true:=by simpa only[Bool.not_eq_false']using h1
     refine ae.of (λh2=>⟨rfl,?_⟩) (λh2=>?_)
     · have h2':(ce b).all co=false:=by simpa only[Bool.not_eq_true']using h2
       unfold Gq;rw[h2',Bool.and_false,Bool.false_and];rfl
     have h2':(ce b).all co=true:=by simpa only[Bool.not_eq_false']using h2
     have ef:Gq g (ce f) (ce b)=if g then decide ((ce f).length+(ce b).length<8)else decide ((ce f).length+(ce b).length=8):=by unfold Gq;rw[h1',h2',Bool.and_self,Bool.true_and]
     rw[ef,hn4 h1',hn5 h2',wrap_i64 (by omega) (by omega)]
     cases g with
     | true=>
       refine ae.yes rfl (ae.of (λh3=>⟨rfl,?_⟩) (λh3=>ae.no rfl ⟨rfl,?_⟩)) <;> simp at h3 ⊢ <;> omega
     | false=>
       refine ae.no rfl (ae.yes rfl ⟨rfl,?_⟩)
       rw[Bool.eq_iff_iff];simp;omega
   · intro x
     refine aC.of ?_ _
     rintro wj ⟨hwj,hx⟩
     rw[hwj,hx];clear hwj hx
     exact ae.of (λh1=>none_end (by simpa only[Bool.not_eq_true']using h1) h25 hB5) (λh1=>⟨rfl,by simpa only[Bool.not_eq_false']using h1⟩)
 · have hf2:=hfit
   unfold Gq at hf2
   rw[Bool.and_eq_true,Bool.and_eq_true]at hf2
   obtain⟨⟨ga,gb⟩,gl⟩:=hf2
   have hl8:(ce f).length+(ce b).length <=8:=by
     split at gl
     · have:=of_decide_eq_true gl;omega
     · have:=of_decide_eq_true gl;omega
   obtain⟨ho4,hf4,hz4⟩:=hok4 ga
   obtain⟨ho5,hf5,hz5⟩:=hok5 gb
   rw[hn5 gb]
   intro k12 w12 hk12 hw12
   have hb12:=(hw12▸ah w5 _:bW w5 w12)
   have hB12:=ab hB5 hb12 hB5.size
   have h12:am w12 k12 aS (i16 [0,0,0,0,0,0,0,0]):=am.new hk12 hw12
   have ho42:=(ho4.below hb5).below hb12
   have ho52:=ho5.below hb12
   have og4:∀g,bK a4=some g->g≠k12:=λg hg e=>by have:=ho4.lt g hg;have:=hb5.size;omega
   have og5:∀g,bK a5=some g->g≠k12:=λg hg e=>by have:=ho5.lt g hg;omega
   have hk12w:w.heap.size <=k12:=by have:=hB5.size;omega
   have l2:=h25.lt
   obtain⟨w6,hr6,h16,hg6⟩:=Je (P:=prog) (sT:=eW) (ty:=aw) (dLen:=8) (dCap:=8) (o:=0) (A:=⟨k12,0,none⟩) uA (by kernel_rfl) h12 ho42 hz4 (λ_=>rfl) (by rw[hIl];omega) (by rw[hIl];simp[i16];omega)
   have e5:Int.toNat (i64.wrap ((8:Int)-(((ce b).length:Nat):Int)))=8-(ce b).length:=by rw[wrap_i64 (by omega) (by omega)];omega
   have e5':i64.wrap ((8:Int)-(((ce b).length:Nat):Int))=((8-(ce b).length:Nat):Int):=by rw[wrap_i64 (by omega) (by omega)];omega
   refine⟨trivial,w6,_,hr6,⟨by rw[e5'];omega,by rw[e5'];omega⟩,?_⟩
   rw[e5]
   have ho56:=ho52.put og5 hg6
   have hlen16:(List.take 0 (i16 [0,0,0,0,0,0,0,0])++i16 (EL f)++List.drop (0+(EL f).length) (i16 [0,0,0,0,0,0,0,0])).length=8:=by
     have:=hIl f
     simp[i16];omega
   obtain⟨w7,hr7,h17,hg7⟩:=Je (P:=prog) (sT:=eW) (ty:=aw) (dLen:=8-(8-(ce b).length)) (dCap:=8-(8-(ce b).length)) (o:=8-(ce b).length) (A:=if 8=8-(ce b).length then⟨k12,0,none⟩ else Addr.add ⟨k12,0,none⟩ ((8-(ce b).length)*1)) uA (by kernel_rfl) h16 ho56 hz5
     (λhne=>by
       have:(ce b).length≠0:=λe=>hne (List.length_eq_zero_iff.1 (by rw[hIl];exact e))
       rw[if_neg (by omega)]
       unfold Addr.add;split <;> simp_all) (by rw[hIl];omega) (by rw[hIl,hlen16];omega)
   rw[hn5 gb]at hr7
   refine⟨w7,_,hr7,?_⟩
   obtain⟨G,hG⟩:∃G,G=v6L (ce f) (ce b):=⟨_,rfl⟩
   have hGl:G.length=8:=by rw[hG];simp[v6L];omega
   have hGb:∀x∈G,x<65536:=λx hx=>by
     rw[hG]at hx
     unfold v6L at hx
     rcases List.mem_append.1 hx with hx|hx
     · rcases List.mem_append.1 hx with hx|hx
       · obtain⟨y,hy,rfl⟩:=List.mem_map.1 hx;exact Oo (List.all_eq_true.1 ga y hy)
       · rw[(List.mem_replicate.1 hx).2];decide
     · obtain⟨y,hy,rfl⟩:=List.mem_map.1 hx;exact Oo (List.all_eq_true.1 gb y hy)
   have hcells:(List.take 0 (i16 [0,0,0,0,0,0,0,0])++i16 (EL f)++List.drop (0+(EL f).length) (i16 [0,0,0,0,0,0,0,0])).take (8-(ce b).length)++i16 (EL b)++(List.take 0 (i16 [0,0,0,0,0,0,0,0])++i16 (EL f)++List.drop (0+(EL f).length) (i16 [0,0,0,0,0,0,0,0])).drop (8-(ce b).length+(EL b).length)=i16 (G.map λx:Nat=>(x:Int)):=by
     have hz:i16 [0,0,0,0,0,0,0,0]=List.replicate 8 (Value.int .u16 0):=rfl
     rw[hz,List.take_zero,List.nil_append,List.drop_replicate,hIl,hIl,Nat.zero_add,hG]
     rw[show 8-(ce b).length+(ce b).length=8 by omega,List.drop_eq_nil_of_le (by simp[i16,EL];omega),List.append_nil]
     rw[List.take_append,List.take_of_length_le (by simp[i16,EL];omega),List.take_replicate]
     have e1:min (8-(ce b).length-(i16 (EL f)).length) (8-(ce f).length)=8-(ce f).length-(ce b).length:=by
       have:(i16 (EL f)).length=(ce f).length:=by simp[i16,EL]
       omega
     rw[e1]
     unfold v6L i16 EL
     simp
     rfl
   rw[hcells]at h17
   have hB7:=Below.put (Below.put hB12 hg6 hk12w) hg7 hk12w
   have h27:=((h25.below hb12).grown hg6 (fH (by omega))).grown hg7 (fH (by omega))
   have hvG:v6A s=some (lE G):=by rw[hv,hfit,hG];rfl
   clear hG hcells hlen16
   match G,hGl,hGb,h17,hvG with
   | [g0,g1,g2,g3,g4,g5,g6,g7],_,hGb,h17,hvG=>
     refine⟨_,_,_,_,_,_,_,_,Ae.load0 h17 rfl,?_⟩
     refine ax (GB g0 g1 g2 g3 g4 g5 g6 g7 hGb w7) ?_
     rintro _ w8 ⟨rfl,hb8⟩
     have hB8:=ab hB7 hb8 hB7.size
     refine⟨_,rfl,?_⟩
     exact bh.fin (K:=λvr wy=>(.tuple #[vr,.bool true]:Value)=adT (v6A s)/\bW w wy) (by rw[bX];exact IX s _ hvG) (cA _) (h27.below hb8) rfl hB8 (by omega) λwy hb=>⟨by rw[hvG];rfl,hb⟩
abbrev DF (n:Nat):List UInt8:=Lib.decDigits n
theorem Jq {n:Nat} :Lib.itoa (n:Int)=DF n:=by unfold Lib.itoa;rw[if_neg (by omega)];rfl
theorem j4 {n:Nat}(h:n <=9223372036854775807):(DF n).length <=21:=by rw[<- Jq];exact Lib.itoa_length_le n (by omega) (by omega)
def As (a:List UInt8):List UInt8:=Lib.join ((a.drop 12).map λc=>DF c.toNat) [46]
theorem QM {a:List UInt8}(h:a.length=16):a.drop 12=[a[12]'(by omega),a[13]'(by omega),a[14]'(by omega),a[15]'(by omega)]:=by
 rw[List.drop_eq_getElem_cons (by omega),List.drop_eq_getElem_cons (by omega),List.drop_eq_getElem_cons (by omega),List.drop_eq_getElem_cons (by omega),List.drop_eq_nil_of_le (by omega)]
theorem xC {a:List UInt8}(h:a.length=16):As a=DF (a[12]'(by omega)).toNat++([46]:List UInt8)++DF (a[13]'(by omega)).toNat++([46]:List UInt8)++DF (a[14]'(by omega)).toNat++([46]:List UInt8)++DF (a[15]'(by omega)).toNat:=by
 unfold As
 rw[QM h]
 simp[Lib.join_cons,Lib.joinTail]
theorem CE (xs:List (List UInt8))(c:UInt8)(M:Nat)(h:∀x∈xs,x.length <=M):(Lib.join xs [c]).length <=xs.length*(M+1):=by
 cases xs with
 | nil=>simp[Lib.join_nil]
 | cons x r=>
   rw[Lib.join_cons]
   have:∀r:List (List UInt8),(∀x∈r,x.length <=M)->(Lib.joinTail [c] r).length <=r.length*(M+1):=by
     intro r
     induction r with
     | nil=>intro _;simp[Lib.joinTail]
     | cons y r ih=>
       intro hr
       have h1:=ih λx hx=>hr x (List.mem_cons_of_mem _ hx)
       have h2:=hr y List.mem_cons_self
       have e:Lib.joinTail [c] (y::r)=[c]++y++Lib.joinTail [c] r:=by simp[Lib.joinTail]
       rw[e]
       simp only[List.length_append,List.length_cons,List.length_nil,Nat.add_mul];omega
   have h1:=this r λy hy=>h y (List.mem_cons_of_mem _ hy)
   have h2:=h x List.mem_cons_self
   simp only[List.length_append,List.length_cons,Nat.add_mul];omega
theorem FG {w:World}{A:Bl}{a:Option Addr}{n c:Nat}{xs:List (List UInt8)}(ho:Sl tS w A a n c xs)(sep:List UInt8)(hx:xs.length <=140737488355328)(hl:(Lib.join xs sep).length <=140737488355328):
   Cf my #[.slice a n c,vS sep] w (Ret λv w'=>v=vS (Lib.join xs sep)/\bW w w'):=by
 obtain⟨hn,hnc,hcm,h4⟩:=ho
 subst hn
 rcases h4 with h4|⟨b,off,rfl,hbl,_,cs,hcs,hcell⟩
 · subst h4
   refine(Tryz.strings_Join_none a c (mkS sep) w).mono ?_
   rintro _ _ ⟨rfl,rfl⟩
   exact⟨_,rfl,rfl,Below.refl _ _⟩
 · have he:=gP hcs
   have e:(xs.map mkS).map (λs=>s.data.toList)=xs:=by rw[List.map_map];exact List.map_id xs
   have hj:=Tryz.strings_Join b off c (xs.map mkS) (mkS sep) w (λj x hx=>by
     rw[List.getElem?_map]at hx
     cases hxj:xs[j]? with
     | none=>rw[hxj]at hx;cases hx
     | some y=>
       rw[hxj]at hx
       cases hx
       have hjl:=(List.getElem?_eq_some_iff.1 hxj).1
       rw[hcell j (by rw[he];simpa using hjl),he,List.getElem?_map,hxj];rfl) hbl (by rw[List.length_map];omega) (by rw[List.length_map];exact hnc) (by
       rw[e];exact hl)
   rw[List.length_map]at hj
   refine hj.mono ?_
   rintro _ w' ⟨rfl,hb'⟩
   rw[e]
   exact⟨_,rfl,rfl,hb'⟩
theorem PN (n:Nat)(h:n <=9223372036854775807)(w:World)(he:Env w):Cf vO #[vI (n:Int)] w (Ret λv w'=>v=vS (DF n)/\bW w w'):=by
 refine(Tryz.strconv_Itoa n (by omega) (by omega) w he.tab).mono ?_
 rintro _ _ ⟨rfl,k,os,rfl⟩
 rw[Jq]
 exact⟨_,rfl,rfl,H5 w k os⟩
theorem E8 (a:List UInt8)(ha:a.length=16)(w:World)(he:Env w):Cf tF #[adV a] w (Ret λv w'=>v=vS (As a)/\bW w w'):=by
 apply DR
 intro k1 w1 hk1 hw1
 have hB1:=(hw1▸ah w _:bW w w1)
 have h1:am w1 k1 ak (adC a):=am.new hk1 hw1
 have e12:(if 16=(Int.toNat (12:Int))then(⟨k1,0,none⟩:Addr)else Addr.add ⟨k1,0,none⟩ ((Int.toNat (12:Int))*1))=⟨k1,12,none⟩:=by
   rw[if_neg (by decide)];unfold Addr.add;split <;> simp_all
 have e4:(16-(Int.toNat (12:Int)):Nat)=4:=rfl
 rw[e12,e4]
 refine⟨⟨by decide,by decide⟩,?_⟩
 refine⟨λm a3 l3 c3 i w'=>∃k:Nat,k <=4/\i=(k:Int)/\m=4-k/\Ow tS au w' NoB a3 l3 c3 (((a.drop 12).take k).map λc=>DF c.toNat)/\bI w1.heap.size a3/\bW w1 w',
   ⟨_,0,by omega,rfl,rfl,Ow.nil _ _ _ _,bI.none _,Below.refl _ _⟩,?_⟩
 intro m a3 l3 c3 i
 refine aC.of ?_ _
 rintro w2 ⟨k,hk,rfl,rfl,ho2,hf2,hB2⟩
 have hl4:(a.drop 12).length=4:=by rw[List.length_drop];omega
 refine ae.of (λh=>?_) (λh=>?_) <;> simp only[dTx,dFx]at h
 · have hk4:k<4:=by omega
   rw[cT]
   have hu:=kY (a[12+k]'(by omega))
   refine⟨⟨⟨by omega,h⟩,rfl⟩,_,(h1.below hB2).load1 bP rfl (tw (i:=12+k) (by omega)),?_⟩
   rw[wrap_i64 (by omega) (by omega)]
   refine ax (PN _ (by omega) w2 ((he.step hB1).step hB2)) ?_
   rintro _ w3 ⟨rfl,hb3⟩
   have hB3:=ab hB2 hb3 hB2.size
   refine⟨_,rfl,?_⟩
   intro k4 w4 hk4' hw4
   have hll:(((a.drop 12).take k).map λc=>DF c.toNat).length <=4:=by simp;omega
   obtain⟨w5,a5,n5,c5,hr,ho5,hf5,hb5⟩:=FW (ty:=az) (w0:=w1) (cm:=1) (vs:=[_]) (j5 _) cb pJ (by decide) (ho2.below hb3) hf2 hB3 hk4' hw4 (xl trivial) (by omega)
   refine⟨w5,a5,n5,c5,hr,4-(k+1),by omega,k+1,by omega,by rw[wrap_i64 (by omega) (by omega)];omega,rfl,?_,hf5,hb5⟩
   rw[List.take_succ_eq_append_getElem (by omega),List.map_append]
   have:(a.drop 12)[k]'(by omega)=a[12+k]'(by omega):=by rw[List.getElem_drop]
   rw[this];exact ho5
 · have:k=4:=by omega
   subst this
   rw[List.take_of_length_le (by omega)]at ho2
   have hlen:(As a).length <=4*(21+1):=by
     have:=CE ((a.drop 12).map λc=>DF c.toNat) 46 21 (λx hx=>by
       obtain⟨c,_,rfl⟩:=List.mem_map.1 hx
       have:=kY c
       exact j4 (by omega))
     rw[List.length_map,hl4]at this
     exact this
   refine ax (FG ho2.all [46] (by rw[List.length_map];omega) (Nat.le_trans hlen (by decide))) ?_
   rintro _ w3 ⟨rfl,hb3⟩
   have hB3:=ab hB2 hb3 hB2.size
   exact⟨_,rfl,rfl,ab hB1 hB3 hB1.size⟩
def LK (d:Nat):UInt8:=UInt8.ofNat (if d<10 then 48+d else 87+d)
def zu (n:Nat):List UInt8:=if n<16 then[LK n]else zu (n/16)++[LK (n%16)]
termination_by n
theorem yb {n:Nat}(h:n<16):zu n=[LK n]:=by rw[zu,if_pos h]
theorem oU {n:Nat}(h: ¬ n<16):zu n=zu (n/16)++[LK (n%16)]:=by rw[zu,if_neg h]
theorem vg {n:Nat}(h:n<65536):(zu n).length <=4:=by
 have step:∀m M:Nat,(m/16<M->(zu (m/16)).length <=3)->True:=λ_ _ _=>trivial
 have l1:∀n,n<16->(zu n).length=1:=λn h=>by rw[yb h];rfl
 have l2:∀n,n<256->(zu n).length <=2:=λn h=>by
   by_cases c:n<16
   · rw[l1 n c];omega
   · rw[oU c,List.length_append,l1 (n/16) (by omega)];simp
 have l3:∀n,n<4096->(zu n).length <=3:=λn h=>by
   by_cases c:n<16
   · rw[l1 n c];omega
   · have:=l2 (n/16) (by omega)
     rw[oU c,List.length_append];simp;omega
 by_cases c:n<16
 · rw[l1 n c];omega
 · have:=l3 (n/16) (by omega)
   rw[oU c,List.length_append];simp;omega
def Ry:List UInt8:=[48,49,50,51,52,53,54,55,56,57,97,98,99,100,101,102,103,104,105,106,107,108,109,110,111,112,113,114,115,116,117,118,119,120,121,122]
theorem GS:∀d:Nat,d<16->aQ Ry (d:Int)=(((LK d).toNat:Nat):Int):=by decide
theorem u64_in {n:Int}(h0:0 <=n)(h1:n<18446744073709551616):IntKind.u64.wrap n=n:=by
 have e:IntKind.u64.wrap n=n%18446744073709551616:=rfl
 try dsimp only
 rw[e];omega
theorem Rs {u:Nat}(h:u<65536):IntKind.u64.wrap (((BitVec.ofInt (IntKind.bits .u64) (u:Int)) &&& (BitVec.ofInt (IntKind.bits .u64) (IntKind.u64.wrap ((IntKind.u64.wrap (16:Int))-(1:Int))))).toNat:Nat)=((u%16:Nat):Int):=by
 have e15:IntKind.u64.wrap ((IntKind.u64.wrap (16:Int))-(1:Int))=((15:Nat):Int):=by decide
 have b64:∀n:Nat,n<65536->(BitVec.ofInt (IntKind.bits .u64) (n:Int)).toNat=n:=λn hn=>by
   show(BitVec.ofInt 64 (n:Int)).toNat=n
   rw[BitVec.toNat_ofInt]
   have h:((2 ^ 64:Nat):Int)=18446744073709551616:=by decide
   rw[h];omega
 rw[e15,BitVec.toNat_and,b64 u h,b64 15 (by decide)]
 have:u &&& 15=u%16:=Nat.and_two_pow_sub_one_eq_mod u 4
 rw[this,u64_in (by omega) (by omega)]
theorem Se {u:Nat} :Int.fdiv (u:Int) (2 ^ (min (Int.toNat (IntKind.u64.wrap (4:Int))) (IntKind.bits .u64)))=((u/16:Nat):Int):=by
 have e1:(2:Int) ^ (min (Int.toNat (IntKind.u64.wrap (4:Int))) (IntKind.bits .u64))=16:=by decide
 try dsimp only
 rw[e1,Int.fdiv_eq_ediv_of_nonneg _ (by decide)];omega
theorem Oj (k o j:Nat):Addr.add ⟨k,o,none⟩ j=⟨k,o+j,none⟩:=by unfold Addr.add;split <;> simp_all
theorem am.sl8 {w:World}{k:Nat}{T:TypeId}{p xs:List UInt8}(h:am w k T (adC (p++xs)))(hl:xs.length <=maxLen):Sl tU8 w kj (some ⟨k,p.length,none⟩) xs.length xs.length xs:=by
 refine⟨rfl,Nat.le_refl _,hl,.inr ⟨k,p.length,rfl,h.lt,trivial,adC xs,j1 (λ_ _=>trivial),λj hj=>?_⟩⟩
 rw[h.cell]
 unfold adC
 rw[List.map_append,List.getElem?_append_right (by simp)]
 simp
theorem tC (w:World)(he:Env w):Cf fN #[.int .u64 (IntKind.u64.wrap (16:Int))] w (Ret λv w'=>v=vI 4/\w'=w):=by
 have e16:IntKind.u64.wrap (16:Int)=16:=by decide
 try dsimp only
 rw[e16]
 apply pf
 refine ax (K:=λv w'=>v=vI 4/\w'=w) ?_ ?_
 · apply ni
   refine ae.no (by decide) ⟨by decide,⟨⟨by decide+kernel,by decide+kernel⟩,rfl⟩,4,?_,rfl,rfl⟩
   have hE:∀E:Int,E=15->(Instr.loadAt aG (.pointer (ao (some ⟨5,0,none⟩) E 1))).run prog w=.ok (.int .u8 4) w:=by
     rintro _ rfl
     exact eZ bP rfl he.tz
   exact hE _ (by decide+kernel)
 · rintro _ w1 ⟨rfl,hw⟩
   exact⟨_,rfl,rfl,hw⟩
theorem Ft (n:Nat)(hn:n<65536)(w:World)(he:Env w):Cf dU #[.slice none 0 0,.int .u64 (n:Int),vI 16,.bool false,.bool false] w
   (Ret λv w'=>v=.tuple #[.slice none 0 0,vS (zu n)]/\bW w w'):=by
 apply ml
 refine vt (w:=w) True ?_ (λ_=>?_)
 · refine⟨λb w'=>w'=w/\b=false,ae.no (by decide) (ae.no (by decide) ⟨rfl,by decide⟩),λb=>aC.of ?_ _⟩
   rintro wj ⟨hw,hb⟩
   rw[hw,hb]
   exact ae.no rfl ⟨rfl,trivial⟩
 intro k w1 hk hw1
 have hB1:=(hw1▸ah w _:bW w w1)
 have h1:am w1 k nM (adC (List.replicate 65 0++[])):=am.new hk hw1
 have hk0:w.heap.size <=k:=by omega
 refine QW (w:=w1) (n:Int) (ae.no rfl ⟨rfl,rfl⟩) ?_
 refine⟨λi w'=>∃xs:List UInt8,i=((65-xs.length:Nat):Int)/\xs=zu n/\am w' k nM (adC (List.replicate (65-xs.length) 0++xs))/\bW w w',?_,λi=>aC.of ?_ _⟩
 · refine ax (K:=λv w'=>v=.bool true/\w'=w1) ?_ ?_
   · apply kV
     exact⟨congrArg Value.bool (by decide+kernel),rfl⟩
   rintro _ w2 ⟨rfl,hw2⟩
   rw[hw2]
   refine⟨_,rfl,ae.yes rfl ?_⟩
   refine ax (tC w1 (he.step hB1)) ?_
   rintro _ w3 ⟨rfl,hw3⟩
   rw[hw3]
   refine⟨_,rfl,?_⟩
   refine⟨λm u i w'=>∃(q t:Nat) (xs:List UInt8),u=(q:Int)/\m=q/\t=xs.length/\i=((65-t:Nat):Int)/\zu n=zu q++xs/\q*16 ^ t <=65535/\(t=0\/0<q)/\am w' k nM (adC (List.replicate (65-t) 0++xs))/\bW w w',
     ⟨_,n,0,[],rfl,rfl,rfl,rfl,by rw[List.append_nil],by omega,.inl rfl,h1,hB1⟩,?_⟩
   intro m u i
   refine aC.of ?_ _
   rintro w4 ⟨q,t,xs,rfl,hm,rfl,rfl,hx,hq,ht,h4,hB4⟩
   obtain rfl:q=m:=hm.symm
   have ht3:xs.length <=3:=by
     rcases ht with h0|h0
     · omega
     · refine Decidable.byContradiction λhc=>?_
       have h16:16 ^ 4 <=16 ^ xs.length:=Nat.pow_le_pow_right (by decide) (by omega)
       have:16 ^ xs.length <=q*16 ^ xs.length:=Nat.le_mul_of_pos_left _ h0
       have e:(16:Nat) ^ 4=65536:=rfl
       omega
   have hq6:q<65536:=by
     have:q <=q*16 ^ xs.length:=Nat.le_mul_of_pos_right _ (Nat.pos_of_ne_zero (by simp))
     omega
   have e16:IntKind.u64.wrap (16:Int)=16:=by decide
   have ei:i64.wrap (((65-xs.length:Nat):Int)-1)=((65-(xs.length+1):Nat):Int):=by rw[wrap_i64 (by omega) (by omega)];omega
   have hset:∀c:UInt8,(adC (List.replicate (65-xs.length) 0++xs)).set (65-(xs.length+1)) (.int .u8 ((c.toNat:Nat):Int))=adC (List.replicate (65-(xs.length+1)) 0++(c::xs)):=λc=>by
     rw[qi,show 65-xs.length=(65-(xs.length+1))+1 by omega,List.replicate_succ' (n:=65-(xs.length+1)),List.append_assoc,List.set_append_right _ _ (by simp),List.length_replicate,Nat.sub_self];rfl
   have hput:=λc:UInt8=>h4.put (P:=prog) gh (i:=65-(xs.length+1)) (v:=.int .u8 ((c.toNat:Nat):Int)) (by rw[bX];simp;omega) rfl rfl
   rw[ei,cT,Nat.zero_add]
   have hin:(0 <=((65-(xs.length+1):Nat):Int)/\((65-(xs.length+1):Nat):Int)<((65:Nat):Int))/\true=true:=⟨⟨by omega,by omega⟩,rfl⟩
   refine ae.of (λh=>?_) (λh=>?_)
   · rw[e16]at h
     simp only[ge_iff_le,dTx]at h
     have hq16:16 <=q:=by omega
     rw[Rs hq6,Se,show aQ [48,49,50,51,52,53,54,55,56,57,97,98,99,100,101,102,103,104,105,106,107,108,109,110,111,112,113,114,115,116,117,118,119,120,121,122] ((q%16:Nat):Int)=_ from GS (q%16) (by omega)]
     obtain⟨w5,hs5,h5,hg5⟩:=hput (LK (q%16))
     rw[hset]at h5
     refine⟨⟨by omega,by simp;omega⟩,hin,w5,hs5,by decide,q/16,by omega,q/16,xs.length+1,LK (q%16)::xs,rfl,rfl,by simp,rfl,?_,?_,.inr (by omega),h5,Below.put hB4 hg5 hk0⟩
     · rw[hx,oU (n:=q) (by omega)];simp
     · have e:q/16*16 ^ (xs.length+1)=(q/16*16)*16 ^ xs.length:=by rw[Nat.pow_succ,Nat.mul_comm (16 ^ xs.length) 16,Nat.mul_assoc]
       rw[e]
       exact Nat.le_trans (Nat.mul_le_mul_right _ (by omega)) hq
   · rw[e16]at h
     simp only[ge_iff_le,dFx]at h
     have hq16:q<16:=by omega
     rw[show aQ [48,49,50,51,52,53,54,55,56,57,97,98,99,100,101,102,103,104,105,106,107,108,109,110,111,112,113,114,115,116,117,118,119,120,121,122] (q:Int)=_ from GS q hq16]
     obtain⟨w5,hs5,h5,hg5⟩:=hput (LK q)
     rw[hset]at h5
     refine⟨⟨by omega,by simp;omega⟩,hin,w5,hs5,LK q::xs,rfl,?_,h5,Below.put hB4 hg5 hk0⟩
     rw[hx,yb hq16];rfl
 · rintro w5 ⟨xs,rfl,hxs,h5,hB5⟩
   have hl:=vg hn
   rw[<- hxs]at hl
   refine QW (w:=w5) ((65-xs.length:Nat):Int) (ae.no rfl ⟨rfl,rfl⟩) ?_
   refine ae.no rfl ⟨⟨by omega,by omega⟩,?_⟩
   have hpos:0<xs.length:=by
     rw[hxs]
     by_cases c:n<16
     · rw[yb c];exact Nat.one_pos
     · rw[oU c];simp
   have ea:(if 65=(Int.toNat ((65-xs.length:Nat):Int))then(⟨k,0,none⟩:Addr)else Addr.add ⟨k,0,none⟩ ((Int.toNat ((65-xs.length:Nat):Int))*1))=⟨k,(List.replicate (65-xs.length) (0:UInt8)).length,none⟩:=by
     rw[List.length_replicate,Int.toNat_natCast,if_neg (by omega),Oj,Nat.zero_add,Nat.mul_one]
   have en:65-(Int.toNat ((65-xs.length:Nat):Int))=xs.length:=by rw[Int.toNat_natCast];omega
   rw[ea,en]
   refine⟨xs,qN bZ aA bP (h5.sl8 (by unfold maxLen;omega)),?_⟩
   rw[hxs]
   exact⟨rfl,hB5⟩
theorem Fu (n:Nat)(hn:n<65536)(w:World)(he:Env w):Cf jz #[.int .u64 (n:Int),vI 16] w (Ret λv w'=>v=vS (zu n)/\bW w w'):=by
 apply tp
 refine ax (K:=λv w'=>v=vS (zu n)/\bW w w') ?_ ?_
 · apply mj
   refine ae.no (by decide) ?_
   refine ax (Ft n hn w he) ?_
   rintro _ w1 ⟨rfl,hb1⟩
   exact⟨_,_,_,_,rfl,rfl,hb1⟩
 · rintro _ w1 ⟨rfl,hb1⟩
   exact⟨_,rfl,rfl,hb1⟩
def vu (a:List UInt8)(k:Nat):Nat:=(a.getD (2*k) 0).toNat*256+(a.getD (2*k+1) 0).toNat
def gL (a:List UInt8):List Nat:=[vu a 0,vu a 1,vu a 2,vu a 3,vu a 4,vu a 5,vu a 6,vu a 7]
theorem tV (a:List UInt8):(gL a).length=8:=rfl
theorem Cv (a:List UInt8)(k:Nat):vu a k<65536:=by
 have h1:=kY (a.getD (2*k) 0);have h2:=kY (a.getD (2*k+1) 0)
 unfold vu;omega
theorem Er (a:List UInt8):∀(k:Nat) (h:k<(gL a).length),(gL a)[k]=vu a k
 | 0,_=>rfl
 | 1,_=>rfl
 | 2,_=>rfl
 | 3,_=>rfl
 | 4,_=>rfl
 | 5,_=>rfl
 | 6,_=>rfl
 | 7,_=>rfl
 | n+8,h=>by rw[tV]at h;omega
theorem AJ (a:List UInt8):∀x∈gL a,x<65536:=λx hx=>by
 obtain⟨i,hi,rfl⟩:=List.mem_iff_getElem.1 hx
 rw[Er];exact Cv a i
def wrL (l:List Nat):List UInt8:=Lib.join (l.map zu) [58]
theorem nw {l:List Nat}(h:∀x∈l,x<65536):(wrL l).length <=l.length*5:=by
 have:=CE (l.map zu) 58 4 (λx hx=>by
   obtain⟨c,hc,rfl⟩:=List.mem_map.1 hx
   exact vg (h c hc))
 rwa [List.length_map]at this
def zst (s:Nat×Nat×Nat)(i:Nat)(z:Bool):Nat×Nat×Nat:=
 if s.2.1<(if z=true then s.2.2+1 else 0)then(i+1-(if z=true then s.2.2+1 else 0),(if z=true then s.2.2+1 else 0),(if z=true then s.2.2+1 else 0))else(s.1,s.2.1,(if z=true then s.2.2+1 else 0))
def pR (zs:List Bool):Nat->Nat×Nat×Nat
 | 0=>(0,0,0)
 | k+1=>zst (pR zs k) k (zs.getD k false)
def cr (zs:List Bool):Nat×Nat:=((pR zs 8).1,(pR zs 8).2.1)
def HQ (zs:List Bool)(p l:Nat):Bool:=(List.range l).all λj=>zs.getD (p+j) false
def zok (zs:List Bool):Bool:=
 decide ((cr zs).1+(cr zs).2 <=8)&&(decide ((cr zs).2<2) || HQ zs (cr zs).1 (cr zs).2) &&
   (List.range 9).all λL=>(List.range 9).all λA=> !(decide (2 <=L)&&decide (A+L <=8)&&HQ zs A L) || (decide (L<(cr zs).2) || (decide (L=(cr zs).2)&&decide ((cr zs).1 <=A)))
theorem Qp:∀b0 b1 b2 b3 b4 b5 b6 b7:Bool,zok [b0,b1,b2,b3,b4,b5,b6,b7]=true:=by decide+kernel
theorem Ag {zs:List Bool}(h:zs.length=8):(cr zs).1+(cr zs).2 <=8/\(2 <=(cr zs).2->HQ zs (cr zs).1 (cr zs).2=true)/\
   ∀L A,2 <=L->A+L <=8->HQ zs A L=true->L<(cr zs).2\/(L=(cr zs).2/\(cr zs).1 <=A):=by
 match zs,h with
 | [b0,b1,b2,b3,b4,b5,b6,b7],_=>
   have:=Qp b0 b1 b2 b3 b4 b5 b6 b7
   unfold zok at this
   rw[Bool.and_eq_true,Bool.and_eq_true]at this
   obtain⟨⟨h1,h2⟩,h3⟩:=this
   refine⟨of_decide_eq_true h1,λhl=>?_,λL A hL hA hz=>?_⟩
   · rw[Bool.or_eq_true,dTx]at h2
     exact h2.resolve_left (by omega)
   · have:=List.all_eq_true.1 (List.all_eq_true.1 h3 L (List.mem_range.2 (by omega))) A (List.mem_range.2 (by omega))
     rw[decide_eq_true hL,decide_eq_true hA,hz]at this
     simpa using this
theorem HN (zs:List Bool):∀k,(pR zs k).2.2 <=k/\(pR zs k).2.1 <=k/\(pR zs k).1 <=k
 | 0=>⟨Nat.le_refl _,Nat.le_refl _,Nat.le_refl _⟩
 | k+1=>by
   obtain⟨h1,h2,h3⟩:=HN zs k
   unfold pR zst
   cases zs.getD k false <;> simp only[Bool.false_eq_true,if_false,if_true] <;> split <;> simp <;> omega
def zsA (a:List UInt8):List Bool:=(gL a).map (· ==0)
theorem I3 (a:List UInt8):(zsA a).length=8:=rfl
def yD (a:List UInt8):List UInt8:=
 if(cr (zsA a)).2<2 then wrL (gL a)else wrL ((gL a).take (cr (zsA a)).1)++[58,58]++wrL ((gL a).drop ((cr (zsA a)).1+(cr (zsA a)).2))
theorem RL {a d:Nat}(ha:a<256)(hd:d<256):IntKind.u16.wrap (((BitVec.ofInt (IntKind.bits .u16) (IntKind.u16.wrap ((IntKind.u16.wrap (a:Int))*2 ^ (min (Int.toNat (8:Int)) (IntKind.bits .u16))))) ||| (BitVec.ofInt (IntKind.bits .u16) (IntKind.u16.wrap (d:Int)))).toNat:Nat)=((a*256+d:Nat):Int):=by
 have e1:(2:Int) ^ (min (Int.toNat (8:Int)) (IntKind.bits .u16))=256:=by decide
 have w16:∀n:Nat,n<65536->IntKind.u16.wrap (n:Int)=(n:Int):=λn hn=>by
   have:IntKind.u16.wrap (n:Int)=(n:Int)%65536:=rfl
   rw[this];omega
 have e2:(a:Int)*256=((a*256:Nat):Int):=by omega
 have b16:∀n:Nat,n<65536->(BitVec.ofInt (IntKind.bits .u16) (n:Int)).toNat=n:=λn hn=>by
   show(BitVec.ofInt 16 (n:Int)).toNat=n
   rw[BitVec.toNat_ofInt]
   have h:((2 ^ 16:Nat):Int)=65536:=by decide
   rw[h];omega
 rw[e1,w16 a (by omega),e2,w16 (a*256) (by omega),w16 d (by omega),BitVec.toNat_or,b16 (a*256) (by omega),b16 d (by omega)]
 have h3:a*256 ||| d=a*256+d:=by
   have:=Nat.two_pow_add_eq_or_of_lt (i:=8) hd a
   rw[Nat.mul_comm a 256];exact this.symm
 rw[h3,w16 _ (by omega)]
def DM (l:List Nat):List Value:=i16 (l.map λx:Nat=>(x:Int))
theorem FC (l:List Nat):(DM l).length=l.length:=by simp[DM,i16]
theorem Jp (l:List Nat):DE (DM l):=LU _
theorem NQ (l:List Nat)(i x:Nat):(DM l).set i (.int .u16 (x:Int))=DM (l.set i x):=by unfold DM i16;rw[List.map_set,List.map_set]
theorem FB {l:List Nat}{i:Nat}(h:i<l.length):(DM l)[i]? =some (.int .u16 ((l[i]:Nat):Int)):=by
 unfold DM i16;rw[List.getElem?_map,List.getElem?_map,List.getElem?_eq_getElem h];rfl
theorem am.sl16 {w:World}{k:Nat}{T:TypeId}{l:List Nat}(h:am w k T (DM l)){o n c:Nat}{A:Addr}(hA:0<n->A=⟨k,o,none⟩)(hn:o+n <=l.length)(hc:n <=c)(hm:c <=maxLen):Sl Qe w kj (some A) n c (((l.drop o).take n).map λx:Nat=>(x:Int)):=by
 have hl:(((l.drop o).take n).map λx:Nat=>(x:Int)).length=n:=by simp;omega
 refine⟨hl.symm,hc,hm,?_⟩
 by_cases h0:0<n
 · refine .inr ⟨k,o,by rw[hA h0],h.lt,trivial,DM ((l.drop o).take n),j1 (h1:=λ_=>rfl) (λ_ _=>trivial),λj hj=>?_⟩
   rw[FC]at hj
   have hj2:j<n:=by rw[List.length_take]at hj;omega
   rw[h.cell,FB (by omega),FB hj]
   simp
 · exact .inl (List.length_eq_zero_iff.1 (by omega))
theorem DI (a:List UInt8)(ha:a.length=16)(w:World):Cf rO #[adV a] w (Ret λv w'=>v=.agg (DM (gL a)).toArray/\bW w w'):=by
 apply CU
 intro k1 w1 hk1 hw1
 have hB1:=(hw1▸ah w _:bW w w1)
 have h11:am w1 k1 ak (adC a):=am.new hk1 hw1
 intro k2 w2 hk2 hw2
 have hb2:=(hw2▸ah w1 _:bW w1 w2)
 have hB2:=ab hB1 hb2 hB1.size
 have h22:am w2 k2 aS (DM [0,0,0,0,0,0,0,0]):=am.new hk2 hw2
 intro k3 w3 hk3 hw3
 have hb3:=(hw3▸ah w2 _:bW w2 w3)
 have hB3:=ab hB2 hb3 hB2.size
 have h33:am w3 k3 aS (DM [0,0,0,0,0,0,0,0]):=am.new hk3 hw3
 have h23:=h22.below hb3
 have h13:=(h11.below hb2).below hb3
 have l1:=h11.lt
 have l2:=h22.lt
 have hk3w:w.heap.size <=k3:=by have:=hB2.size;omega
 refine⟨λm i w'=>∃k:Nat,k <=8/\i=(k:Int)/\m=8-k/\am w' k3 aS (DM ((gL a).take k++List.replicate (8-k) 0))/\am w' k2 aS (DM [0,0,0,0,0,0,0,0])/\am w' k1 ak (adC a)/\bW w w',
   ⟨_,0,by omega,rfl,rfl,h33,h23,h13,hB3⟩,?_⟩
 intro m i
 refine aC.of ?_ _
 rintro w6 ⟨k,hk,rfl,rfl,h36,h26,h16,hB6⟩
 refine ae.of (λh=>?_) (λh=>?_) <;> simp only[dTx,dFx]at h
 · have hk8:k<8:=by omega
   have e1:i64.wrap (2*(k:Int))=((2*k:Nat):Int):=by rw[wrap_i64 (by omega) (by omega)];omega
   have e2:i64.wrap (((2*k:Nat):Int)+1)=((2*k+1:Nat):Int):=by rw[wrap_i64 (by omega) (by omega)];omega
   rw[e1,e2,cT,cT,cT]
   simp only[Nat.zero_add]
   have hin:(0 <=(k:Int)/\(k:Int)<((8:Nat):Int))/\True:=⟨⟨by omega,by omega⟩,trivial⟩
   have hin1:(0 <=((2*k:Nat):Int)/\((2*k:Nat):Int)<((16:Nat):Int))/\True:=⟨⟨by omega,by omega⟩,trivial⟩
   have hin2:(0 <=((2*k+1:Nat):Int)/\((2*k+1:Nat):Int)<((16:Nat):Int))/\True:=⟨⟨by omega,by omega⟩,trivial⟩
   have ld:∀(i:Nat) (hi:i<a.length) (u:World),bW w6 u->(Instr.loadAt aG (.pointer (some ⟨k1,i,none⟩))).run prog u=.ok (.int .u8 ((a[i].toNat:Nat):Int)) u:=λi hi u hu=>(h16.below hu).load1 bP rfl (tw hi)
   refine⟨hin1,_,ld _ (by omega),by decide,hin2,_,ld _ (by omega),hin,?_⟩
   intro wq hq
   have hd:=ab hB6 hq hB6.size
   have d3:=h36.below hq
   have d2:=h26.below hq
   have d1:=h16.below hq
   have hval:(a[2*k]'(by omega)).toNat*256+(a[2*k+1]'(by omega)).toNat=vu a k:=by
     unfold vu
     rw[List.getD_eq_getElem?_getD,List.getD_eq_getElem?_getD,List.getElem?_eq_getElem (by omega),List.getElem?_eq_getElem (by omega)];rfl
   have hor:=RL (a:=(a[2*k]'(by omega)).toNat) (d:=(a[2*k+1]'(by omega)).toNat) (by have:=kY (a[2*k]'(by omega));omega) (by have:=kY (a[2*k+1]'(by omega));omega)
   rw[hval]at hor
   have hgl:=tV a
   have hlen:((gL a).take k++List.replicate (8-k) 0).length=8:=by simp[hgl];omega
   obtain⟨w8,hs8,h58,hg8⟩:=d3.put (P:=prog) HC (i:=k) (v:=.int .u16 ((vu a k:Nat):Int)) (by rw[FC,hlen];omega) rfl rfl
   have hset:((gL a).take k++List.replicate (8-k) 0).set k (vu a k)=(gL a).take (k+1)++List.replicate (8-(k+1)) 0:=by
     have hl:((gL a).take k).length=k:=by rw[List.length_take,hgl];omega
     rw[List.set_append_right _ _ (by omega),hl,Nat.sub_self,show 8-k=(8-(k+1))+1 by omega,List.replicate_succ (n:=8-(k+1)),List.set_cons_zero,List.take_succ_eq_append_getElem (by omega),Er,List.append_assoc];rfl
   rw[NQ,hset]at h58
   rw[<- hor]at hs8
   have hfin:∃m':Nat,m'<8-k/\∃k':Nat,k' <=8/\i64.wrap ((k:Int)+1)=(k':Int)/\m'=8-k'/\am w8 k3 aS (DM ((gL a).take k'++List.replicate (8-k') 0))/\am w8 k2 aS (DM [0,0,0,0,0,0,0,0])/\am w8 k1 ak (adC a)/\bW w w8:=
     ⟨8-(k+1),by omega,k+1,by omega,by rw[wrap_i64 (by omega) (by omega)];omega,rfl,h58,d2.grown hg8 (fH (by omega)),d1.grown hg8 (fH (by omega)),Below.put hd hg8 hk3w⟩
   exact⟨w8,hs8,hfin⟩
 · have:k=8:=by omega
   subst this
   have e8:(gL a).take 8++List.replicate (8-8) 0=gL a:=by rw[List.take_of_length_le (by rw[tV];exact Nat.le_refl _)];simp
   rw[e8]at h36
   have hlen:(DM (gL a)).length=8:=by rw[FC];rfl
   obtain⟨w7,hs7,h27,hg7⟩:=Ae.store0 hlen (Jp _) h26 rfl
   refine⟨_,_,_,_,_,_,_,_,Ae.load0 h36 hlen,w7,hs7,_,_,_,_,_,_,_,_,am.res (Ae.load0 h27 hlen),rfl,Below.put hB6 hg7 (by omega)⟩
theorem oE {w:World}{A:Bl}{a:Option Addr}{n c:Nat}{l:List Nat}(hs:Sl Qe w kj a n c (l.map λx:Nat=>(x:Int)))(hl:l.length <=8)(hb:∀x∈l,x<65536)(he:Env w):
   Cf jF #[.slice a n c] w (Ret λv w'=>v=vS (wrL l)/\bW w w'):=by
 apply AU
 have hn:=hs.len
 rw[List.length_map]at hn
 refine⟨λm a3 l3 c3 i w'=>∃k:Nat,k <=l.length/\i=(k:Int)/\m=l.length-k/\Ow tS au w' NoB a3 l3 c3 ((l.take k).map zu)/\bI w.heap.size a3/\bW w w',
   ⟨_,0,by omega,rfl,rfl,Ow.nil _ _ _ _,bI.none _,Below.refl _ _⟩,?_⟩
 intro m a3 l3 c3 i
 refine aC.of ?_ _
 rintro w2 ⟨k,hk,rfl,rfl,ho2,hf2,hB2⟩
 refine ae.of (λh=>?_) (λh=>?_) <;> simp only[dTx,dFx]at h
 · have hkl:k<l.length:=by omega
   have hs2:=hs.below hB2
   obtain⟨v,hv,hrep⟩:=hs2.load1 (i:=(k:Int)) Dq rfl rfl (by simp;omega)
   simp only[Int.toNat_natCast,List.getElem_map]at hv hrep
   obtain⟨hv',-⟩:=hrep
   obtain rfl:=(List.cons.inj hv').1
   have hgk:=hb l[k] (List.getElem_mem hkl)
   refine⟨⟨⟨by omega,h⟩,hs2.isSome (by simp;omega)⟩,_,hv,?_⟩
   rw[u64_in (by omega) (by omega)]
   refine ax (Fu _ hgk w2 (he.step hB2)) ?_
   rintro _ w3 ⟨rfl,hb3⟩
   have hB3:=ab hB2 hb3 hB2.size
   refine⟨_,rfl,?_⟩
   intro k4 w4 hk4' hw4
   have hll:((l.take k).map zu).length <=8:=by simp;omega
   obtain⟨w5,a5,n5,c5,hr,ho5,hf5,hb5⟩:=FW (ty:=az) (w0:=w) (cm:=1) (vs:=[_]) (j5 _) cb pJ (by decide) (ho2.below hb3) hf2 hB3 hk4' hw4 (xl trivial) (by omega)
   refine⟨w5,a5,n5,c5,hr,l.length-(k+1),by omega,k+1,by omega,by rw[wrap_i64 (by omega) (by omega)];omega,rfl,?_,hf5,hb5⟩
   rw[List.take_succ_eq_append_getElem hkl,List.map_append]
   exact ho5
 · have:k=l.length:=by omega
   subst this
   rw[List.take_length]at ho2
   have hlen:=nw hb
   refine ax (FG ho2.all [58] (by rw[List.length_map];omega) (by show(wrL l).length <=_;omega)) ?_
   rintro _ w3 ⟨rfl,hb3⟩
   exact⟨_,rfl,rfl,ab hB2 hb3 hB2.size⟩
theorem Fc (g0 g1 g2 g3 g4 g5 g6 g7:Nat)(w:World):
   Cf tI #[.agg #[.int .u16 (g0:Int),.int .u16 (g1:Int),.int .u16 (g2:Int),.int .u16 (g3:Int),.int .u16 (g4:Int),.int .u16 (g5:Int),.int .u16 (g6:Int),.int .u16 (g7:Int)]] w
     (Ret λv w'=>v=.tuple #[vI ((cr ([g0,g1,g2,g3,g4,g5,g6,g7].map (· ==0))).1:Int),vI ((cr ([g0,g1,g2,g3,g4,g5,g6,g7].map (· ==0))).2:Int)]/\bW w w'):=by
 apply DW
 intro k1 w1 hk1 hw1
 have hB1:=(hw1▸ah w _:bW w w1)
 have h11:am w1 k1 aS (DM [g0,g1,g2,g3,g4,g5,g6,g7]):=am.new hk1 hw1
 obtain⟨G,hG⟩:∃G,G=[g0,g1,g2,g3,g4,g5,g6,g7]:=⟨_,rfl⟩
 have hl8:G.length=8:=by rw[hG];rfl
 rw[<- hG]at h11 ⊢
 clear hG
 refine⟨λm p lo ru i w'=>∃k:Nat,k <=8/\i=(k:Int)/\m=8-k/\p=((pR (G.map (· ==0)) k).1:Int)/\lo=((pR (G.map (· ==0)) k).2.1:Int)/\ru=((pR (G.map (· ==0)) k).2.2:Int)/\w'=w1,⟨_,0,by omega,rfl,rfl,rfl,rfl,rfl,rfl⟩,?_⟩
 intro m p lo ru i
 refine aC.of ?_ _
 rintro w2 ⟨k,hk,rfl,rfl,rfl,rfl,rfl,hw2⟩
 rw[hw2];clear hw2
 obtain⟨b1,b2,b3⟩:=HN (G.map (· ==0)) k
 refine ae.of (λh=>?_) (λh=>?_) <;> simp only[dTx,dFx]at h
 · have hk8:k<G.length:=by omega
   have hzk:(G.map (· ==0)).getD k false=(G[k]==0):=by
     rw[List.getD_eq_getElem?_getD,List.getElem?_map,List.getElem?_eq_getElem hk8];rfl
   rw[cT,Nat.zero_add]
   have ew:i64.wrap ((k:Int)+1)=((k+1:Nat):Int):=by rw[wrap_i64 (by omega) (by omega)];omega
   try dsimp only
   rw[ew]
   refine QW (B:=λJ=>_/\∃n15:Int,_/\ae (n15 !=0) (J 0 w1) (J _ w1)) ((if(G[k]==0)=true then(pR (G.map (· ==0)) k).2.2+1 else 0:Nat):Int) ⟨⟨⟨by omega,by omega⟩,rfl⟩,_,h11.load1 Dq rfl (FB hk8),ae.of (λh2=>⟨rfl,?_⟩) (λh2=>⟨rfl,?_⟩)⟩ ?_
   · rw[if_neg (by simp at h2 ⊢;omega)];rfl
   · rw[if_pos (by simp at h2 ⊢;omega),wrap_i64 (by omega) (by omega)];omega
   · have hz:pR (G.map (· ==0)) (k+1)=zst (pR (G.map (· ==0)) k) k (G[k]==0):=by rw[<- hzk];rfl
     have hru:(if(G[k]==0)=true then(pR (G.map (· ==0)) k).2.2+1 else 0) <=k+1:=by split <;> omega
     unfold zst at hz
     generalize (if(G[k]==0)=true then(pR (G.map (· ==0)) k).2.2+1 else 0)=ru at*
     refine ae.of (λh2=>?_) (λh2=>?_) <;> simp only[gt_iff_lt,dTx,dFx]at h2
     · rw[if_pos (by omega)]at hz
       refine⟨8-(k+1),by omega,k+1,by omega,rfl,rfl,?_,?_,?_,rfl⟩
       · rw[hz,wrap_i64 (by omega) (by omega)];show _=((k+1-ru:Nat):Int);omega
       · rw[hz]
       · rw[hz]
     · rw[if_neg (by omega)]at hz
       exact⟨8-(k+1),by omega,k+1,by omega,rfl,rfl,by rw[hz],by rw[hz],by rw[hz],rfl⟩
 · have:k=8:=by omega
   subst this
   exact⟨rfl,hB1⟩
theorem E9 (a:List UInt8)(ha:a.length=16)(w:World)(he:Env w):Cf tG #[adV a] w (Ret λv w'=>v=vS (yD a)/\bW w w'):=by
 apply DT
 intro k1 w1 hk1 hw1
 have hB1:=(hw1▸ah w _:bW w w1)
 have h11:am w1 k1 ak (adC a):=am.new hk1 hw1
 refine⟨_,bh.load0 h11 (by rw[bX,ha]),?_⟩
 refine ax (DI a ha w1) ?_
 rintro _ w2 ⟨rfl,hb2⟩
 have hB2:=ab hB1 hb2 hB1.size
 refine⟨_,_,_,_,_,_,_,_,rfl,?_⟩
 refine Ae.new (zs:=DM [0,0,0,0,0,0,0,0]) (cs:=DM (gL a)) rfl rfl (Jp _) w2 λk3 w3 hk3 h3 hb3=>?_
 have hB3:=ab hB2 hb3 hB2.size
 refine⟨_,_,_,_,_,_,_,_,Ae.load0 h3 rfl,?_⟩
 refine ax (Fc (vu a 0) (vu a 1) (vu a 2) (vu a 3) (vu a 4) (vu a 5) (vu a 6) (vu a 7) w3) ?_
 rintro _ w4 ⟨rfl,hb4⟩
 have hB4:=ab hB3 hb4 hB3.size
 have h4:=h3.below hb4
 have hz:=Ag (I3 a)
 show ∃n10_0 n10_1:Int,(Ending.returned (.tuple #[vI ((cr (zsA a)).1:Int),vI ((cr (zsA a)).2:Int)]):Ending)=.returned (.tuple #[vI n10_0,vI n10_1])/\_
 have ht:yD a=if(cr (zsA a)).2<2 then wrL (gL a)else wrL ((gL a).take (cr (zsA a)).1)++[58,58]++wrL ((gL a).drop ((cr (zsA a)).1+(cr (zsA a)).2)):=rfl
 rw[ht];clear ht
 generalize cr (zsA a)=Z at*
 obtain⟨p,lo⟩:=Z
 have hsum:p+lo <=8:=hz.1
 refine⟨(p:Int),(lo:Int),rfl,?_⟩
 show ae _ _ _
 have hgl:=tV a
 refine ae.of (λh=>?_) (λh=>?_) <;> simp only[dTx,dFx]at h
 · rw[if_pos (show lo<2 by omega)]
   have hs:=h4.sl16 (o:=0) (n:=8) (c:=8) (A:=⟨k3,0,none⟩) (λ_=>rfl) (by rw[hgl];omega) (Nat.le_refl _) (by unfold maxLen;omega)
   have e8:((gL a).drop 0).take 8=gL a:=by rw[List.drop_zero,List.take_of_length_le (by omega)]
   rw[e8]at hs
   refine⟨trivial,?_⟩
   refine ax (oE (A:=kj) hs (by omega) (AJ a) (he.step hB4)) ?_
   rintro _ w5 ⟨rfl,hb5⟩
   exact⟨_,rfl,rfl,ab hB4 hb5 hB4.size⟩
 · rw[if_neg (show ¬ lo<2 by omega)]
   have e1:i64.wrap ((p:Int)+(lo:Int))=((p+lo:Nat):Int):=by rw[wrap_i64 (by omega) (by omega)];omega
   try dsimp only
   rw[e1]
   simp only[Int.toNat_natCast]
   have hb1:∀x∈(gL a).take p,x<65536:=λx hx=>AJ a x (List.mem_of_mem_take hx)
   have hb2':∀x∈(gL a).drop (p+lo),x<65536:=λx hx=>AJ a x (List.mem_of_mem_drop hx)
   have l1:=nw hb1
   have l2:=nw hb2'
   rw[List.length_take]at l1
   rw[List.length_drop]at l2
   refine⟨⟨by omega,by omega⟩,wrL ((gL a).take p),λu hu=>?_,fits (by simp;omega),?_⟩
   · have hs:=(h4.below hu).sl16 (o:=0) (n:=p) (c:=8) (A:=⟨k3,0,none⟩) (λ_=>rfl) (by rw[hgl];omega) (by omega) (by unfold maxLen;omega)
     rw[List.drop_zero]at hs
     exact iU (oE (A:=kj) hs (by rw[List.length_take];omega) hb1 ((he.step hB4).step hu)) hu
   rintro _ rfl
   refine⟨⟨by omega,by omega⟩,wrL ((gL a).drop (p+lo)),λu hu=>?_,fits (by simp;omega),?_⟩
   · have hs:=(h4.below hu).sl16 (o:=p+lo) (n:=8-(p+lo)) (c:=8-(p+lo)) (A:=if 8=p+lo then⟨k3,0,none⟩ else Addr.add ⟨k3,0,none⟩ ((p+lo)*1)) (λhpos=>by rw[if_neg (by omega),Oj,Nat.zero_add,Nat.mul_one]) (by rw[hgl];omega) (Nat.le_refl _) (by unfold maxLen;omega)
     rw[List.take_of_length_le (by rw[List.length_drop];omega)]at hs
     exact iU (oE (A:=kj) hs (by rw[List.length_drop];omega) hb2' ((he.step hB4).step hu)) hu
   rintro _ rfl
   intro wq hwq
   exact⟨by simp only[List.append_assoc],ab hB4 hwq hB4.size⟩
def eqV (P:Program):Nat->TypeId->Value->Value->Option Bool
 | 0,_,_,_=>none
 | d+1,t,x,y=>match P.underlying t,x,y with
   | some .bool,.bool a,.bool b=>some (a==b)
   | some (.int _),.int k a,.int k' b=>if k=k' then some (a==b)else none
   | some .string,.string a,.string b=>some (toL a==toL b)
   | some (.struct fs),.agg xs,.agg ys=>if P.stoodInHeld t then none else
       fs.toList.foldr (λf r=>if f.name= "_" then r else match He P f.type xs f.offset,He P f.type ys f.offset with
         | some a,some b=>match eqV P d f.type a b,r with
           | some p,some q=>some (p&&q)
           | _,_=>none
         | _,_=>none) (some true)
   | some (.array n e),.agg xs,.agg ys=>match P.info? e with
     | some i=>(List.range n).foldr (λj r=>match He P e xs (j*i.size),He P e ys (j*i.size)with
         | some a,some b=>match eqV P d e a b,r with
           | some p,some q=>some (p&&q)
           | _,_=>none
         | _,_=>none) (some true)
     | none=>none
   | _,_,_=>none
theorem Jg {P:Program} :∀(d:Nat) (t:TypeId) (x y:Value) (b:Bool) (w:World),eqV P d t x y=some b->(Op.equalIn d t x y).run P w=.ok b w:=by
 intro d
 induction d with
 | zero=>intro t x y b w h;cases h
 | succ d ih=>
   intro t x y b w h
   unfold eqV at h
   split at h
   · rename_i hu;cases h
     exact run_equalIn_bool' w d t _ _ hu
   · rename_i k0 k a k' c hu
     split at h
     · rename_i e;subst e;cases h
       exact run_equalIn_int w d t _ _ _ _ hu
     · cases h
   · rename_i a c hu;cases h
     rw[run_equalIn_string w d t _ _ hu]
     rw[ByteArray.toList_eq,ByteArray.toList_eq];rfl
   · rename_i fs xs ys hu
     split at h
     · cases h
     · rename_i hp
       have hf:P.fieldsOf t=fs:=by unfold Program.fieldsOf;rw[hu]
       rw[run_equalIn_struct w d t xs ys (by rw[hf];exact hu) (by simpa using hp),hf]
       revert h
       generalize fs.toList=l
       induction l generalizing b with
       | nil=>intro h;cases h;rfl
       | cons f l ihl=>
         intro h
         rw[List.foldr_cons]at h
         unfold Op.eqFields
         by_cases hn:f.name= "_"
         · rw[if_pos hn]at h
           rw[if_neg (by simpa using hn)]
           exact ihl b h
         · rw[if_neg hn]at h
           rw[if_pos hn]
           split at h
           · rename_i a c ha hc
             split at h
             · rename_i p q hpq hq
               cases h
               have h1:=ih f.type a c p w hpq
               have h2:=ihl q hq
               simp only[Sem.run_bind,yr ha,yr hc,Result.andThen_ok,h1]
               cases p
               · simp
               · simpa using h2
             · cases h
           · cases h
   · rename_i n e xs ys hu
     split at h
     · rename_i i hi
       simp only[Op.equalIn,Sem.run_bind,bD hu,Result.andThen_ok,gg hi]
       rw[Std.Legacy.Range.forIn_eq_forIn_range']
       have er:List.range' 0 ([0:n]:Std.Legacy.Range).size 1=List.range n:=by
         rw[List.range_eq_range'];simp[Std.Legacy.Range.size]
       rw[er]
       clear er
       revert h
       generalize List.range n=l
       induction l generalizing b with
       | nil=>intro h;cases h;simp
       | cons j l ihl=>
         intro h
         rw[List.foldr_cons]at h
         split at h
         · rename_i a c ha hc
           split at h
           · rename_i p q hpq hq
             cases h
             have h1:=ih e a c p w hpq
             have h2:=ihl q hq
             simp only[List.forIn_cons,Sem.run_bind,yr ha,yr hc,Result.andThen_ok,h1]
             cases p
             · simp
             · simpa using h2
           · cases h
         · cases h
     · cases h
   · cases h
theorem CW {P:Program}{t:TypeId}{x y:Operand}{xs ys:Array Value}{b:Bool}(hm:P.eqGuardType P.depth t=false)(h:eqV P 10000 t (.agg xs) (.agg ys)=some b)(w:World):
   ((do eqGuard .eql t x y (.agg xs) (.agg ys);binOp .eql t (.agg xs) (.agg ys):Sem Value)).run P w=.ok (.bool b) w:=by
 rw[Sem.run_bind,run_eqGuard_agg w .eql t x y xs ys hm,Result.andThen_ok,run_eql_struct,Jg _ _ _ _ _ w h,Result.andThen_ok]
structure Hst where
 kind:Int
 name:List UInt8
 ad:List UInt8
def Hst.cells (h:Hst):List Value:=vI h.kind::vS h.name::adC h.ad
def Hst.v (h:Hst):Value:=.agg h.cells.toArray
def jf:Hst:=⟨0,[],ad0⟩
def Hst.ok (h:Hst):Prop:=h.ad.length=16
theorem Hst.len {h:Hst}(o:h.ok):h.cells.length=18:=by unfold Hst.cells;rw[List.length_cons,List.length_cons,bX,o]
theorem Hst.one (h:Hst):DE h.cells:=aW rfl (aW rfl (cA _))
def QA:List UInt8->List UInt8->Bool
 | x::xs,y::ys=>((((x.toNat:Nat):Int))==((y.toNat:Nat):Int))&&QA xs ys
 | _,_=>true
theorem I5:∀(xs ys:List UInt8),xs.length=ys.length->(QA xs ys=true ↔ xs=ys)
 | [],[],_=>by simp[QA]
 | x::xs,[],h=>by simp at h
 | [],y::ys,h=>by simp at h
 | x::xs,y::ys,h=>by
   unfold QA
   rw[Bool.and_eq_true,I5 xs ys (by simpa using h),beq_iff_eq]
   have e:((x.toNat:Nat):Int)=((y.toNat:Nat):Int) ↔ x=y:=⟨λh=>UInt8.toNat_inj.1 (by omega),λh=>by rw[h]⟩
   rw[e]
   simp
theorem Ez {α:Type} :∀(a:List α),a.length=16->∃x0 x1 x2 x3 x4 x5 x6 x7 x8 x9 x10 x11 x12 x13 x14 x15,a=[x0,x1,x2,x3,x4,x5,x6,x7,x8,x9,x10,x11,x12,x13,x14,x15]
 | [x0,x1,x2,x3,x4,x5,x6,x7,x8,x9,x10,x11,x12,x13,x14,x15],_=>⟨x0,x1,x2,x3,x4,x5,x6,x7,x8,x9,x10,x11,x12,x13,x14,x15,rfl⟩
def lG (h g:Hst):Bool:=(h.kind==g.kind)&&((h.name==g.name)&&(QA h.ad g.ad&&true))
theorem dP {h g:Hst}(o:h.ok)(p:g.ok):lG h g=true ↔ h=g:=by
 unfold lG
 rw[Bool.and_eq_true,Bool.and_eq_true,Bool.and_true,I5 _ _ (o.trans p.symm),beq_iff_eq,beq_iff_eq]
 cases h;cases g;simp
def im (c:UInt8):Bool:=(decide (97 <=c.toNat)&&decide (c.toNat <=122)) || (decide (48 <=c.toNat)&&decide (c.toNat <=57)) || c==45 || c==95
def bs (s:List UInt8):Bool:=decide (1 <=s.length)&&decide (s.length <=63)&&s.all im
def th (L:List (List UInt8)):List UInt8:=L[L.length-1]?.getD []
def cQ (s:List UInt8):Option Hst:=
 if s.head?=some 91 then(if s.getLast?=some 93 then(v6A ((s.drop 1).take (s.length-2))).map λa=>⟨3,[],a⟩ else none)
 else if cC (th (bS 46 [] (ir s)))=true then(v4V s).map λa=>⟨2,[],a⟩
 else if s.length <=253/\(bS 46 [] (ir s)).all bs=true then some ⟨1,ir s,ad0⟩ else none
def LN:Option Hst->Value
 | some h=>.tuple #[h.v,.int .i64 0]
 | none=>.tuple #[jf.v,.int .i64 31]
theorem il {s:List UInt8}{h:Hst}(e:cQ s=some h):h.ok:=by
 unfold cQ at e
 split at e
 · split at e
   · cases hv:v6A ((s.drop 1).take (s.length-2))with
     | none=>rw[hv]at e;cases e
     | some a=>rw[hv]at e;cases e;exact IX _ a hv
   · cases e
 split at e
 · cases hv:v4V s with
   | none=>rw[hv]at e;cases e
   | some a=>rw[hv]at e;cases e;exact N7 _ a hv
 split at e
 · cases e;rfl
 · cases e
theorem jm (c:UInt8):∀(s cur:List UInt8),Lib.join (bS c cur s) [c]=cur++s
 | [],cur=>by simp[bS,Lib.join_one]
 | x::r,cur=>by
   show Lib.join (if x=c then cur::bS c [] r else bS c (cur++[x]) r) [c]=_
   split
   · rename_i h
     subst h
     have ih:=jm x r []
     have hne:=mW x r []
     cases hL:bS x [] r with
     | nil=>exact absurd hL hne
     | cons y l=>
       rw[hL,Lib.join_cons,List.nil_append]at ih
       rw[Lib.join_cons]
       have e:Lib.joinTail [x] (y::l)=[x]++y++Lib.joinTail [x] l:=by simp[Lib.joinTail]
       rw[e,List.append_assoc [x] y,ih];rfl
   · rw[jm c r (cur++[x])];simp
theorem JL (s:List UInt8)(c:UInt8):Lib.hasSuffix s [c]=decide (s.getLast?=some c)/\Lib.trimSuffix s [c]=if s.getLast?=some c then s.take (s.length-1)else s:=by
 have h1:Lib.hasSuffix s [c]=decide (s.getLast?=some c):=by
   unfold Lib.hasSuffix
   rw[Bool.eq_iff_iff,dTx,List.isSuffixOf_iff_suffix]
   constructor
   · rintro⟨t,rfl⟩;simp
   · intro h
     obtain⟨t,rfl⟩:=List.getLast?_eq_some_iff.1 h
     exact⟨t,rfl⟩
 refine⟨h1,?_⟩
 unfold Lib.trimSuffix
 rw[h1]
 by_cases h:s.getLast?=some c
 · rw[if_pos (decide_eq_true h),if_pos h];rfl
 · rw[if_neg (by rw[decide_eq_false h];decide),if_neg h]
theorem L5 {s:List UInt8}(h:s.head?=some 91):((s.drop 1).getLast?=some 93 ↔ s.getLast?=some 93):=by
 cases s with
 | nil=>cases h
 | cons x r=>
   obtain rfl:x=91:=Option.some.inj h
   cases r with
   | nil=>simp
   | cons y r=>simp[List.getLast?_cons_cons]
theorem rc {L:List (List UInt8)}(h:0<L.length):th L=L[L.length-1]'(by omega):=by unfold th;rw[List.getElem?_eq_getElem (by omega)];rfl
theorem aJ:Whl prog ai 18:=⟨⟨_,_,IP⟩,by kernel_rfl⟩
theorem Il {h g:Hst}(o:h.ok)(p:g.ok):eqV prog 10000 ai h.v g.v=some (lG h g):=by
 obtain⟨k,n,a⟩:=h
 obtain⟨k',n',a'⟩:=g
 obtain⟨x0,x1,x2,x3,x4,x5,x6,x7,x8,x9,x10,x11,x12,x13,x14,x15,rfl⟩:=Ez a o
 obtain⟨y0,y1,y2,y3,y4,y5,y6,y7,y8,y9,y10,y11,y12,y13,y14,y15,rfl⟩:=Ez a' p
 kernel_rfl
theorem Cw:prog.eqGuardType prog.depth ai=false:=by kernel_rfl
theorem CD {h g:Hst}(o:h.ok)(p:g.ok){x y:Operand}(w:World):((do eqGuard .eql ai x y h.v g.v;binOp .eql ai h.v g.v:Sem Value)).run prog w=.ok (.bool (lG h g)) w:=
 CW Cw (Il o p) w
theorem qR (k:Int){a:List UInt8}(o:a.length=16)(w:World):(Instr.build ai #[(0,vI k),(2,adV a)]).run prog w=.ok (Hst.v ⟨k,[],a⟩) w:=by
 obtain⟨x0,x1,x2,x3,x4,x5,x6,x7,x8,x9,x10,x11,x12,x13,x14,x15,rfl⟩:=Ez a o
 kernel_rfl
theorem DL (c:UInt8)(w:World):Cf rU #[.int .u8 ((c.toNat:Nat):Int)] w (Ret λv w'=>v=.bool (im c)/\w'=w):=by
 apply CY
 have e45:=mu c 45
 have e95:=mu c 95
 rw[show(((45:UInt8).toNat:Nat):Int)=45 from rfl]at e45
 rw[show(((95:UInt8).toNat:Nat):Int)=95 from rfl]at e95
 rw[e45,e95]
 unfold im
 have lf:∀{b:Bool} {x:Bool},b=x->(.bool b:Value)=.bool x/\w=w:=λh=>⟨by rw[h],rfl⟩
 refine ae.of (λh=>?_) (λh=>?_) <;> simp only[ge_iff_le,dTx,dFx]at h
 · refine ae.of (λh2=>lf ?_) (λh2=>?_) <;> simp only[ge_iff_le,dTx,dFx]at h2
   · rw[decide_eq_true (p:=97 <=c.toNat) (by omega),decide_eq_true (p:=c.toNat <=122) (by omega)];rfl
   · rw[decide_eq_false (p:=c.toNat <=122) (by omega),Bool.and_false,Bool.false_or]
     refine ae.yes (by simp;omega) (ae.no (by simp;omega) ?_)
     rw[decide_eq_false (p:=c.toNat <=57) (by omega),Bool.and_false,Bool.false_or]
     exact ae.of (λh3=>lf (by rw[h3];rfl)) (λh3=>lf (by rw[h3,Bool.false_or]))
 · rw[decide_eq_false (p:=97 <=c.toNat) (by omega),Bool.false_and,Bool.false_or]
   refine ae.of (λh2=>?_) (λh2=>?_) <;> simp only[ge_iff_le,dTx,dFx]at h2
   · rw[decide_eq_true (p:=48 <=c.toNat) (by omega),Bool.true_and]
     refine ae.of (λh3=>lf ?_) (λh3=>?_) <;> simp only[ge_iff_le,dTx,dFx]at h3
     · rw[decide_eq_true (p:=c.toNat <=57) (by omega)];rfl
     · rw[decide_eq_false (p:=c.toNat <=57) (by omega),Bool.false_or]
       exact ae.of (λh4=>lf (by rw[h4];rfl)) (λh4=>lf (by rw[h4,Bool.false_or]))
   · rw[decide_eq_false (p:=48 <=c.toNat) (by omega),Bool.false_and,Bool.false_or]
     exact ae.of (λh4=>lf (by rw[h4];rfl)) (λh4=>lf (by rw[h4,Bool.false_or]))
theorem FA (s:List UInt8)(hs:s.length <=9223372036854775800)(w:World):Cf tJ #[vS s] w (Ret λv w'=>v=.bool (bs s)/\bW w w'):=by
 apply D6
 refine ae.of (λh=>?_) (λh=>⟨?_,Below.refl _ _⟩)
 · have hne:s≠[]:=by simpa using h
   have h1:1 <=s.length:=List.length_pos_iff.2 hne
   refine ae.of (λh2=>?_) (λh2=>⟨?_,Below.refl _ _⟩) <;> simp only[dTx,dFx]at h2
   · obtain⟨w2,a,n,c,hr,ho,hb2,hf⟩:=uX (P:=prog) aA bZ bP w s (by omega) NoB
     have hnn:=ho.len
     subst hnn
     refine⟨w2,a,_,c,hr,?_⟩
     have hl:bs s=s.all im:=by unfold bs;rw[decide_eq_true h1,decide_eq_true (by omega),Bool.true_and,Bool.true_and]
     refine ax (K:=λv w'=>v=.bool (!(s.all im))/\w'=w2) ?_ ?_
     · apply fT
       refine ax (K:=λv w'=>∃i:Int,v=vI i/\(decide (i >=0))=(!(s.all im))/\w'=w2) ?_ ?_
       · apply gF
         refine⟨λm i w'=>∃k:Nat,k <=s.length/\i=(k:Int)/\m=s.length-k/\(s.take k).all im=true/\w'=w2,⟨_,0,by omega,rfl,rfl,rfl,rfl⟩,?_⟩
         intro m i
         refine aC.of ?_ _
         rintro w' ⟨k,hk,rfl,rfl,hno,hw'⟩
         rw[hw'];clear hw'
         refine ae.of (λh=>?_) (λh=>?_) <;> simp only[dTx,dFx]at h
         · have hlt:k<s.length:=by omega
           obtain⟨v,hv,hrep⟩:=ho.all.load1 (i:=(k:Int)) bP rfl rfl (by simpa using hlt)
           have:=Aw hrep
           subst this
           simp only[Int.toNat_natCast]at hv
           refine⟨⟨⟨by omega,h⟩,ho.all.isSome hlt⟩,_,hv,?_⟩
           refine ax (K:=λv w'=>v=.bool (!im s[k])/\w'=w2) ?_ ?_
           · apply zL
             refine ax (DL _ w2) ?_
             rintro _ w3 ⟨rfl,hw3⟩
             exact⟨_,rfl,rfl,hw3⟩
           rintro _ w3 ⟨rfl,hw3⟩
           rw[hw3]
           refine⟨_,rfl,ae.of (λh3=>?_) (λh3=>?_)⟩
           · refine⟨_,rfl,?_,rfl⟩
             have:s.all im=false:=by
               rw[Bool.eq_false_iff]
               intro hc
               rw[List.all_eq_true.1 hc _ (List.getElem_mem hlt)]at h3;cases h3
             rw[this,decide_eq_true (by omega)];rfl
           · refine⟨s.length-(k+1),by omega,k+1,by omega,by rw[wrap_i64 (by omega) (by omega)];omega,rfl,?_,rfl⟩
             rw[List.take_succ_eq_append_getElem hlt,List.all_append,hno]
             simpa using h3
         · have:k=s.length:=by omega
           subst this
           rw[List.take_length]at hno
           exact⟨_,rfl,by rw[hno];decide,rfl⟩
       · rintro _ w3 ⟨i,rfl,hi,hw3⟩
         exact⟨_,rfl,by rw[hi],hw3⟩
     · rintro _ w3 ⟨rfl,hw3⟩
       rw[hw3]
       exact⟨_,rfl,by rw[hl,Bool.not_not],hb2⟩
   · unfold bs;rw[decide_eq_false (p:=s.length <=63) (by omega),Bool.and_false,Bool.false_and]
 · have hne:s=[]:=by simpa using h
   subst hne;rfl
theorem nV (o:Option Hst):LN o=.tuple #[(o.getD jf).v,vI (if o.isSome then 0 else 31)]:=by cases o <;> rfl
theorem zy {o:Option Hst}(h:∀x,o=some x->x.ok):(o.getD jf).ok:=by
 cases o with
 | none=>rfl
 | some x=>exact h x rfl
theorem oV (k:Int)(a:List UInt8)(o:a.length=16)(b:Bool)(w:World):Cf jG #[vI k,adV a,.bool b] w (Ret λv w'=>v=LN (if b=true then some ⟨k,[],a⟩ else none)/\bW w w'):=by
 apply AX
 intro k4 w4 hk4 hw4
 have hB4:=(hw4▸ah w _:bW w w4)
 have h4:am w4 k4 ak (adC a):=am.new hk4 hw4
 intro k6 w6 hk6 hw6
 have hb6:=(hw6▸ah w4 _:bW w4 w6)
 have hB6:=ab hB4 hb6 hB4.size
 have h6:am w6 k6 ai jf.cells:=am.new hk6 hw6
 have hk:w.heap.size <=k6:=by have:=hB4.size;omega
 refine ae.of (λh=>?_) (λh=>?_)
 · have hb:b=false:=by simpa using h
   rw[hb]
   exact aJ.fin (K:=λvr wy=>(.tuple #[vr,vI 31]:Value)=LN (if false=true then some ⟨k,[],a⟩ else none)/\bW w wy) (cs:=jf.cells) rfl (Hst.one _) h6 rfl hB6 hk λwy hb=>⟨rfl,hb⟩
 · have hb:b=true:=by simpa using h
   rw[hb]
   refine⟨_,bh.load0 (h4.below hb6) (by rw[bX,o]),_,qR k o w6,?_⟩
   exact aJ.fin (K:=λvr wy=>(.tuple #[vr,vI 0]:Value)=LN (if true=true then some ⟨k,[],a⟩ else none)/\bW w wy) (cs:=Hst.cells ⟨k,[],a⟩) (Hst.len o) (Hst.one _) h6 rfl hB6 hk λwy hb=>⟨rfl,hb⟩
theorem L4 {w:World}{A:Bl}{a:Option Addr}{n c:Nat}{L:List (List UInt8)}(hs:Sl tS w kj a n c L)(hl:∀x∈L,x.length <=9223372036854775800)(hL:L.length <=9223372036854775800):
   Cf bH #[.slice a n c,.func (.func cU) #[] #[]] w (Ret λv w'=>v=.bool (!(L.all bs))/\bW w w'):=by
 have hn:=hs.len
 apply fc
 refine ax (K:=λv w'=>∃i:Int,v=vI i/\(decide (i >=0))=(!(L.all bs))/\bW w w') ?_ ?_
 · apply fI
   refine⟨λm i w'=>∃k:Nat,k <=L.length/\i=(k:Int)/\m=L.length-k/\(L.take k).all bs=true/\bW w w',⟨_,0,by omega,rfl,rfl,rfl,Below.refl _ _⟩,?_⟩
   intro m i
   refine aC.of ?_ _
   rintro w2 ⟨k,hk,rfl,rfl,hno,hB2⟩
   refine ae.of (λh=>?_) (λh=>?_) <;> simp only[dTx,dFx]at h
   · have hlt:k<L.length:=by omega
     have hs2:=hs.below hB2
     refine⟨⟨⟨by omega,h⟩,hs2.isSome (by omega)⟩,_,hs2.text aA hlt,?_⟩
     refine ax (K:=λv w'=>v=.bool (!bs L[k])/\bW w2 w') ?_ ?_
     · apply zK
       refine ax (FA _ (hl _ (List.getElem_mem hlt)) w2) ?_
       rintro _ w3 ⟨rfl,hb3⟩
       exact⟨_,rfl,rfl,hb3⟩
     rintro _ w3 ⟨rfl,hb3⟩
     have hB3:=ab hB2 hb3 hB2.size
     refine⟨_,rfl,ae.of (λh3=>?_) (λh3=>?_)⟩
     · refine⟨_,rfl,?_,hB3⟩
       have:L.all bs=false:=by
         rw[Bool.eq_false_iff]
         intro hc
         rw[List.all_eq_true.1 hc _ (List.getElem_mem hlt)]at h3;cases h3
       rw[this,decide_eq_true (by omega)];rfl
     · refine⟨L.length-(k+1),by omega,k+1,by omega,by rw[wrap_i64 (by omega) (by omega)];omega,rfl,?_,hB3⟩
       rw[List.take_succ_eq_append_getElem hlt,List.all_append,hno]
       simpa using h3
   · have:k=L.length:=by omega
     subst this
     rw[List.take_length]at hno
     exact⟨_,rfl,by rw[hno];decide,hB2⟩
 · rintro _ w3 ⟨i,rfl,hi,hB3⟩
   exact⟨_,rfl,by rw[hi],hB3⟩
def nL (s:List UInt8)(w:World)(v:Value)(w':World):Prop:=v=LN (cQ s)/\bW w w'
theorem nW (s:List UInt8)(hs:s.length <=2000000000)(w:World)(he:Env w):Cf mI #[vS s] w (Ret (nL s w)):=by
 apply DZ
 intro k2 w2 hk2 hw2
 have hB2:=(hw2▸ah w _:bW w w2)
 have h2:am w2 k2 ai jf.cells:=am.new hk2 hw2
 have hk2w:w.heap.size <=k2:=by omega
 refine ax (Ln s 91 w2) ?_
 rintro _ w3 ⟨rfl,hw3⟩
 rw[hw3];clear hw3
 refine⟨_,_,rfl,?_⟩
 have fin:∀{wx:World} (o:Option Hst),(∀x,o=some x->x.ok)->cQ s=o->am wx k2 ai jf.cells->bW w wx->
     ∃wy,(Instr.storeAt ai (.pointer (some ⟨k2,0,none⟩)) (o.getD jf).v).run prog wx=.ok () wy/\∃vr:Value,(aR ai (.pointer (some ⟨k2,0,none⟩))).run prog wy=.ok vr wy/\nL s w (.tuple #[vr,vI (if o.isSome then 0 else 31)]) wy:=fun{wx} o ho hv h2x hBx=>
   aJ.fin (K:=λvr wy=>nL s w (.tuple #[vr,vI (if o.isSome then 0 else 31)]) wy) (cs:=(o.getD jf).cells) (Hst.len (zy ho)) (Hst.one _) h2x rfl hBx hk2w λwy hb=>⟨by rw[hv,nV];rfl,hb⟩
 by_cases h91:s.head?=some 91
 · rw[if_pos h91,decide_eq_true h91]
   refine ae.yes rfl ?_
   have hv:cQ s=if s.getLast?=some 93 then(v6A ((s.drop 1).take (s.length-2))).map λa=>⟨3,[],a⟩ else none:=by unfold cQ;rw[if_pos h91]
   have hlt:=L5 h91
   refine(Tryz.strings_CutSuffix (mkS (s.drop 1)) (mkS [93]) w2 (by show(s.drop 1).length <=_;rw[List.length_drop];omega)).mono ?_
   rintro _ w3 ⟨rfl,hw3⟩
   rw[hw3];clear hw3
   have hsb:=JL (s.drop 1) 93
   have e1:(mkS (s.drop 1)).data.toList=s.drop 1:=rfl
   have e2:(mkS [93]).data.toList=[93]:=rfl
   rw[e1,e2,hsb.1,hsb.2]
   obtain⟨inner,hin⟩:∃inner,inner=if(s.drop 1).getLast?=some 93 then(s.drop 1).take ((s.drop 1).length-1)else s.drop 1:=⟨_,rfl⟩
   rw[<- hin]
   have hil:inner.length <=s.length:=by rw[hin];split <;> simp <;> omega
   refine⟨inner,_,rfl,?_⟩
   refine ax (JW inner (by omega) w2 (he.step hB2)) ?_
   rintro _ w4 ⟨rfl,hb4⟩
   have hB4:=ab hB2 hb4 hB2.size
   refine⟨_,_,by rw[vL],?_⟩
   have hal:=pT (IX inner)
   refine bh.new (zs:=adC ad0) (cs:=adC ((v6A inner).getD ad0)) rfl hal (cA _) w4 λk8 w8 hk8 h8 hb8=>?_
   have hB8:=ab hB4 hb8 hB4.size
   have h28:=(h2.below hb4).below hb8
   refine⟨_,bh.load0 h8 hal,?_⟩
   have hvo:cQ s=if(v6A inner).isSome=true/\(s.drop 1).getLast?=some 93 then some ⟨3,[],(v6A inner).getD ad0⟩ else none:=by
     rw[hv]
     by_cases hc:s.getLast?=some 93
     · have hc':=hlt.2 hc
       rw[if_pos hc,if_pos hc']at*
       rw[List.length_drop,show s.length-1-1=s.length-2 by omega]at hin
       rw[<- hin]
       cases v6A inner with
       | none=>rw[if_neg (λh=>by cases h.1)];rfl
       | some x=>rw[if_pos ⟨rfl,hc'⟩];rfl
     · rw[if_neg hc,if_neg (λh=>hc (hlt.1 h.2))]
   refine ae.of (λhs1=>?_) (λhs1=>?_)
   · refine ax (oV 3 _ (by rw[<- bX];exact hal) _ w8) ?_
     rintro _ w9 ⟨rfl,hb9⟩
     have hB9:=ab hB8 hb9 hB8.size
     refine⟨_,_,by rw[nV],?_⟩
     refine fin _ (λx hx=>?_) ?_ (h28.below hb9) hB9
     · split at hx
       · cases hx;show((v6A inner).getD ad0).length=16;rw[<- bX];exact hal
       · cases hx
     · rw[hvo,hs1]
       by_cases hc:(s.drop 1).getLast?=some 93
       · rw[if_pos ⟨rfl,hc⟩,if_pos (by simpa using hc)]
       · rw[if_neg (λh=>hc h.2),if_neg (by simpa using hc)]
   · refine ax (oV 3 _ (by rw[<- bX];exact hal) _ w8) ?_
     rintro _ w9 ⟨rfl,hb9⟩
     have hB9:=ab hB8 hb9 hB8.size
     refine⟨_,_,by rw[nV],?_⟩
     refine fin _ (λx hx=>by cases hx) ?_ (h28.below hb9) hB9
     rw[hvo,hs1,if_neg (λh=>by cases h.1)];rfl
 · rw[if_neg h91,decide_eq_false h91]
   refine ae.no rfl ?_
   have hv:cQ s=if cC (th (bS 46 [] (ir s)))=true then(v4V s).map λa=>⟨2,[],a⟩ else if s.length <=253/\(bS 46 [] (ir s)).all bs=true then some ⟨1,ir s,ad0⟩ else none:=by unfold cQ;rw[if_neg h91]
   refine ax (vU s (by omega) w2) ?_
   rintro _ w3 ⟨rfl,hb3⟩
   have hB3:=ab hB2 hb3 hB2.size
   refine⟨_,rfl,?_⟩
   have ll:(ir s).length=s.length:=by simp[ir]
   refine ax (mA (ir s) 46 (by omega) w3 (he.step hB3)) ?_
   rintro _ w4 ⟨a,n,c,rfl,ho,hf,hb4⟩
   have hB4:=ab hB3 hb4 hB3.size
   have h24:=(h2.below hb3).below hb4
   have hn:=ho.len
   subst hn
   have hlens:∀x∈bS 46 [] (ir s),x.length <=s.length:=λx hx=>by have:=kH 46 (ir s) [] x hx;simp[ll]at this;omega
   have hcn:=kn 46 (ir s) []
   have hnz:0<(bS 46 [] (ir s)).length:=List.length_pos_iff.2 (mW 46 (ir s) [])
   have hjoin:=jm 46 (ir s) []
   refine⟨_,_,_,rfl,?_⟩
   generalize bS 46 [] (ir s)=L at*
   have ei:i64.wrap (((L.length:Nat):Int)-1)=((L.length-1:Nat):Int):=by rw[wrap_i64 (by omega) (by omega)];omega
   try dsimp only
   rw[ei]
   refine⟨⟨⟨by omega,by omega⟩,ho.all.isSome hnz⟩,_,ho.all.text aA (by omega),?_⟩
   rw[<- rc hnz]
   have hll:(th L).length <=s.length:=by rw[rc hnz];exact hlens _ (List.getElem_mem _)
   refine ax (oZ (th L) (by omega) w4) ?_
   rintro _ w5 ⟨rfl,hb5⟩
   have hB5:=ab hB4 hb5 hB4.size
   have h25:=h24.below hb5
   refine⟨_,rfl,ae.of (λhd=>?_) (λhd=>?_)⟩
   · rw[if_pos hd]at hv
     refine ax (JV s (by omega) w5 (he.step hB5)) ?_
     rintro _ w6 ⟨rfl,hb6⟩
     have hB6:=ab hB5 hb6 hB5.size
     refine⟨_,_,by rw[vL],?_⟩
     have hal:=pT (N7 s)
     refine bh.new (zs:=adC ad0) (cs:=adC ((v4V s).getD ad0)) rfl hal (cA _) w6 λk8 w8 hk8 h8 hb8=>?_
     have hB8:=ab hB6 hb8 hB6.size
     have h28:=(h25.below hb6).below hb8
     refine⟨_,bh.load0 h8 hal,?_⟩
     refine ax (oV 2 _ (by rw[<- bX];exact hal) _ w8) ?_
     rintro _ w9 ⟨rfl,hb9⟩
     have hB9:=ab hB8 hb9 hB8.size
     refine⟨_,_,by rw[nV],?_⟩
     refine fin _ (λx hx=>?_) ?_ (h28.below hb9) hB9
     · split at hx
       · cases hx;show((v4V s).getD ad0).length=16;rw[<- bX];exact hal
       · cases hx
     · rw[hv]
       cases v4V s <;> rfl
   · rw[if_neg (by rw[hd];decide)]at hv
     have hbad: ¬ (s.length <=253/\L.all bs=true)->cQ s=none:=λh=>by rw[hv,if_neg h]
     refine fY (λw'=>(s.length <=253/\L.all bs=true)/\bW w5 w') ?_ ?_
     · refine QI (λb w'=>b=(!decide (s.length <=253/\L.all bs=true))/\bW w5 w') ?_ ?_
       · refine ae.of (λh=>⟨?_,Below.refl _ _⟩) (λh=>?_) <;> simp only[gt_iff_lt,dTx,dFx]at h
         · rw[decide_eq_false (λhc=>by have:=hc.1;omega)];rfl
         · refine ax (L4 (A:=kj) (ho.below hb5).all (λx hx=>by have:=hlens x hx;omega) (by omega)) ?_
           rintro _ w6 ⟨rfl,hb6⟩
           refine⟨_,rfl,?_,hb6⟩
           have h253:s.length <=253:=by omega
           congr 1
           rw[Bool.eq_iff_iff,dTx]
           exact⟨λh=>⟨h253,h⟩,λh=>h.2⟩
       · rintro b w6 ⟨rfl,hb6⟩
         refine ae.of (λh=>?_) (λh=>⟨by rw[Bool.not_eq_false']at h;exact of_decide_eq_true h,hb6⟩)
         exact fin none (λx hx=>by cases hx) (hbad (by rw[Bool.not_eq_true']at h;exact of_decide_eq_false h)) (h25.below hb6) (ab hB5 hb6 hB5.size)
     · rintro w6 ⟨hgood,hb6⟩
       have hB6:=ab hB5 hb6 hB5.size
       refine ax (FG ((ho.below hb5).below hb6).all [46] (by omega) (by rw[hjoin];simp[ll];omega)) ?_
       rintro _ w7 ⟨rfl,hb7⟩
       have hB7:=ab hB6 hb7 hB6.size
       rw[hjoin,List.nil_append]
       refine⟨_,rfl,?_⟩
       exact fin (some ⟨1,ir s,ad0⟩) (λx hx=>by cases hx;rfl) (by rw[hv,if_pos hgood]) ((h25.below hb6).below hb7) hB7
end Go.Pk
