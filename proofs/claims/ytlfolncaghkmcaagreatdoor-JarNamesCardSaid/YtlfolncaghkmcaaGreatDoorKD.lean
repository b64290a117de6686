/- What the laws lean on: Shelf, DateE, DateF, DateG, DateH, DateI, DateJ, DateK, DateL, DateM, DateN, DateO, DateR, DateS, DateT, HdrA, HdrB, HdrC, Big; what is used. Its conditions: none. -/
import Derived.Test.YtlfolncaghkmcaaGreatDoorKC
import Derived.Shelf.Strings.SlTrimAscii
import Derived.Shelf.Strings.Builder1
import Derived.Shelf.Strings.Builder2
import Derived.Shelf.Strings.OnBuilder
import Derived.Shelf.Strings.Trim
import Derived.Shelf.Small.Utf8
import Derived.Shelf.Small.Bits
import Derived.Shelf.Small.Strs
import Derived.Shelf.Small.Wraps
import Derived.Shelf.Strings.BuilderF
import Derived.Shelf.Strings.BuilderK
import Derived.Shelf.Utf8.RuneCount
import Derived.Shelf.Strings.Builder2Cap
import Derived.Shelf.Strconv.Atoi
import Derived.Shelf.Strconv.Itoa0
import Derived.Shelf.Strconv.Itoa1
import Derived.Shelf.LaysM
import Derived.Shelf.Strconv.Itoa2
import Derived.Shelf.Strconv.Itoa3
import Derived.Shelf.Strconv.AtoiErrFast
import Derived.Shelf.Strconv.ParseIntEmpty
import Derived.Shelf.Strconv.AtoiFail
import Derived.Shelf.Strconv.Clone
import Derived.Shelf.Strconv.SyntaxError
import Derived.Shelf.Strconv.Lower
import Derived.Shelf.Strconv.ParseUint10
import Derived.Shelf.Strconv.ParseUint10Empty
import Derived.Shelf.Strconv.RangeError
import Derived.Shelf.Strconv.ParseUintEmpty
import Derived.Shelf.Strconv.ParseUint10b64
import Derived.Shelf.Strconv.ParseUint10b32
import Derived.Shelf.Strconv.ParseUint10b16
import Derived.Shelf.Strconv.ParseUint10b8
import Derived.Shelf.Strings.Search1
import Derived.Shelf.Strings.Search2
import Derived.Shelf.Strings.Search3
import Derived.Shelf.Strings.Cut
import Derived.Shelf.Strings.Count
import Derived.Shelf.Strings.Shaped
import Derived.Shelf.Strings.LastIndex
import Derived.Shelf.Strings.Prefix
import Derived.Shelf.Strings.Split
import Derived.Shelf.Strings.SplitShaped
import Derived.Shelf.Unicode.Decode
import Derived.Shelf.Strings.Runes
import Derived.Shelf.Strings.RuneCount
import Derived.Shelf.Strings.IndexAny
import Derived.Shelf.Strings.AsciiSet
import Derived.Shelf.Strings.IndexAnyAll
import Derived.Shelf.Strings.Explode
import Derived.Shelf.Bits.Mul64
import Derived.Shelf.Strings.Repeat
import Derived.Shelf.Unicode.DecodeSlow
import Derived.Shelf.Unicode.DecodeAny
import Derived.Shelf.Unicode.DecodeLast
import Derived.Test.YtlfolncaghkmcaaGreatDoorProg
import Derived.Lib.ItoaMem
import Derived.Lib.LaidTab
open Go.IntKind (i64)
open Go.Proofs.Tryz (prog)
namespace Go.Proofs
open Go.Shelf
open Go.RowKit in
open Go.RowKit in
open Go.RowKit in
open Go.RowKit in
open Go.RowKit in
open Go.RowKit in
def Tryz.lays156_ren : Go.Shelf.Ren := ⟨fun | 156 => 49 | 165 => 98 | 166 => 99 | 169 => 100 | 240 => 166 | 241 => 167 | 276 => 222 | 277 => 223 | n => n, fun | 31 => 104 | 9 => 9 | 3 => 3 | 4 => 4 | 0 => 0 | 20 => 20 | 72 => 170 | 76 => 174 | 70 => 168 | 37 => 43 | 75 => 173 | 127 => 229 | 164 => 263 | 5 => 5 | 80 => 176 | n => n, fun | n => n⟩
theorem Tryz.lays156 : Go.Proofs.Lays.n156 prog Tryz.lays156_ren := {
 mixed := by kernel_rfl
 f156 := Tryz.func49.trans (congrArg some (by kernel_rfl))
 f165 := Tryz.func98.trans (congrArg some (by kernel_rfl))
 f166 := Tryz.func99.trans (congrArg some (by kernel_rfl))
 f169 := Tryz.func100.trans (congrArg some (by kernel_rfl))
 f240 := Tryz.func166.trans (congrArg some (by kernel_rfl))
 f241 := Tryz.func167.trans (congrArg some (by kernel_rfl))
 f276 := Tryz.func222.trans (congrArg some (by kernel_rfl))
 f277 := Tryz.func223.trans (congrArg some (by kernel_rfl))
 t0 := Tryz.underlying0
 a0 := Tryz.isAgg0
 z0 := Tryz.sizeOf0
 v0 := Tryz.zeroValue0
 t3 := Tryz.underlying3
 a3 := Tryz.isAgg3
 z3 := Tryz.sizeOf3
 v3 := Tryz.zeroValue3
 t4 := Tryz.underlying4
 a4 := Tryz.isAgg4
 z4 := Tryz.sizeOf4
 v4 := Tryz.zeroValue4
 t9 := Tryz.underlying9
 a9 := Tryz.isAgg9
 z9 := Tryz.sizeOf9
 v9 := Tryz.zeroValue9
 t20 := Tryz.underlying20
 a20 := Tryz.isAgg20
 z20 := Tryz.sizeOf20
 v20 := Tryz.zeroValue20
 t31 := Tryz.underlying104
 a31 := Tryz.isAgg104
 z31 := Tryz.sizeOf104
 v31 := Tryz.zeroValue104
 t37 := Tryz.underlying43
 a37 := Tryz.isAgg43
 z37 := Tryz.sizeOf43
 v37 := Tryz.zeroValue43
 t70 := Tryz.underlying168
 a70 := Tryz.isAgg168
 z70 := Tryz.sizeOf168
 v70 := Tryz.zeroValue168
 t72 := Tryz.underlying170
 a72 := Tryz.isAgg170
 z72 := Tryz.sizeOf170
 v72 := Tryz.zeroValue170
 t75 := Tryz.underlying173
 a75 := Tryz.isAgg173
 z75 := Tryz.sizeOf173
 v75 := Tryz.zeroValue173
 t76 := Tryz.underlying174
 a76 := Tryz.isAgg174
 z76 := Tryz.sizeOf174
 v76 := Tryz.zeroValue174
 t127 := Tryz.underlying229
 a127 := Tryz.isAgg229
 z127 := Tryz.sizeOf229
 v127 := Tryz.zeroValue229
 t164 := Tryz.underlying263
 a164 := Tryz.isAgg263
 z164 := Tryz.sizeOf263
 v164 := Tryz.zeroValue263 }
theorem Tryz.Builder_Extra_156 : Builder.Extra prog Tryz.lays156_ren := {
 sizeBuilder := by kernel_rfl
 liesBuilder := by kernel_rfl
 t5 := Tryz.underlying5
 a5 := Tryz.isAgg5
 z5 := Tryz.sizeOf5
 v5 := Tryz.zeroValue5
 infoByte := by kernel_rfl
 cellsByte := by kernel_rfl
 sizeByte := by kernel_rfl
 neB5 := by decide }
open Go.RowKit in
theorem Tryz.strings_Join_none (a : Option Addr) (c : Nat) (sep : ByteArray) (w : World) :
   Calls prog 49 #[.slice a 0 c, .string sep] w fun e w' => e = .returned (.string ⟨#[]⟩) /\ w' = w := Any.strings_Join_none Tryz.lays156 Tryz.Builder_Extra_156 a c sep w
open Go.RowKit in
theorem Tryz.strings_Join (bk o c : Nat) (xs : List ByteArray) (sep : ByteArray) (w : World) (hcells : ∀ (j : Nat) x, xs[j]? = some x -> w.cell? ⟨bk, o + j, none⟩ = some (.string x)) (hbk : bk < w.heap.size) (hN : xs.length <= 140737488355328) (hcap : xs.length <= c) (hlen : (Lib.join (xs.map (·.data.toList)) sep.data.toList).length <= 140737488355328) :
   Calls prog 49 #[.slice (some ⟨bk, o, none⟩) xs.length c, .string sep] w fun e w' => e = .returned (.string ⟨(Lib.join (xs.map (·.data.toList)) sep.data.toList).toArray⟩) /\ Below w.heap.size w w' := Any.strings_Join Tryz.lays156 Tryz.Builder_Extra_156 bk o c xs sep w hcells hbk hN hcap hlen
open Go.RowKit in
open Go.RowKit in
def Tryz.lays161_ren : Go.Shelf.Ren := ⟨fun | 161 => 194 | 231 => 170 | 227 => 107 | 233 => 172 | 235 => 174 | 228 => 108 | 197 => 226 | 151 => 227 | 260 => 264 | 152 => 105 | 137 => 176 | 119 => 177 | 224 => 178 | 225 => 179 | 217 => 229 | 266 => 266 | n => n, fun | 9 => 9 | 4 => 4 | 3 => 3 | 5 => 5 | 117 => 182 | 116 => 181 | 0 => 0 | 124 => 232 | 105 => 266 | 21 => 21 | 119 => 299 | 46 => 167 | 139 => 302 | 138 => 301 | n => n, fun | 3 => 1 | 4 => 2 | n => n⟩
theorem Tryz.lays161 : Go.Proofs.Lays.n161 prog Tryz.lays161_ren := {
 mixed := by kernel_rfl
 f119 := Tryz.func177.trans (congrArg some (by kernel_rfl))
 f137 := Tryz.func176.trans (congrArg some (by kernel_rfl))
 f151 := Tryz.func227.trans (congrArg some (by kernel_rfl))
 f152 := Tryz.func105.trans (congrArg some (by kernel_rfl))
 f161 := Tryz.func194.trans (congrArg some (by kernel_rfl))
 f197 := Tryz.func226.trans (congrArg some (by kernel_rfl))
 f217 := Tryz.func229.trans (congrArg some (by kernel_rfl))
 f224 := Tryz.func178.trans (congrArg some (by kernel_rfl))
 f225 := Tryz.func179.trans (congrArg some (by kernel_rfl))
 f227 := Tryz.func107.trans (congrArg some (by kernel_rfl))
 f228 := Tryz.func108.trans (congrArg some (by kernel_rfl))
 f231 := Tryz.func170.trans (congrArg some (by kernel_rfl))
 f233 := Tryz.func172.trans (congrArg some (by kernel_rfl))
 f235 := Tryz.func174.trans (congrArg some (by kernel_rfl))
 f260 := Tryz.func264.trans (congrArg some (by kernel_rfl))
 f266 := Tryz.func266.trans (congrArg some (by kernel_rfl))
 t0 := Tryz.underlying0
 a0 := Tryz.isAgg0
 z0 := Tryz.sizeOf0
 v0 := Tryz.zeroValue0
 t3 := Tryz.underlying3
 a3 := Tryz.isAgg3
 z3 := Tryz.sizeOf3
 v3 := Tryz.zeroValue3
 t4 := Tryz.underlying4
 a4 := Tryz.isAgg4
 z4 := Tryz.sizeOf4
 v4 := Tryz.zeroValue4
 t5 := Tryz.underlying5
 a5 := Tryz.isAgg5
 z5 := Tryz.sizeOf5
 v5 := Tryz.zeroValue5
 t9 := Tryz.underlying9
 a9 := Tryz.isAgg9
 z9 := Tryz.sizeOf9
 v9 := Tryz.zeroValue9
 t21 := Tryz.underlying21
 a21 := Tryz.isAgg21
 z21 := Tryz.sizeOf21
 v21 := Tryz.zeroValue21
 t46 := Tryz.underlying167
 a46 := Tryz.isAgg167
 z46 := Tryz.sizeOf167
 v46 := Tryz.zeroValue167
 t105 := Tryz.underlying266
 a105 := Tryz.isAgg266
 z105 := Tryz.sizeOf266
 v105 := Tryz.zeroValue266
 t116 := Tryz.underlying181
 a116 := Tryz.isAgg181
 z116 := Tryz.sizeOf181
 t117 := Tryz.underlying182
 a117 := Tryz.isAgg182
 z117 := Tryz.sizeOf182
 v117 := Tryz.zeroValue182
 t119 := Tryz.underlying299
 a119 := Tryz.isAgg299
 z119 := Tryz.sizeOf299
 t124 := Tryz.underlying232
 a124 := Tryz.isAgg232
 z124 := Tryz.sizeOf232
 v124 := Tryz.zeroValue232
 t138 := Tryz.underlying301
 a138 := Tryz.isAgg301
 z138 := Tryz.sizeOf301
 v138 := Tryz.zeroValue301
 t139 := Tryz.underlying302
 a139 := Tryz.isAgg302
 z139 := Tryz.sizeOf302
 v139 := Tryz.zeroValue302
 g3 := by kernel_rfl
 g4 := by kernel_rfl }
open Go.RowKit in
theorem Tryz.strings_TrimLeft_one (s : ByteArray) (c : UInt8) (hc : c.toNat < 128) (w : World) :
   Calls prog 194 #[.string s, .string ⟨#[c]⟩] w fun e w' => e = .returned (.string ⟨(Lib.trimLeftB s.data.toList c).toArray⟩) /\ w' = w := Any.strings_TrimLeft_one Tryz.lays161 s c hc w
def Tryz.lays160_ren : Go.Shelf.Ren := ⟨fun | 160 => 103 | 232 => 171 | 231 => 170 | 227 => 107 | 234 => 173 | 233 => 172 | 236 => 175 | 235 => 174 | 228 => 108 | 271 => 228 | 151 => 227 | 197 => 226 | 120 => 265 | 152 => 105 | 260 => 264 | 137 => 176 | 119 => 177 | 224 => 178 | 225 => 179 | 217 => 229 | 266 => 266 | n => n, fun | 9 => 9 | 4 => 4 | 3 => 3 | 5 => 5 | 117 => 182 | 116 => 181 | 0 => 0 | 124 => 232 | 21 => 21 | 105 => 266 | 46 => 167 | 119 => 299 | 139 => 302 | 138 => 301 | n => n, fun | 3 => 1 | 4 => 2 | n => n⟩
theorem Tryz.lays160 : Go.Proofs.Lays.n160 prog Tryz.lays160_ren := {
 mixed := by kernel_rfl
 f119 := Tryz.func177.trans (congrArg some (by kernel_rfl))
 f120 := Tryz.func265.trans (congrArg some (by kernel_rfl))
 f137 := Tryz.func176.trans (congrArg some (by kernel_rfl))
 f151 := Tryz.func227.trans (congrArg some (by kernel_rfl))
 f152 := Tryz.func105.trans (congrArg some (by kernel_rfl))
 f160 := Tryz.func103.trans (congrArg some (by kernel_rfl))
 f197 := Tryz.func226.trans (congrArg some (by kernel_rfl))
 f217 := Tryz.func229.trans (congrArg some (by kernel_rfl))
 f224 := Tryz.func178.trans (congrArg some (by kernel_rfl))
 f225 := Tryz.func179.trans (congrArg some (by kernel_rfl))
 f227 := Tryz.func107.trans (congrArg some (by kernel_rfl))
 f228 := Tryz.func108.trans (congrArg some (by kernel_rfl))
 f231 := Tryz.func170.trans (congrArg some (by kernel_rfl))
 f232 := Tryz.func171.trans (congrArg some (by kernel_rfl))
 f233 := Tryz.func172.trans (congrArg some (by kernel_rfl))
 f234 := Tryz.func173.trans (congrArg some (by kernel_rfl))
 f235 := Tryz.func174.trans (congrArg some (by kernel_rfl))
 f236 := Tryz.func175.trans (congrArg some (by kernel_rfl))
 f260 := Tryz.func264.trans (congrArg some (by kernel_rfl))
 f266 := Tryz.func266.trans (congrArg some (by kernel_rfl))
 f271 := Tryz.func228.trans (congrArg some (by kernel_rfl))
 t0 := Tryz.underlying0
 a0 := Tryz.isAgg0
 z0 := Tryz.sizeOf0
 v0 := Tryz.zeroValue0
 t3 := Tryz.underlying3
 a3 := Tryz.isAgg3
 z3 := Tryz.sizeOf3
 v3 := Tryz.zeroValue3
 t4 := Tryz.underlying4
 a4 := Tryz.isAgg4
 z4 := Tryz.sizeOf4
 v4 := Tryz.zeroValue4
 t5 := Tryz.underlying5
 a5 := Tryz.isAgg5
 z5 := Tryz.sizeOf5
 v5 := Tryz.zeroValue5
 t9 := Tryz.underlying9
 a9 := Tryz.isAgg9
 z9 := Tryz.sizeOf9
 v9 := Tryz.zeroValue9
 t21 := Tryz.underlying21
 a21 := Tryz.isAgg21
 z21 := Tryz.sizeOf21
 v21 := Tryz.zeroValue21
 t46 := Tryz.underlying167
 a46 := Tryz.isAgg167
 z46 := Tryz.sizeOf167
 v46 := Tryz.zeroValue167
 t105 := Tryz.underlying266
 a105 := Tryz.isAgg266
 z105 := Tryz.sizeOf266
 v105 := Tryz.zeroValue266
 t116 := Tryz.underlying181
 a116 := Tryz.isAgg181
 z116 := Tryz.sizeOf181
 t117 := Tryz.underlying182
 a117 := Tryz.isAgg182
 z117 := Tryz.sizeOf182
 v117 := Tryz.zeroValue182
 t119 := Tryz.underlying299
 a119 := Tryz.isAgg299
 z119 := Tryz.sizeOf299
 t124 := Tryz.underlying232
 a124 := Tryz.isAgg232
 z124 := Tryz.sizeOf232
 v124 := Tryz.zeroValue232
 t138 := Tryz.underlying301
 a138 := Tryz.isAgg301
 z138 := Tryz.sizeOf301
 v138 := Tryz.zeroValue301
 t139 := Tryz.underlying302
 a139 := Tryz.isAgg302
 z139 := Tryz.sizeOf302
 v139 := Tryz.zeroValue302
 g3 := by kernel_rfl
 g4 := by kernel_rfl }
open Go.RowKit in
theorem Tryz.strings_Trim_one (s : ByteArray) (c : UInt8) (hc : c.toNat < 128) (w : World) (hs : s.size <= 9223372036854775807) :
   Calls prog 103 #[.string s, .string ⟨#[c]⟩] w fun e w' => e = .returned (.string ⟨(Lib.trimB s.data.toList c).toArray⟩) /\ (w' = w \/ w' = w.drew) := Any.strings_Trim_one Tryz.lays160 s c hc w hs
def Tryz.lays119_ren : Go.Shelf.Ren := ⟨fun | 119 => 177 | n => n, fun | 21 => 21 | 4 => 4 | n => n, fun | n => n⟩
theorem Tryz.lays119 : Go.Proofs.Lays.n119 prog Tryz.lays119_ren := {
 mixed := by kernel_rfl
 f119 := Tryz.func177.trans (congrArg some (by kernel_rfl))
 t4 := Tryz.underlying4
 a4 := Tryz.isAgg4
 z4 := Tryz.sizeOf4
 v4 := Tryz.zeroValue4
 t21 := Tryz.underlying21
 a21 := Tryz.isAgg21
 z21 := Tryz.sizeOf21
 v21 := Tryz.zeroValue21 }
theorem Tryz.utf8_ValidRune (r : Int) (w : World) :
   Calls prog 177 #[.int .i32 r] w fun e w' => e = .returned (.bool (Lib.validRune r)) /\ w' = w := Any.utf8_ValidRune Tryz.lays119 r w
def Tryz.lays137_ren : Go.Shelf.Ren := ⟨fun | 137 => 176 | 217 => 229 | 266 => 266 | n => n, fun | 9 => 9 | 5 => 5 | 3 => 3 | n => n, fun | n => n⟩
theorem Tryz.lays137 : Go.Proofs.Lays.n137 prog Tryz.lays137_ren := {
 mixed := by kernel_rfl
 f137 := Tryz.func176.trans (congrArg some (by kernel_rfl))
 f217 := Tryz.func229.trans (congrArg some (by kernel_rfl))
 f266 := Tryz.func266.trans (congrArg some (by kernel_rfl))
 t3 := Tryz.underlying3
 a3 := Tryz.isAgg3
 z3 := Tryz.sizeOf3
 v3 := Tryz.zeroValue3
 t5 := Tryz.underlying5
 a5 := Tryz.isAgg5
 z5 := Tryz.sizeOf5
 v5 := Tryz.zeroValue5
 t9 := Tryz.underlying9
 a9 := Tryz.isAgg9
 z9 := Tryz.sizeOf9
 v9 := Tryz.zeroValue9 }
open Go.RowKit in
theorem Tryz.strings_IndexByte (s : ByteArray) (c : Int) (w : World) :
   Calls prog 176 #[.string s, .int .u8 c] w fun e w' => e = .returned (.int .i64 (Lib.indexByte s.data.toList c.toNat.toUInt8)) /\ w' = w := Any.strings_IndexByte Tryz.lays137 s c w
open Go.RowKit in
def Tryz.lays103_ren : Go.Shelf.Ren := ⟨fun | 103 => 109 | 210 => 180 | 206 => 104 | n => n, fun | 9 => 9 | 4 => 4 | 24 => 186 | 3 => 3 | n => n, fun | n => n⟩
theorem Tryz.lays103 : Go.Proofs.Lays.n103 prog Tryz.lays103_ren := {
 mixed := by kernel_rfl
 f103 := Tryz.func109.trans (congrArg some (by kernel_rfl))
 f206 := Tryz.func104.trans (congrArg some (by kernel_rfl))
 f210 := Tryz.func180.trans (congrArg some (by kernel_rfl))
 t3 := Tryz.underlying3
 a3 := Tryz.isAgg3
 z3 := Tryz.sizeOf3
 v3 := Tryz.zeroValue3
 t4 := Tryz.underlying4
 a4 := Tryz.isAgg4
 z4 := Tryz.sizeOf4
 v4 := Tryz.zeroValue4
 t9 := Tryz.underlying9
 a9 := Tryz.isAgg9
 z9 := Tryz.sizeOf9
 v9 := Tryz.zeroValue9
 t24 := Tryz.underlying186
 a24 := Tryz.isAgg186
 z24 := Tryz.sizeOf186
 v24 := Tryz.zeroValue186 }
open Go.RowKit in
theorem Tryz.strings_CutPrefix (s p : ByteArray) (w : World) :
   Calls prog 109 #[.string s, .string p] w fun e w' => e = .returned (.tuple #[.string ⟨(Lib.trimPrefix s.data.toList p.data.toList).toArray⟩, .bool (Lib.hasPrefix s.data.toList p.data.toList)]) /\ w' = w := Any.strings_CutPrefix Tryz.lays103 s p w
open Go.RowKit in
def Tryz.lays104_ren : Go.Shelf.Ren := ⟨fun | 104 => 110 | 211 => 181 | 207 => 198 | n => n, fun | 9 => 9 | 4 => 4 | 24 => 186 | 3 => 3 | n => n, fun | n => n⟩
theorem Tryz.lays104 : Go.Proofs.Lays.n104 prog Tryz.lays104_ren := {
 mixed := by kernel_rfl
 f104 := Tryz.func110.trans (congrArg some (by kernel_rfl))
 f207 := Tryz.func198.trans (congrArg some (by kernel_rfl))
 f211 := Tryz.func181.trans (congrArg some (by kernel_rfl))
 t3 := Tryz.underlying3
 a3 := Tryz.isAgg3
 z3 := Tryz.sizeOf3
 v3 := Tryz.zeroValue3
 t4 := Tryz.underlying4
 a4 := Tryz.isAgg4
 z4 := Tryz.sizeOf4
 v4 := Tryz.zeroValue4
 t9 := Tryz.underlying9
 a9 := Tryz.isAgg9
 z9 := Tryz.sizeOf9
 v9 := Tryz.zeroValue9
 t24 := Tryz.underlying186
 a24 := Tryz.isAgg186
 z24 := Tryz.sizeOf186
 v24 := Tryz.zeroValue186 }
open Go.RowKit in
theorem Tryz.strings_CutSuffix (s p : ByteArray) (w : World) (hs : s.size <= 9223372036854775807) :
   Calls prog 110 #[.string s, .string p] w fun e w' => e = .returned (.tuple #[.string ⟨(Lib.trimSuffix s.data.toList p.data.toList).toArray⟩, .bool (Lib.hasSuffix s.data.toList p.data.toList)]) /\ w' = w := Any.strings_CutSuffix Tryz.lays104 s p w hs
open Go.RowKit in
open Go.RowKit in
open Go.RowKit in
open Go.RowKit in
open Go.RowKit in
open Go.RowKit in
open Go.RowKit in
open Go.RowKit in
open Go.RowKit in
open Go.RowKit in
open Go.RowKit in
def Tryz.lays172_ren : Go.Shelf.Ren := ⟨fun | 172 => 270 | 244 => 283 | 245 => 284 | 247 => 293 | 279 => 294 | 280 => 295 | 281 => 296 | 282 => 297 | 287 => 305 | 316 => 306 | 171 => 199 | 205 => 307 | 321 => 312 | 322 => 313 | 243 => 244 | 246 => 274 | 283 => 286 | 284 => 287 | 285 => 288 | 286 => 289 | 129 => 165 | 317 => 300 | 318 => 301 | 319 => 302 | 320 => 303 | 337 => 310 | 338 => 311 | n => n, fun | 9 => 9 | 3 => 3 | 75 => 173 | 76 => 174 | 4 => 4 | 5 => 5 | 167 => 313 | 37 => 43 | 0 => 0 | 85 => 314 | 2 => 2 | 168 => 316 | 53 => 228 | 175 => 324 | 46 => 167 | 210 => 327 | 127 => 229 | 145 => 335 | 143 => 333 | 21 => 21 | 171 => 307 | 173 => 309 | 212 => 322 | 51 => 226 | 20 => 20 | 213 => 323 | 232 => 336 | 233 => 337 | 80 => 176 | n => n, fun | 15 => 4 | 16 => 5 | 17 => 3 | 18 => 6 | 19 => 7 | n => n⟩
theorem Tryz.lays172 : Go.Proofs.Lays.n172 prog Tryz.lays172_ren := {
 mixed := by kernel_rfl
 f129 := Tryz.func165.trans (congrArg some (by kernel_rfl))
 f171 := Tryz.func199.trans (congrArg some (by kernel_rfl))
 f172 := Tryz.func270.trans (congrArg some (by kernel_rfl))
 f205 := Tryz.func307.trans (congrArg some (by kernel_rfl))
 f243 := Tryz.func244.trans (congrArg some (by kernel_rfl))
 f244 := Tryz.func283.trans (congrArg some (by kernel_rfl))
 f245 := Tryz.func284.trans (congrArg some (by kernel_rfl))
 f246 := Tryz.func274.trans (congrArg some (by kernel_rfl))
 f247 := Tryz.func293.trans (congrArg some (by kernel_rfl))
 f279 := Tryz.func294.trans (congrArg some (by kernel_rfl))
 f280 := Tryz.func295.trans (congrArg some (by kernel_rfl))
 f281 := Tryz.func296.trans (congrArg some (by kernel_rfl))
 f282 := Tryz.func297.trans (congrArg some (by kernel_rfl))
 f283 := Tryz.func286.trans (congrArg some (by kernel_rfl))
 f284 := Tryz.func287.trans (congrArg some (by kernel_rfl))
 f285 := Tryz.func288.trans (congrArg some (by kernel_rfl))
 f286 := Tryz.func289.trans (congrArg some (by kernel_rfl))
 f287 := Tryz.func305.trans (congrArg some (by kernel_rfl))
 f316 := Tryz.func306.trans (congrArg some (by kernel_rfl))
 f317 := Tryz.func300.trans (congrArg some (by kernel_rfl))
 f318 := Tryz.func301.trans (congrArg some (by kernel_rfl))
 f319 := Tryz.func302.trans (congrArg some (by kernel_rfl))
 f320 := Tryz.func303.trans (congrArg some (by kernel_rfl))
 f321 := Tryz.func312.trans (congrArg some (by kernel_rfl))
 f322 := Tryz.func313.trans (congrArg some (by kernel_rfl))
 f337 := Tryz.func310.trans (congrArg some (by kernel_rfl))
 f338 := Tryz.func311.trans (congrArg some (by kernel_rfl))
 t0 := Tryz.underlying0
 a0 := Tryz.isAgg0
 z0 := Tryz.sizeOf0
 v0 := Tryz.zeroValue0
 t2 := Tryz.underlying2
 a2 := Tryz.isAgg2
 z2 := Tryz.sizeOf2
 v2 := Tryz.zeroValue2
 t3 := Tryz.underlying3
 a3 := Tryz.isAgg3
 z3 := Tryz.sizeOf3
 v3 := Tryz.zeroValue3
 t4 := Tryz.underlying4
 a4 := Tryz.isAgg4
 z4 := Tryz.sizeOf4
 v4 := Tryz.zeroValue4
 t5 := Tryz.underlying5
 a5 := Tryz.isAgg5
 z5 := Tryz.sizeOf5
 v5 := Tryz.zeroValue5
 t9 := Tryz.underlying9
 a9 := Tryz.isAgg9
 z9 := Tryz.sizeOf9
 v9 := Tryz.zeroValue9
 t20 := Tryz.underlying20
 a20 := Tryz.isAgg20
 z20 := Tryz.sizeOf20
 v20 := Tryz.zeroValue20
 t21 := Tryz.underlying21
 a21 := Tryz.isAgg21
 z21 := Tryz.sizeOf21
 v21 := Tryz.zeroValue21
 t37 := Tryz.underlying43
 a37 := Tryz.isAgg43
 z37 := Tryz.sizeOf43
 v37 := Tryz.zeroValue43
 t46 := Tryz.underlying167
 a46 := Tryz.isAgg167
 z46 := Tryz.sizeOf167
 v46 := Tryz.zeroValue167
 t51 := Tryz.underlying226
 a51 := Tryz.isAgg226
 z51 := Tryz.sizeOf226
 v51 := Tryz.zeroValue226
 t53 := Tryz.underlying228
 a53 := Tryz.isAgg228
 z53 := Tryz.sizeOf228
 v53 := Tryz.zeroValue228
 t75 := Tryz.underlying173
 a75 := Tryz.isAgg173
 z75 := Tryz.sizeOf173
 v75 := Tryz.zeroValue173
 t76 := Tryz.underlying174
 a76 := Tryz.isAgg174
 z76 := Tryz.sizeOf174
 v76 := Tryz.zeroValue174
 t85 := Tryz.underlying314
 a85 := Tryz.isAgg314
 z85 := Tryz.sizeOf314
 v85 := Tryz.zeroValue314
 t127 := Tryz.underlying229
 a127 := Tryz.isAgg229
 z127 := Tryz.sizeOf229
 v127 := Tryz.zeroValue229
 t143 := Tryz.underlying333
 a143 := Tryz.isAgg333
 z143 := Tryz.sizeOf333
 v143 := Tryz.zeroValue333
 t145 := Tryz.underlying335
 a145 := Tryz.isAgg335
 z145 := Tryz.sizeOf335
 v145 := Tryz.zeroValue335
 t167 := Tryz.underlying313
 a167 := Tryz.isAgg313
 z167 := Tryz.sizeOf313
 v167 := Tryz.zeroValue313
 t168 := Tryz.underlying316
 a168 := Tryz.isAgg316
 z168 := Tryz.sizeOf316
 v168 := Tryz.zeroValue316
 t171 := Tryz.underlying307
 a171 := Tryz.isAgg307
 z171 := Tryz.sizeOf307
 v171 := Tryz.zeroValue307
 t173 := Tryz.underlying309
 a173 := Tryz.isAgg309
 z173 := Tryz.sizeOf309
 v173 := Tryz.zeroValue309
 t175 := Tryz.underlying324
 a175 := Tryz.isAgg324
 z175 := Tryz.sizeOf324
 v175 := Tryz.zeroValue324
 t210 := Tryz.underlying327
 a210 := Tryz.isAgg327
 z210 := Tryz.sizeOf327
 v210 := Tryz.zeroValue327
 t212 := Tryz.underlying322
 a212 := Tryz.isAgg322
 z212 := Tryz.sizeOf322
 v212 := Tryz.zeroValue322
 t213 := Tryz.underlying323
 a213 := Tryz.isAgg323
 z213 := Tryz.sizeOf323
 t232 := Tryz.underlying336
 a232 := Tryz.isAgg336
 z232 := Tryz.sizeOf336
 v232 := Tryz.zeroValue336
 t233 := Tryz.underlying337
 a233 := Tryz.isAgg337
 z233 := Tryz.sizeOf337
 v233 := Tryz.zeroValue337
 g15 := by kernel_rfl
 g16 := by kernel_rfl
 g17 := by kernel_rfl
 g18 := by kernel_rfl
 g19 := by kernel_rfl }
open Go.RowKit in
theorem Tryz.strconv_Atoi (s : ByteArray) (n : Int) (hl : s.size <= 18) (h : Lib.atoi s.data.toList = some n) (w : World) :
   Calls prog 270 #[.string s] w fun e w' => e = .returned (.tuple #[.int .i64 n, .nilIface]) /\ ∃ t, w' = Lib.bytesWorld w 5 t := Any.strconv_Atoi Tryz.lays172 s n hl h w
open Go.Lib in
open Go.Lib in
open Go.Lib in
open Go.Lib in
open Go.RowKit Go.Sort Go.Lib in
def Tryz.laysM246_ren : Go.Shelf.Ren := ⟨fun | 246 => 274 | 283 => 286 | 284 => 287 | 285 => 288 | 286 => 289 | 129 => 165 | 317 => 300 | 318 => 301 | 319 => 302 | 320 => 303 | 337 => 310 | 338 => 311 | n => n, fun | 2 => 2 | 3 => 3 | 9 => 9 | 4 => 4 | 171 => 307 | 0 => 0 | 53 => 228 | 37 => 43 | 5 => 5 | 173 => 309 | 212 => 322 | 51 => 226 | 20 => 20 | 213 => 323 | 46 => 167 | 232 => 336 | 233 => 337 | n => n, fun | 17 => 3 | 18 => 6 | 19 => 7 | n => n⟩
theorem Tryz.laysM246 : Go.Proofs.LaysM.n246 prog Tryz.laysM246_ren := {
 mixed := by kernel_rfl
 f129 := Tryz.func165.trans (congrArg some (by kernel_rfl))
 f246 := Tryz.func274.trans (congrArg some (by kernel_rfl))
 f283 := Tryz.func286.trans (congrArg some (by kernel_rfl))
 f284 := Tryz.func287.trans (congrArg some (by kernel_rfl))
 f285 := Tryz.func288.trans (congrArg some (by kernel_rfl))
 f286 := Tryz.func289.trans (congrArg some (by kernel_rfl))
 f317 := Tryz.func300.trans (congrArg some (by kernel_rfl))
 f318 := Tryz.func301.trans (congrArg some (by kernel_rfl))
 f319 := Tryz.func302.trans (congrArg some (by kernel_rfl))
 f320 := Tryz.func303.trans (congrArg some (by kernel_rfl))
 f337 := Tryz.func310.trans (congrArg some (by kernel_rfl))
 f338 := Tryz.func311.trans (congrArg some (by kernel_rfl))
 t0 := Tryz.underlying0
 a0 := Tryz.isAgg0
 z0 := Tryz.sizeOf0
 v0 := Tryz.zeroValue0
 t2 := Tryz.underlying2
 a2 := Tryz.isAgg2
 z2 := Tryz.sizeOf2
 v2 := Tryz.zeroValue2
 t3 := Tryz.underlying3
 a3 := Tryz.isAgg3
 z3 := Tryz.sizeOf3
 v3 := Tryz.zeroValue3
 t4 := Tryz.underlying4
 a4 := Tryz.isAgg4
 z4 := Tryz.sizeOf4
 v4 := Tryz.zeroValue4
 t5 := Tryz.underlying5
 a5 := Tryz.isAgg5
 z5 := Tryz.sizeOf5
 v5 := Tryz.zeroValue5
 t9 := Tryz.underlying9
 a9 := Tryz.isAgg9
 z9 := Tryz.sizeOf9
 v9 := Tryz.zeroValue9
 t20 := Tryz.underlying20
 a20 := Tryz.isAgg20
 z20 := Tryz.sizeOf20
 v20 := Tryz.zeroValue20
 t37 := Tryz.underlying43
 a37 := Tryz.isAgg43
 z37 := Tryz.sizeOf43
 v37 := Tryz.zeroValue43
 t46 := Tryz.underlying167
 a46 := Tryz.isAgg167
 z46 := Tryz.sizeOf167
 v46 := Tryz.zeroValue167
 t51 := Tryz.underlying226
 a51 := Tryz.isAgg226
 z51 := Tryz.sizeOf226
 v51 := Tryz.zeroValue226
 t53 := Tryz.underlying228
 a53 := Tryz.isAgg228
 z53 := Tryz.sizeOf228
 v53 := Tryz.zeroValue228
 t171 := Tryz.underlying307
 a171 := Tryz.isAgg307
 z171 := Tryz.sizeOf307
 v171 := Tryz.zeroValue307
 t173 := Tryz.underlying309
 a173 := Tryz.isAgg309
 z173 := Tryz.sizeOf309
 v173 := Tryz.zeroValue309
 t212 := Tryz.underlying322
 a212 := Tryz.isAgg322
 z212 := Tryz.sizeOf322
 v212 := Tryz.zeroValue322
 t213 := Tryz.underlying323
 a213 := Tryz.isAgg323
 z213 := Tryz.sizeOf323
 t232 := Tryz.underlying336
 a232 := Tryz.isAgg336
 z232 := Tryz.sizeOf336
 v232 := Tryz.zeroValue336
 t233 := Tryz.underlying337
 a233 := Tryz.isAgg337
 z233 := Tryz.sizeOf337
 v233 := Tryz.zeroValue337
 g17 := by kernel_rfl
 g18 := by kernel_rfl
 g19 := by kernel_rfl
 i0 := by kernel_rfl
 i2 := by kernel_rfl
 i3 := by kernel_rfl
 i4 := by kernel_rfl
 i5 := by kernel_rfl
 i9 := by kernel_rfl
 i20 := by kernel_rfl
 i37 := by kernel_rfl
 i46 := by kernel_rfl
 i51 := by kernel_rfl
 i53 := by kernel_rfl
 i171 := by kernel_rfl
 i173 := by kernel_rfl
 i212 := by kernel_rfl
 i232 := by kernel_rfl
 i233 := by kernel_rfl
 m17 := by kernel_rfl
 m18 := by kernel_rfl
 m19 := by kernel_rfl }
open Go.RowKit Go.Sort Go.Lib in
theorem Tryz.internal_strconv_FormatInt_10 (n : Int) (h0 : -9223372036854775808 <= n) (h1 : n <= 9223372036854775807) (w : World) (htab : Lib.TabIs prog w "internal/strconv.uint64pow10" .u64 Lib.pow10Tab) :
   Calls prog 274 #[.int .i64 n, .int .i64 10] w fun e w' => e = .returned (.string ⟨(Lib.itoa n).toArray⟩) /\ ∃ k os, w' = grow (w.drewN k) os := Any.internal_strconv_FormatInt_10 Tryz.laysM246 n h0 h1 w htab
open Go.RowKit Go.Sort Go.Lib in
open Go.RowKit Go.Sort Go.Lib in
open Go.RowKit Go.Sort Go.Lib in
def Tryz.laysM171_ren : Go.Shelf.Ren := ⟨fun | 171 => 199 | 243 => 244 | 246 => 274 | 283 => 286 | 284 => 287 | 285 => 288 | 286 => 289 | 129 => 165 | 317 => 300 | 318 => 301 | 319 => 302 | 320 => 303 | 337 => 310 | 338 => 311 | n => n, fun | 3 => 3 | 9 => 9 | 2 => 2 | 4 => 4 | 171 => 307 | 0 => 0 | 53 => 228 | 37 => 43 | 5 => 5 | 173 => 309 | 212 => 322 | 51 => 226 | 20 => 20 | 213 => 323 | 46 => 167 | 232 => 336 | 233 => 337 | n => n, fun | 17 => 3 | 18 => 6 | 19 => 7 | n => n⟩
theorem Tryz.laysM171 : Go.Proofs.LaysM.n171 prog Tryz.laysM171_ren := {
 mixed := by kernel_rfl
 f129 := Tryz.func165.trans (congrArg some (by kernel_rfl))
 f171 := Tryz.func199.trans (congrArg some (by kernel_rfl))
 f243 := Tryz.func244.trans (congrArg some (by kernel_rfl))
 f246 := Tryz.func274.trans (congrArg some (by kernel_rfl))
 f283 := Tryz.func286.trans (congrArg some (by kernel_rfl))
 f284 := Tryz.func287.trans (congrArg some (by kernel_rfl))
 f285 := Tryz.func288.trans (congrArg some (by kernel_rfl))
 f286 := Tryz.func289.trans (congrArg some (by kernel_rfl))
 f317 := Tryz.func300.trans (congrArg some (by kernel_rfl))
 f318 := Tryz.func301.trans (congrArg some (by kernel_rfl))
 f319 := Tryz.func302.trans (congrArg some (by kernel_rfl))
 f320 := Tryz.func303.trans (congrArg some (by kernel_rfl))
 f337 := Tryz.func310.trans (congrArg some (by kernel_rfl))
 f338 := Tryz.func311.trans (congrArg some (by kernel_rfl))
 t0 := Tryz.underlying0
 a0 := Tryz.isAgg0
 z0 := Tryz.sizeOf0
 v0 := Tryz.zeroValue0
 t2 := Tryz.underlying2
 a2 := Tryz.isAgg2
 z2 := Tryz.sizeOf2
 v2 := Tryz.zeroValue2
 t3 := Tryz.underlying3
 a3 := Tryz.isAgg3
 z3 := Tryz.sizeOf3
 v3 := Tryz.zeroValue3
 t4 := Tryz.underlying4
 a4 := Tryz.isAgg4
 z4 := Tryz.sizeOf4
 v4 := Tryz.zeroValue4
 t5 := Tryz.underlying5
 a5 := Tryz.isAgg5
 z5 := Tryz.sizeOf5
 v5 := Tryz.zeroValue5
 t9 := Tryz.underlying9
 a9 := Tryz.isAgg9
 z9 := Tryz.sizeOf9
 v9 := Tryz.zeroValue9
 t20 := Tryz.underlying20
 a20 := Tryz.isAgg20
 z20 := Tryz.sizeOf20
 v20 := Tryz.zeroValue20
 t37 := Tryz.underlying43
 a37 := Tryz.isAgg43
 z37 := Tryz.sizeOf43
 v37 := Tryz.zeroValue43
 t46 := Tryz.underlying167
 a46 := Tryz.isAgg167
 z46 := Tryz.sizeOf167
 v46 := Tryz.zeroValue167
 t51 := Tryz.underlying226
 a51 := Tryz.isAgg226
 z51 := Tryz.sizeOf226
 v51 := Tryz.zeroValue226
 t53 := Tryz.underlying228
 a53 := Tryz.isAgg228
 z53 := Tryz.sizeOf228
 v53 := Tryz.zeroValue228
 t171 := Tryz.underlying307
 a171 := Tryz.isAgg307
 z171 := Tryz.sizeOf307
 v171 := Tryz.zeroValue307
 t173 := Tryz.underlying309
 a173 := Tryz.isAgg309
 z173 := Tryz.sizeOf309
 v173 := Tryz.zeroValue309
 t212 := Tryz.underlying322
 a212 := Tryz.isAgg322
 z212 := Tryz.sizeOf322
 v212 := Tryz.zeroValue322
 t213 := Tryz.underlying323
 a213 := Tryz.isAgg323
 z213 := Tryz.sizeOf323
 t232 := Tryz.underlying336
 a232 := Tryz.isAgg336
 z232 := Tryz.sizeOf336
 v232 := Tryz.zeroValue336
 t233 := Tryz.underlying337
 a233 := Tryz.isAgg337
 z233 := Tryz.sizeOf337
 v233 := Tryz.zeroValue337
 g17 := by kernel_rfl
 g18 := by kernel_rfl
 g19 := by kernel_rfl
 i0 := by kernel_rfl
 i2 := by kernel_rfl
 i3 := by kernel_rfl
 i4 := by kernel_rfl
 i5 := by kernel_rfl
 i9 := by kernel_rfl
 i20 := by kernel_rfl
 i37 := by kernel_rfl
 i46 := by kernel_rfl
 i51 := by kernel_rfl
 i53 := by kernel_rfl
 i171 := by kernel_rfl
 i173 := by kernel_rfl
 i212 := by kernel_rfl
 i232 := by kernel_rfl
 i233 := by kernel_rfl
 m17 := by kernel_rfl
 m18 := by kernel_rfl
 m19 := by kernel_rfl }
open Go.RowKit Go.Sort Go.Lib in
theorem Tryz.strconv_Itoa (n : Int) (h0 : -9223372036854775808 <= n) (h1 : n <= 9223372036854775807) (w : World) (htab : Lib.TabIs prog w "internal/strconv.uint64pow10" .u64 Lib.pow10Tab) :
   Calls prog 199 #[.int .i64 n] w fun e w' => e = .returned (.string ⟨(Lib.itoa n).toArray⟩) /\ ∃ k os, w' = grow (w.drewN k) os := Any.strconv_Itoa Tryz.laysM171 n h0 h1 w htab
def Tryz.lays171_ren : Go.Shelf.Ren := ⟨fun | 171 => 199 | 243 => 244 | 246 => 274 | 283 => 286 | 284 => 287 | 285 => 288 | 286 => 289 | 129 => 165 | 317 => 300 | 318 => 301 | 319 => 302 | 320 => 303 | 337 => 310 | 338 => 311 | n => n, fun | 3 => 3 | 9 => 9 | 2 => 2 | 4 => 4 | 171 => 307 | 0 => 0 | 53 => 228 | 37 => 43 | 5 => 5 | 173 => 309 | 212 => 322 | 51 => 226 | 20 => 20 | 213 => 323 | 46 => 167 | 232 => 336 | 233 => 337 | n => n, fun | 17 => 3 | 18 => 6 | 19 => 7 | n => n⟩
theorem Tryz.lays171 : Go.Proofs.Lays.n171 prog Tryz.lays171_ren := {
 mixed := by kernel_rfl
 f129 := Tryz.func165.trans (congrArg some (by kernel_rfl))
 f171 := Tryz.func199.trans (congrArg some (by kernel_rfl))
 f243 := Tryz.func244.trans (congrArg some (by kernel_rfl))
 f246 := Tryz.func274.trans (congrArg some (by kernel_rfl))
 f283 := Tryz.func286.trans (congrArg some (by kernel_rfl))
 f284 := Tryz.func287.trans (congrArg some (by kernel_rfl))
 f285 := Tryz.func288.trans (congrArg some (by kernel_rfl))
 f286 := Tryz.func289.trans (congrArg some (by kernel_rfl))
 f317 := Tryz.func300.trans (congrArg some (by kernel_rfl))
 f318 := Tryz.func301.trans (congrArg some (by kernel_rfl))
 f319 := Tryz.func302.trans (congrArg some (by kernel_rfl))
 f320 := Tryz.func303.trans (congrArg some (by kernel_rfl))
 f337 := Tryz.func310.trans (congrArg some (by kernel_rfl))
 f338 := Tryz.func311.trans (congrArg some (by kernel_rfl))
 t0 := Tryz.underlying0
 a0 := Tryz.isAgg0
 z0 := Tryz.sizeOf0
 v0 := Tryz.zeroValue0
 t2 := Tryz.underlying2
 a2 := Tryz.isAgg2
 z2 := Tryz.sizeOf2
 v2 := Tryz.zeroValue2
 t3 := Tryz.underlying3
 a3 := Tryz.isAgg3
 z3 := Tryz.sizeOf3
 v3 := Tryz.zeroValue3
 t4 := Tryz.underlying4
 a4 := Tryz.isAgg4
 z4 := Tryz.sizeOf4
 v4 := Tryz.zeroValue4
 t5 := Tryz.underlying5
 a5 := Tryz.isAgg5
 z5 := Tryz.sizeOf5
 v5 := Tryz.zeroValue5
 t9 := Tryz.underlying9
 a9 := Tryz.isAgg9
 z9 := Tryz.sizeOf9
 v9 := Tryz.zeroValue9
 t20 := Tryz.underlying20
 a20 := Tryz.isAgg20
 z20 := Tryz.sizeOf20
 v20 := Tryz.zeroValue20
 t37 := Tryz.underlying43
 a37 := Tryz.isAgg43
 z37 := Tryz.sizeOf43
 v37 := Tryz.zeroValue43
 t46 := Tryz.underlying167
 a46 := Tryz.isAgg167
 z46 := Tryz.sizeOf167
 v46 := Tryz.zeroValue167
 t51 := Tryz.underlying226
 a51 := Tryz.isAgg226
 z51 := Tryz.sizeOf226
 v51 := Tryz.zeroValue226
 t53 := Tryz.underlying228
 a53 := Tryz.isAgg228
 z53 := Tryz.sizeOf228
 v53 := Tryz.zeroValue228
 t171 := Tryz.underlying307
 a171 := Tryz.isAgg307
 z171 := Tryz.sizeOf307
 v171 := Tryz.zeroValue307
 t173 := Tryz.underlying309
 a173 := Tryz.isAgg309
 z173 := Tryz.sizeOf309
 v173 := Tryz.zeroValue309
 t212 := Tryz.underlying322
 a212 := Tryz.isAgg322
 z212 := Tryz.sizeOf322
 v212 := Tryz.zeroValue322
 t213 := Tryz.underlying323
 a213 := Tryz.isAgg323
 z213 := Tryz.sizeOf323
 t232 := Tryz.underlying336
 a232 := Tryz.isAgg336
 z232 := Tryz.sizeOf336
 v232 := Tryz.zeroValue336
 t233 := Tryz.underlying337
 a233 := Tryz.isAgg337
 z233 := Tryz.sizeOf337
 v233 := Tryz.zeroValue337
 g17 := by kernel_rfl
 g18 := by kernel_rfl
 g19 := by kernel_rfl }
open Go.RowKit Go.Sort Go.Lib in
theorem Tryz.strconv_Itoa_small (i : Nat) (hi : i < 100) (w : World) :
   Calls prog 199 #[.int .i64 i] w fun e w' => e = .returned (.string ⟨(Lib.decDigits i).toArray⟩) /\ w' = w := Any.strconv_Itoa_small Tryz.lays171 i hi w
open Go.RowKit in
open Go.RowKit in
open Go.RowKit in
open Go.RowKit in
open Go.RowKit in
open Go.RowKit in
open Go.RowKit in
open Go.RowKit in
open Go.RowKit in
open Go.RowKit in
open Go.RowKit in
open Go.RowKit in
open Go.RowKit in
open Go.RowKit in
open Go.RowKit in
open Go.RowKit Go.Lib in
open Go.RowKit Go.Lib in
open Go.RowKit Go.Lib in
open Go.RowKit Go.Lib in
open Go.RowKit Go.Lib in
open Go.RowKit Go.Lib in
open Go.RowKit Go.Lib in
open Go.RowKit Go.Lib in
open Go.RowKit Go.Lib in
def Tryz.lays145_ren : Go.Shelf.Ren := ⟨fun | 145 => 119 | 220 => 190 | 219 => 235 | 217 => 229 | 225 => 179 | 224 => 178 | 267 => 269 | 266 => 266 | 314 => 282 | n => n, fun | 9 => 9 | 4 => 4 | 59 => 128 | 3 => 3 | 5 => 5 | 46 => 167 | 146 => 303 | 51 => 226 | n => n, fun | 1 => 0 | n => n⟩
theorem Tryz.lays145 : Go.Proofs.Lays.n145 prog Tryz.lays145_ren := {
 mixed := by kernel_rfl
 f145 := Tryz.func119.trans (congrArg some (by kernel_rfl))
 f217 := Tryz.func229.trans (congrArg some (by kernel_rfl))
 f219 := Tryz.func235.trans (congrArg some (by kernel_rfl))
 f220 := Tryz.func190.trans (congrArg some (by kernel_rfl))
 f224 := Tryz.func178.trans (congrArg some (by kernel_rfl))
 f225 := Tryz.func179.trans (congrArg some (by kernel_rfl))
 f266 := Tryz.func266.trans (congrArg some (by kernel_rfl))
 f267 := Tryz.func269.trans (congrArg some (by kernel_rfl))
 f314 := Tryz.func282.trans (congrArg some (by kernel_rfl))
 t3 := Tryz.underlying3
 a3 := Tryz.isAgg3
 z3 := Tryz.sizeOf3
 v3 := Tryz.zeroValue3
 t4 := Tryz.underlying4
 a4 := Tryz.isAgg4
 z4 := Tryz.sizeOf4
 v4 := Tryz.zeroValue4
 t5 := Tryz.underlying5
 a5 := Tryz.isAgg5
 z5 := Tryz.sizeOf5
 v5 := Tryz.zeroValue5
 t9 := Tryz.underlying9
 a9 := Tryz.isAgg9
 z9 := Tryz.sizeOf9
 v9 := Tryz.zeroValue9
 t46 := Tryz.underlying167
 a46 := Tryz.isAgg167
 z46 := Tryz.sizeOf167
 v46 := Tryz.zeroValue167
 t51 := Tryz.underlying226
 a51 := Tryz.isAgg226
 z51 := Tryz.sizeOf226
 v51 := Tryz.zeroValue226
 t59 := Tryz.underlying128
 a59 := Tryz.isAgg128
 z59 := Tryz.sizeOf128
 v59 := Tryz.zeroValue128
 t146 := Tryz.underlying303
 a146 := Tryz.isAgg303
 z146 := Tryz.sizeOf303
 v146 := Tryz.zeroValue303
 g1 := by kernel_rfl }
open Go.RowKit Go.Lib in
theorem Tryz.strings_Cut (s sep : ByteArray) (m : Int) (w : World) (hs : s.size < 4294967281) (hm : w.cell? ⟨0, 0, none⟩ = some (.int .i64 m)) :
   Calls prog 119 #[.string s, .string sep] w fun e w' => e = .returned (.tuple #[.string ⟨(Lib.cut s.data.toList sep.data.toList).1.toArray⟩, .string ⟨(Lib.cut s.data.toList sep.data.toList).2.1.toArray⟩, .bool (Lib.cut s.data.toList sep.data.toList).2.2]) /\ ∃ n, w' = w.drewN n := Any.strings_Cut Tryz.lays145 s sep m w hs hm
open Go.RowKit Go.Lib in
open Go.RowKit Go.Lib in
open Go.RowKit Go.Lib in
open Go.RowKit Go.Lib in
open Go.RowKit Go.Lib in
open Go.RowKit Go.Lib in
open Go.RowKit Go.Lib in
open Go.RowKit Go.Lib in
def Tryz.lays149_ren : Go.Shelf.Ren := ⟨fun | 149 => 128 | 222 => 197 | n => n, fun | 9 => 9 | 5 => 5 | 3 => 3 | 4 => 4 | n => n, fun | n => n⟩
theorem Tryz.lays149 : Go.Proofs.Lays.n149 prog Tryz.lays149_ren := {
 mixed := by kernel_rfl
 f149 := Tryz.func128.trans (congrArg some (by kernel_rfl))
 f222 := Tryz.func197.trans (congrArg some (by kernel_rfl))
 t3 := Tryz.underlying3
 a3 := Tryz.isAgg3
 z3 := Tryz.sizeOf3
 v3 := Tryz.zeroValue3
 t4 := Tryz.underlying4
 a4 := Tryz.isAgg4
 z4 := Tryz.sizeOf4
 v4 := Tryz.zeroValue4
 t5 := Tryz.underlying5
 a5 := Tryz.isAgg5
 z5 := Tryz.sizeOf5
 v5 := Tryz.zeroValue5
 t9 := Tryz.underlying9
 a9 := Tryz.isAgg9
 z9 := Tryz.sizeOf9
 v9 := Tryz.zeroValue9 }
open Go.RowKit Go.Lib in
theorem Tryz.strings_LastIndexByte (s : ByteArray) (c : Int) (hs : s.size < 4611686018427387904) (w : World) :
   Calls prog 128 #[.string s, .int .u8 c] w fun e w' => e = .returned (.int .i64 (Lib.lastIndexByte s c)) /\ w' = w := Any.strings_LastIndexByte Tryz.lays149 s c hs w
open Go.RowKit Go.Lib in
def Tryz.lays99_ren : Go.Shelf.Ren := ⟨fun | 99 => 53 | 206 => 104 | n => n, fun | 9 => 9 | 4 => 4 | 3 => 3 | n => n, fun | n => n⟩
theorem Tryz.lays99 : Go.Proofs.Lays.n99 prog Tryz.lays99_ren := {
 mixed := by kernel_rfl
 f99 := Tryz.func53.trans (congrArg some (by kernel_rfl))
 f206 := Tryz.func104.trans (congrArg some (by kernel_rfl))
 t3 := Tryz.underlying3
 a3 := Tryz.isAgg3
 z3 := Tryz.sizeOf3
 v3 := Tryz.zeroValue3
 t4 := Tryz.underlying4
 a4 := Tryz.isAgg4
 z4 := Tryz.sizeOf4
 v4 := Tryz.zeroValue4
 t9 := Tryz.underlying9
 a9 := Tryz.isAgg9
 z9 := Tryz.sizeOf9
 v9 := Tryz.zeroValue9 }
open Go.RowKit Go.Lib in
theorem Tryz.strings_HasPrefix (s p : ByteArray) (w : World) :
   Calls prog 53 #[.string s, .string p] w fun e w' => e = .returned (.bool (Lib.hasPrefix s.data.toList p.data.toList)) /\ w' = w := Any.strings_HasPrefix Tryz.lays99 s p w
open Go.RowKit Go.Lib in
def Tryz.lays100_ren : Go.Shelf.Ren := ⟨fun | 100 => 130 | 207 => 198 | n => n, fun | 9 => 9 | 4 => 4 | 3 => 3 | n => n, fun | n => n⟩
theorem Tryz.lays100 : Go.Proofs.Lays.n100 prog Tryz.lays100_ren := {
 mixed := by kernel_rfl
 f100 := Tryz.func130.trans (congrArg some (by kernel_rfl))
 f207 := Tryz.func198.trans (congrArg some (by kernel_rfl))
 t3 := Tryz.underlying3
 a3 := Tryz.isAgg3
 z3 := Tryz.sizeOf3
 v3 := Tryz.zeroValue3
 t4 := Tryz.underlying4
 a4 := Tryz.isAgg4
 z4 := Tryz.sizeOf4
 v4 := Tryz.zeroValue4
 t9 := Tryz.underlying9
 a9 := Tryz.isAgg9
 z9 := Tryz.sizeOf9
 v9 := Tryz.zeroValue9 }
open Go.RowKit Go.Lib in
theorem Tryz.strings_HasSuffix (s p : ByteArray) (w : World) (hs : s.size <= 9223372036854775807) :
   Calls prog 130 #[.string s, .string p] w fun e w' => e = .returned (.bool (Lib.hasSuffix s.data.toList p.data.toList)) /\ w' = w := Any.strings_HasSuffix Tryz.lays100 s p w hs
open Go.RowKit Go.Lib in
def Tryz.lays101_ren : Go.Shelf.Ren := ⟨fun | 101 => 122 | 208 => 195 | 206 => 104 | n => n, fun | 9 => 9 | 4 => 4 | 3 => 3 | n => n, fun | n => n⟩
theorem Tryz.lays101 : Go.Proofs.Lays.n101 prog Tryz.lays101_ren := {
 mixed := by kernel_rfl
 f101 := Tryz.func122.trans (congrArg some (by kernel_rfl))
 f206 := Tryz.func104.trans (congrArg some (by kernel_rfl))
 f208 := Tryz.func195.trans (congrArg some (by kernel_rfl))
 t3 := Tryz.underlying3
 a3 := Tryz.isAgg3
 z3 := Tryz.sizeOf3
 v3 := Tryz.zeroValue3
 t4 := Tryz.underlying4
 a4 := Tryz.isAgg4
 z4 := Tryz.sizeOf4
 v4 := Tryz.zeroValue4
 t9 := Tryz.underlying9
 a9 := Tryz.isAgg9
 z9 := Tryz.sizeOf9
 v9 := Tryz.zeroValue9 }
open Go.RowKit Go.Lib in
theorem Tryz.strings_TrimPrefix (s p : ByteArray) (w : World) :
   Calls prog 122 #[.string s, .string p] w fun e w' => e = .returned (.string ⟨(Lib.trimPrefix s.data.toList p.data.toList).toArray⟩) /\ w' = w := Any.strings_TrimPrefix Tryz.lays101 s p w
open Go.RowKit Go.Lib in
open Go.RowKit Go.Lib in
def Tryz.lays146_ren : Go.Shelf.Ren := ⟨fun | 146 => 118 | 221 => 189 | 268 => 232 | 138 => 233 | 143 => 234 | 195 => 267 | 197 => 226 | 218 => 268 | 219 => 235 | 260 => 264 | 217 => 229 | 225 => 179 | 224 => 178 | 267 => 269 | 266 => 266 | 314 => 282 | n => n, fun | 9 => 9 | 31 => 104 | 3 => 3 | 4 => 4 | 0 => 0 | 105 => 266 | 21 => 21 | 5 => 5 | 46 => 167 | 119 => 299 | 139 => 302 | 138 => 301 | 146 => 303 | 51 => 226 | n => n, fun | 1 => 0 | 3 => 1 | 4 => 2 | n => n⟩
theorem Tryz.lays146 : Go.Proofs.Lays.n146 prog Tryz.lays146_ren := {
 mixed := by kernel_rfl
 f138 := Tryz.func233.trans (congrArg some (by kernel_rfl))
 f143 := Tryz.func234.trans (congrArg some (by kernel_rfl))
 f146 := Tryz.func118.trans (congrArg some (by kernel_rfl))
 f195 := Tryz.func267.trans (congrArg some (by kernel_rfl))
 f197 := Tryz.func226.trans (congrArg some (by kernel_rfl))
 f217 := Tryz.func229.trans (congrArg some (by kernel_rfl))
 f218 := Tryz.func268.trans (congrArg some (by kernel_rfl))
 f219 := Tryz.func235.trans (congrArg some (by kernel_rfl))
 f221 := Tryz.func189.trans (congrArg some (by kernel_rfl))
 f224 := Tryz.func178.trans (congrArg some (by kernel_rfl))
 f225 := Tryz.func179.trans (congrArg some (by kernel_rfl))
 f260 := Tryz.func264.trans (congrArg some (by kernel_rfl))
 f266 := Tryz.func266.trans (congrArg some (by kernel_rfl))
 f267 := Tryz.func269.trans (congrArg some (by kernel_rfl))
 f268 := Tryz.func232.trans (congrArg some (by kernel_rfl))
 f314 := Tryz.func282.trans (congrArg some (by kernel_rfl))
 t0 := Tryz.underlying0
 a0 := Tryz.isAgg0
 z0 := Tryz.sizeOf0
 v0 := Tryz.zeroValue0
 t3 := Tryz.underlying3
 a3 := Tryz.isAgg3
 z3 := Tryz.sizeOf3
 v3 := Tryz.zeroValue3
 t4 := Tryz.underlying4
 a4 := Tryz.isAgg4
 z4 := Tryz.sizeOf4
 v4 := Tryz.zeroValue4
 t5 := Tryz.underlying5
 a5 := Tryz.isAgg5
 z5 := Tryz.sizeOf5
 v5 := Tryz.zeroValue5
 t9 := Tryz.underlying9
 a9 := Tryz.isAgg9
 z9 := Tryz.sizeOf9
 v9 := Tryz.zeroValue9
 t21 := Tryz.underlying21
 a21 := Tryz.isAgg21
 z21 := Tryz.sizeOf21
 v21 := Tryz.zeroValue21
 t31 := Tryz.underlying104
 a31 := Tryz.isAgg104
 z31 := Tryz.sizeOf104
 v31 := Tryz.zeroValue104
 t46 := Tryz.underlying167
 a46 := Tryz.isAgg167
 z46 := Tryz.sizeOf167
 v46 := Tryz.zeroValue167
 t51 := Tryz.underlying226
 a51 := Tryz.isAgg226
 z51 := Tryz.sizeOf226
 v51 := Tryz.zeroValue226
 t105 := Tryz.underlying266
 a105 := Tryz.isAgg266
 z105 := Tryz.sizeOf266
 v105 := Tryz.zeroValue266
 t119 := Tryz.underlying299
 a119 := Tryz.isAgg299
 z119 := Tryz.sizeOf299
 t138 := Tryz.underlying301
 a138 := Tryz.isAgg301
 z138 := Tryz.sizeOf301
 v138 := Tryz.zeroValue301
 t139 := Tryz.underlying302
 a139 := Tryz.isAgg302
 z139 := Tryz.sizeOf302
 v139 := Tryz.zeroValue302
 t146 := Tryz.underlying303
 a146 := Tryz.isAgg303
 z146 := Tryz.sizeOf303
 v146 := Tryz.zeroValue303
 g1 := by kernel_rfl
 g3 := by kernel_rfl
 g4 := by kernel_rfl }
open Go.RowKit Go.Lib in
theorem Tryz.strings_Split (s sep : ByteArray) (m : Int) (w : World) (hs : s.size < 4294967281) (hm : w.cell? ⟨0, 0, none⟩ = some (.int .i64 m)) (h1 : 1 <= sep.size) :
   Calls prog 118 #[.string s, .string sep] w fun e w' =>
     e = .returned (.slice (some ⟨w.heap.size, 0, none⟩) (Lib.countB s sep + 1) (Lib.countB s sep + 1)) /\ w' = w.alloc (.cells ((Lib.splitB sep 0 (Lib.countB s sep) s).map Value.string).toArray 9) := Any.strings_Split Tryz.lays146 (by kernel_rfl) s sep m w hs hm h1
open Go.RowKit Go.Lib in
open Go.RowKit Go.Lib in
def Tryz.lays152_ren : Go.Shelf.Ren := ⟨fun | 152 => 105 | 137 => 176 | 119 => 177 | 224 => 178 | 225 => 179 | 217 => 229 | 266 => 266 | n => n, fun | 9 => 9 | 21 => 21 | 3 => 3 | 4 => 4 | 5 => 5 | 0 => 0 | 46 => 167 | n => n, fun | n => n⟩
theorem Tryz.lays152 : Go.Proofs.Lays.n152 prog Tryz.lays152_ren := {
 mixed := by kernel_rfl
 f119 := Tryz.func177.trans (congrArg some (by kernel_rfl))
 f137 := Tryz.func176.trans (congrArg some (by kernel_rfl))
 f152 := Tryz.func105.trans (congrArg some (by kernel_rfl))
 f217 := Tryz.func229.trans (congrArg some (by kernel_rfl))
 f224 := Tryz.func178.trans (congrArg some (by kernel_rfl))
 f225 := Tryz.func179.trans (congrArg some (by kernel_rfl))
 f266 := Tryz.func266.trans (congrArg some (by kernel_rfl))
 t0 := Tryz.underlying0
 a0 := Tryz.isAgg0
 z0 := Tryz.sizeOf0
 v0 := Tryz.zeroValue0
 t3 := Tryz.underlying3
 a3 := Tryz.isAgg3
 z3 := Tryz.sizeOf3
 v3 := Tryz.zeroValue3
 t4 := Tryz.underlying4
 a4 := Tryz.isAgg4
 z4 := Tryz.sizeOf4
 v4 := Tryz.zeroValue4
 t5 := Tryz.underlying5
 a5 := Tryz.isAgg5
 z5 := Tryz.sizeOf5
 v5 := Tryz.zeroValue5
 t9 := Tryz.underlying9
 a9 := Tryz.isAgg9
 z9 := Tryz.sizeOf9
 v9 := Tryz.zeroValue9
 t21 := Tryz.underlying21
 a21 := Tryz.isAgg21
 z21 := Tryz.sizeOf21
 v21 := Tryz.zeroValue21
 t46 := Tryz.underlying167
 a46 := Tryz.isAgg167
 z46 := Tryz.sizeOf167
 v46 := Tryz.zeroValue167 }
open Go.RowKit Go.Lib in
theorem Tryz.strings_IndexRune_ascii (s : ByteArray) (r : Int) (w : World) (h0 : 0 <= r) (h1 : r < 128) :
   Calls prog 105 #[.string s, .int .i32 r] w fun e w' => e = .returned (.int .i64 (Lib.indexByte s.data.toList r.toNat.toUInt8)) /\ w' = w := Any.strings_IndexRune_ascii Tryz.lays152 s r w h0 h1
open Go.RowKit Go.Lib in
open Go.RowKit Go.Lib in
def Tryz.lays226_ren : Go.Shelf.Ren := ⟨fun | 226 => 106 | n => n, fun | 3 => 3 | 4 => 4 | n => n, fun | n => n⟩
theorem Tryz.lays226 : Go.Proofs.Lays.n226 prog Tryz.lays226_ren := {
 mixed := by kernel_rfl
 f226 := Tryz.func106.trans (congrArg some (by kernel_rfl))
 t3 := Tryz.underlying3
 a3 := Tryz.isAgg3
 z3 := Tryz.sizeOf3
 v3 := Tryz.zeroValue3
 t4 := Tryz.underlying4
 a4 := Tryz.isAgg4
 z4 := Tryz.sizeOf4
 v4 := Tryz.zeroValue4 }
open Go.RowKit Go.Lib in
theorem Tryz.strings_shouldUseASCIISet (n : Int) (w : World) :
   Calls prog 106 #[.int .i64 n] w fun e w' => e = .returned (.bool (decide (8 < n))) /\ w' = w := Any.strings_shouldUseASCIISet Tryz.lays226 n w
def Tryz.lays153_ren : Go.Shelf.Ren := ⟨fun | 153 => 54 | 152 => 105 | 226 => 106 | 227 => 107 | 228 => 108 | 137 => 176 | 119 => 177 | 224 => 178 | 225 => 179 | 217 => 229 | 266 => 266 | n => n, fun | 9 => 9 | 3 => 3 | 4 => 4 | 5 => 5 | 21 => 21 | 117 => 182 | 116 => 181 | 0 => 0 | 46 => 167 | 124 => 232 | n => n, fun | n => n⟩
theorem Tryz.lays153 : Go.Proofs.Lays.n153 prog Tryz.lays153_ren := {
 mixed := by kernel_rfl
 f119 := Tryz.func177.trans (congrArg some (by kernel_rfl))
 f137 := Tryz.func176.trans (congrArg some (by kernel_rfl))
 f152 := Tryz.func105.trans (congrArg some (by kernel_rfl))
 f153 := Tryz.func54.trans (congrArg some (by kernel_rfl))
 f217 := Tryz.func229.trans (congrArg some (by kernel_rfl))
 f224 := Tryz.func178.trans (congrArg some (by kernel_rfl))
 f225 := Tryz.func179.trans (congrArg some (by kernel_rfl))
 f226 := Tryz.func106.trans (congrArg some (by kernel_rfl))
 f227 := Tryz.func107.trans (congrArg some (by kernel_rfl))
 f228 := Tryz.func108.trans (congrArg some (by kernel_rfl))
 f266 := Tryz.func266.trans (congrArg some (by kernel_rfl))
 t0 := Tryz.underlying0
 a0 := Tryz.isAgg0
 z0 := Tryz.sizeOf0
 v0 := Tryz.zeroValue0
 t3 := Tryz.underlying3
 a3 := Tryz.isAgg3
 z3 := Tryz.sizeOf3
 v3 := Tryz.zeroValue3
 t4 := Tryz.underlying4
 a4 := Tryz.isAgg4
 z4 := Tryz.sizeOf4
 v4 := Tryz.zeroValue4
 t5 := Tryz.underlying5
 a5 := Tryz.isAgg5
 z5 := Tryz.sizeOf5
 v5 := Tryz.zeroValue5
 t9 := Tryz.underlying9
 a9 := Tryz.isAgg9
 z9 := Tryz.sizeOf9
 v9 := Tryz.zeroValue9
 t21 := Tryz.underlying21
 a21 := Tryz.isAgg21
 z21 := Tryz.sizeOf21
 v21 := Tryz.zeroValue21
 t46 := Tryz.underlying167
 a46 := Tryz.isAgg167
 z46 := Tryz.sizeOf167
 v46 := Tryz.zeroValue167
 t116 := Tryz.underlying181
 a116 := Tryz.isAgg181
 z116 := Tryz.sizeOf181
 t117 := Tryz.underlying182
 a117 := Tryz.isAgg182
 z117 := Tryz.sizeOf182
 v117 := Tryz.zeroValue182
 t124 := Tryz.underlying232
 a124 := Tryz.isAgg232
 z124 := Tryz.sizeOf232
 v124 := Tryz.zeroValue232 }
open Go.RowKit Go.Lib in
open Go.RowKit Go.Lib in
open Go.RowKit Go.Lib in
open Go.RowKit Go.Lib in
open Go.RowKit Go.Lib in
open Go.RowKit Go.Lib in
theorem Tryz.strings_IndexAny_long (hv116 : ∀ w, (zeroValue 181).run prog w = .ok (.agg (Array.replicate 256 (.bool false))) w) (s chars : ByteArray) (w : World) (h2 : 2 <= chars.size) (h8 : 8 < s.size) (hs : s.size < 4294967281) (hcs : chars.size < 4294967281) (hascii : ∀ (j : Nat) b, chars.data.toList[j]? = some b -> b.toNat < 128) :
   Calls prog 54 #[.string s, .string chars] w fun e w' => e = .returned (.int .i64 (Lib.indexAny s.data.toList chars.data.toList)) /\ w' = ((w.alloc (.cells (Lib.setCells chars.data.toList) 181)).alloc (.cells (Lib.setCells chars.data.toList) 181)) := Any.strings_IndexAny_long Tryz.lays153 hv116 (by kernel_rfl) s chars w h2 h8 hs hcs hascii
open Go.RowKit Go.Lib in
open Go.RowKit Go.Lib in
open Go.RowKit Go.Lib in
open Go.RowKit Go.Lib in
open Go.RowKit Go.Lib in
open Go.RowKit Go.Lib in
open Go.RowKit Go.Lib in
def Tryz.lays105_ren : Go.Shelf.Ren := ⟨fun | 105 => 285 | 212 => 298 | 99 => 53 | 165 => 98 | 166 => 99 | 170 => 299 | 169 => 100 | 263 => 308 | 264 => 309 | 206 => 104 | 240 => 166 | 241 => 167 | 276 => 222 | 277 => 223 | n => n, fun | 9 => 9 | 3 => 3 | 4 => 4 | 20 => 20 | 0 => 0 | 46 => 167 | 109 => 319 | 5 => 5 | 72 => 170 | 76 => 174 | 51 => 226 | 146 => 303 | 53 => 228 | 148 => 330 | 70 => 168 | 37 => 43 | 75 => 173 | 127 => 229 | 164 => 263 | 80 => 176 | n => n, fun | n => n⟩
theorem Tryz.lays105 : Go.Proofs.Lays.n105 prog Tryz.lays105_ren := {
 mixed := by kernel_rfl
 f99 := Tryz.func53.trans (congrArg some (by kernel_rfl))
 f105 := Tryz.func285.trans (congrArg some (by kernel_rfl))
 f165 := Tryz.func98.trans (congrArg some (by kernel_rfl))
 f166 := Tryz.func99.trans (congrArg some (by kernel_rfl))
 f169 := Tryz.func100.trans (congrArg some (by kernel_rfl))
 f170 := Tryz.func299.trans (congrArg some (by kernel_rfl))
 f206 := Tryz.func104.trans (congrArg some (by kernel_rfl))
 f212 := Tryz.func298.trans (congrArg some (by kernel_rfl))
 f240 := Tryz.func166.trans (congrArg some (by kernel_rfl))
 f241 := Tryz.func167.trans (congrArg some (by kernel_rfl))
 f263 := Tryz.func308.trans (congrArg some (by kernel_rfl))
 f264 := Tryz.func309.trans (congrArg some (by kernel_rfl))
 f276 := Tryz.func222.trans (congrArg some (by kernel_rfl))
 f277 := Tryz.func223.trans (congrArg some (by kernel_rfl))
 t0 := Tryz.underlying0
 a0 := Tryz.isAgg0
 z0 := Tryz.sizeOf0
 v0 := Tryz.zeroValue0
 t3 := Tryz.underlying3
 a3 := Tryz.isAgg3
 z3 := Tryz.sizeOf3
 v3 := Tryz.zeroValue3
 t4 := Tryz.underlying4
 a4 := Tryz.isAgg4
 z4 := Tryz.sizeOf4
 v4 := Tryz.zeroValue4
 t5 := Tryz.underlying5
 a5 := Tryz.isAgg5
 z5 := Tryz.sizeOf5
 v5 := Tryz.zeroValue5
 t9 := Tryz.underlying9
 a9 := Tryz.isAgg9
 z9 := Tryz.sizeOf9
 v9 := Tryz.zeroValue9
 t20 := Tryz.underlying20
 a20 := Tryz.isAgg20
 z20 := Tryz.sizeOf20
 v20 := Tryz.zeroValue20
 t37 := Tryz.underlying43
 a37 := Tryz.isAgg43
 z37 := Tryz.sizeOf43
 v37 := Tryz.zeroValue43
 t46 := Tryz.underlying167
 a46 := Tryz.isAgg167
 z46 := Tryz.sizeOf167
 v46 := Tryz.zeroValue167
 t51 := Tryz.underlying226
 a51 := Tryz.isAgg226
 z51 := Tryz.sizeOf226
 v51 := Tryz.zeroValue226
 t53 := Tryz.underlying228
 a53 := Tryz.isAgg228
 z53 := Tryz.sizeOf228
 v53 := Tryz.zeroValue228
 t70 := Tryz.underlying168
 a70 := Tryz.isAgg168
 z70 := Tryz.sizeOf168
 v70 := Tryz.zeroValue168
 t72 := Tryz.underlying170
 a72 := Tryz.isAgg170
 z72 := Tryz.sizeOf170
 v72 := Tryz.zeroValue170
 t75 := Tryz.underlying173
 a75 := Tryz.isAgg173
 z75 := Tryz.sizeOf173
 v75 := Tryz.zeroValue173
 t76 := Tryz.underlying174
 a76 := Tryz.isAgg174
 z76 := Tryz.sizeOf174
 v76 := Tryz.zeroValue174
 t109 := Tryz.underlying319
 a109 := Tryz.isAgg319
 z109 := Tryz.sizeOf319
 v109 := Tryz.zeroValue319
 t127 := Tryz.underlying229
 a127 := Tryz.isAgg229
 z127 := Tryz.sizeOf229
 v127 := Tryz.zeroValue229
 t146 := Tryz.underlying303
 a146 := Tryz.isAgg303
 z146 := Tryz.sizeOf303
 v146 := Tryz.zeroValue303
 t148 := Tryz.underlying330
 a148 := Tryz.isAgg330
 z148 := Tryz.sizeOf330
 v148 := Tryz.zeroValue330
 t164 := Tryz.underlying263
 a164 := Tryz.isAgg263
 z164 := Tryz.sizeOf263
 v164 := Tryz.zeroValue263 }
theorem Tryz.Builder_Extra_105 : Builder.Extra prog Tryz.lays105_ren := {
 sizeBuilder := by kernel_rfl
 liesBuilder := by kernel_rfl
 t5 := Tryz.underlying5
 a5 := Tryz.isAgg5
 z5 := Tryz.sizeOf5
 v5 := Tryz.zeroValue5
 infoByte := by kernel_rfl
 cellsByte := by kernel_rfl
 sizeByte := by kernel_rfl
 neB5 := by decide }
open Go.RowKit Go.Lib in
open Go.RowKit Go.Lib in
open Go.RowKit Go.Lib in
open Go.RowKit Go.Lib in
open Go.RowKit Go.Lib in
theorem Tryz.strings_Repeat (s : ByteArray) (c : Nat) (w : World) (hc : c <= 9223372036854775807) (hlen : s.size * c <= 140737488355328) :
   Calls prog 285 #[.string s, .int .i64 c] w fun e w' => e = .returned (.string ⟨(Lib.repeatL s.data.toList c).toArray⟩) /\ Below w.heap.size w w' := Any.strings_Repeat Tryz.lays105 Tryz.Builder_Extra_105 s c w hc hlen
open Go.RowKit Go.Lib in
open Go.RowKit Go.Lib in
open Go.RowKit Go.Lib in
open Go.RowKit in
theorem Tryz.strings_TrimLeft_laid (s cutset : ByteArray) (w : World) (hcs : cutset.size < 4294967281) (hascii : ∀ (j : Nat) b, cutset.data.toList[j]? = some b -> b.toNat < 128) :
   Calls prog 194 #[.string s, .string cutset] w fun e w' => e = .returned (.string ⟨(Lib.trimLeftS s.data.toList cutset.data.toList).toArray⟩) /\ Below w.heap.size w w' :=
 Any.strings_TrimLeft_laid Tryz.lays161 (by kernel_rfl) s cutset w hcs hascii
open Go.RowKit in
theorem Tryz.strings_Trim_laid (s cutset : ByteArray) (w : World) (hs : s.size <= 9223372036854775807) (hcs : cutset.size < 4294967281) (hascii : ∀ (j : Nat) b, cutset.data.toList[j]? = some b -> b.toNat < 128) :
   Calls prog 103 #[.string s, .string cutset] w fun e w' => e = .returned (.string ⟨(Lib.trimS s.data.toList cutset.data.toList).toArray⟩) /\ Below w.heap.size w w' :=
 Any.strings_Trim_laid Tryz.lays160 (by kernel_rfl) s cutset w hs hcs hascii
end Go.Proofs
set_option linter.unusedVariables false
set_option linter.unusedSimpArgs false
set_option maxRecDepth 20000
namespace Go.Pk
def qkV (n : Int) : Prop := n = 9 \/ (32 <= n /\ n <= 47) \/ (59 <= n /\ n <= 64) \/ (91 <= n /\ n <= 96) \/ (123 <= n /\ n <= 126)
instance (n : Int) : Decidable (qkV n) := by unfold qkV; infer_instance
end Go.Pk
namespace Go.Proofs.YtlfolncaghkmcaaGreatDoor
open Go.Pk
open Go.RowKit (Below)
theorem qvF (n : Int) (w : World) : Calls prog qnj #[.int .u8 n] w (Ret fun v w' => v = .bool (decide (qkV n)) /\ w' = w) := by
 apply quA
 unfold qqK
 repeat' (refine BCase.of (fun h => ?_) (fun h => ?_))
 all_goals
   refine ⟨?_, rfl⟩
   congr 1
   rw [Bool.eq_iff_iff]
   simp only [dTx]
   simp only [qkV, beq_iff_eq, beq_eq_false_iff_ne, ge_iff_le, dTx, dFx, true_iff, false_iff, iff_true, reduceCtorEq, Bool.false_eq_true] at *
   omega
end Go.Proofs.YtlfolncaghkmcaaGreatDoor
namespace Go.Pk
def qaL (c : UInt8) : Bool := decide (48 <= c) && decide (c <= 57)
def digP (s : List UInt8) : List UInt8 := s.takeWhile qaL
def decV (l : List UInt8) : Int := l.foldl (fun n c => n * 10 + ((c.toNat : Int) - 48)) 0
theorem qxw : ∀ n, n < 256 -> ([48, 49, 50, 51, 52, 53, 54, 55, 56, 57] : List UInt8).contains (UInt8.ofNat n) = qaL (UInt8.ofNat n) := by decide +kernel
theorem qzZ (c : UInt8) : ([48, 49, 50, 51, 52, 53, 54, 55, 56, 57] : List UInt8).contains c = qaL c := by
 have := qxw c.toNat (by have := c.toNat_lt; omega)
 rwa [UInt8.ofNat_toNat] at this
theorem qBP (s : List UInt8) : Lib.trimLeftS s [48, 49, 50, 51, 52, 53, 54, 55, 56, 57] = s.dropWhile qaL := by
 unfold Lib.trimLeftS
 congr 1
 funext c
 exact qzZ c
theorem qwD (s : List UInt8) : digP s ++ s.dropWhile qaL = s := List.takeWhile_append_dropWhile
theorem qCF (s : List UInt8) : (s.dropWhile qaL).length + (digP s).length = s.length := by
 have := congrArg List.length (qwD s)
 rw [List.length_append] at this; omega
theorem dig_take (s : List UInt8) : s.take (digP s).length = digP s := by
 have h : (digP s ++ s.dropWhile qaL).take (digP s).length = digP s := List.take_left' rfl
 rwa [qwD] at h
theorem digP_all {s : List UInt8} : ∀ c ∈ digP s, qaL c = true := fun c hc => List.all_eq_true.1 (List.all_takeWhile (p := qaL) (l := s)) c hc
theorem qd6 {c : UInt8} : qaL c = true ↔ 48 <= c.toNat /\ c.toNat <= 57 := by
 unfold qaL
 rw [Bool.and_eq_true, dTx, dTx, UInt8.le_iff_toNat_le, UInt8.le_iff_toNat_le]
 exact Iff.rfl
theorem qyo : ∀ (l : List UInt8) (acc : Nat), (∀ c ∈ l, qaL c = true) -> ∃ n : Nat, Lib.decFrom acc l = some n /\ (n : Int) = l.foldl (fun n c => n * 10 + ((c.toNat : Int) - 48)) (acc : Int)
 | [], acc, _ => ⟨acc, rfl, rfl⟩
 | c :: l, acc, h => by
   have hc := qd6.1 (h c List.mem_cons_self)
   obtain ⟨n, h1, h2⟩ := qyo l (acc * 10 + (c.toNat - 48)) fun x hx => h x (List.mem_cons_of_mem _ hx)
   refine ⟨n, ?_, ?_⟩
   · unfold Lib.decFrom Lib.digitVal
     rw [if_pos hc]; exact h1
   · rw [h2, List.foldl_cons]
     congr 1
     omega
theorem qBf {l : List UInt8} (hne : l ≠ []) (h : ∀ c ∈ l, qaL c = true) : Lib.atoi l = some (decV l) := by
 match l, hne with
 | c :: r, _ =>
   have hc := qd6.1 (h c List.mem_cons_self)
   unfold Lib.atoi
   have h1 : (c == 45) = false := by rw [beq_eq_false_iff_ne]; intro e; subst e; simp at hc
   have h2 : (c == 43) = false := by rw [beq_eq_false_iff_ne]; intro e; subst e; simp at hc
   obtain ⟨n, e1, e2⟩ := qyo (c :: r) 0 h
   simp only [h1, h2, Bool.false_eq_true, if_false]
   unfold Lib.decNat
   simp only [List.isEmpty_cons, Bool.false_eq_true, if_false, e1, Option.map_some]
   rw [e2]; rfl
end Go.Pk
namespace Go.Proofs.YtlfolncaghkmcaaGreatDoor
open Go.Pk
open Go.RowKit (Below)
def numV (s : List UInt8) (least most : Int) : Value := if least <= ((digP s).length : Int) /\ ((digP s).length : Int) <= most then .tuple #[.int .i64 (decV (digP s)), .string (mkS (s.drop (digP s).length)), .bool true] else .tuple #[.int .i64 0, .string (mkS s), .bool false]
theorem qxq (w : World) (e : TypeId) (s : ByteArray) : Below w.heap.size w (Lib.bytesWorld w e s) := by
 unfold Lib.bytesWorld
 refine qiF rfl rfl rfl (by simp [World.freeze]) fun k hk => ?_
 simp only [World.freeze, if_neg (show ¬ (1 : Nat) = 0 by decide), Array.getElem?_modify]
 rw [if_neg (show ¬ w.heap.size = k by omega)]
 exact (Below.refl w.drew.heap.size w.drew |>.alloc (Nat.le_refl _) _).block k hk
theorem qk5 (s : List UInt8) (least most : Int) (h1 : 1 <= least) (h2 : most <= 18) (hs : s.length <= 9223372036854775807) (w : World) :
   Calls prog qiA #[.string (mkS s), .int .i64 least, .int .i64 most] w (Ret fun v w' => v = numV s least most /\ Below w.heap.size w w') := by
 apply qto
 unfold qoZ
 refine (Tryz.strings_TrimLeft_laid (mkS s) (mkS [48, 49, 50, 51, 52, 53, 54, 55, 56, 57]) w (by decide) (ascii_of_all (by decide))).mono ?_
 rintro _ w1 ⟨rfl, hb1⟩
 have e : (mkS s).data.toList = s := rfl
 have e2 : (mkS [48, 49, 50, 51, 52, 53, 54, 55, 56, 57]).data.toList = [48, 49, 50, 51, 52, 53, 54, 55, 56, 57] := rfl
 rw [e, e2, qBP]
 refine ⟨s.dropWhile qaL, rfl, ?_⟩
 have hl := qCF s
 have ew : i64.wrap ((s.length : Int) - ((s.dropWhile qaL).length : Int)) = ((digP s).length : Int) := by rw [wrap_i64 (by omega) (by omega)]; omega
 rw [ew]
 refine ⟨fun w' => w' = w1 /\ least <= ((digP s).length : Int) /\ ((digP s).length : Int) <= most, ?_, ?_⟩
 · refine BCase.of (fun h => ?_) (fun h => ?_) <;> simp only [dTx, dFx] at h
   · exact ⟨by unfold numV; rw [if_neg (by omega)], hb1⟩
   · refine BCase.of (fun h3 => ?_) (fun h3 => ?_) <;> simp only [gt_iff_lt, dTx, dFx] at h3
     · exact ⟨by unfold numV; rw [if_neg (by omega)], hb1⟩
     · exact ⟨rfl, by omega, by omega⟩
 · refine AllJ.of ?_ _
   rintro w1 ⟨rfl, h3, h4⟩
   refine ⟨⟨by omega, by omega⟩, ?_⟩
   rintro _ rfl
   simp only [Int.toNat_natCast]
   rw [dig_take]
   have hne : digP s ≠ [] := fun e => by rw [e] at h3; simp at h3; omega
   refine (Tryz.strconv_Atoi (mkS (digP s)) (decV (digP s)) (by show (digP s).length <= 18; omega) (qBf hne digP_all) w1).mono ?_
   rintro _ _ ⟨rfl, t, rfl⟩
   refine ⟨_, _, rfl, ⟨by omega, by omega⟩, ?_⟩
   rintro _ rfl wq hq
   have hb2 := qxq w1 5 t
   refine ⟨by unfold numV; rw [if_pos ⟨h3, h4⟩], qd (qd hb1 hb2 hb1.size) hq (qd hb1 hb2 hb1.size).size⟩
end Go.Proofs.YtlfolncaghkmcaaGreatDoor
namespace Go.Pk
def qxN : List UInt8 := [74, 97, 110, 70, 101, 98, 77, 97, 114, 65, 112, 114, 77, 97, 121, 74, 117, 110, 74, 117, 108, 65, 117, 103, 83, 101, 112, 79, 99, 116, 78, 111, 118, 68, 101, 99]
def qlg (k : Nat) : List UInt8 := lowL ((qxN.take (3 * k + 3)).drop (3 * k))
def qc9 (s : List UInt8) : Nat -> Nat -> Int
 | 0, _ => 0
 | f + 1, k => if 3 <= s.length /\ lowL (s.take 3) = qlg k then (k : Int) + 1 else qc9 s f (k + 1)
def qd9 (s : List UInt8) : Int := qc9 s 12 0
theorem monthFrom_short {s : List UInt8} (h : ¬ 3 <= s.length) : ∀ f k, qc9 s f k = 0
 | 0, _ => rfl
 | f + 1, k => by unfold qc9; rw [if_neg (fun e => h e.1)]; exact monthFrom_short h f (k + 1)
end Go.Pk
namespace Go.Proofs.YtlfolncaghkmcaaGreatDoor
open Go.Pk
open Go.RowKit (Below)
theorem qvE (s : List UInt8) (hs : s.length <= 9223372036854775800) (w : World) : Calls prog qni #[.string (mkS s)] w (Ret fun v w' => v = .int .i64 (qd9 s) /\ Below w.heap.size w w') := by
 apply quz
 unfold qqJ
 refine ⟨fun m i w' => ∃ k : Nat, k <= 12 /\ i = (k : Int) /\ m = 12 - k /\ qd9 s = qc9 s (12 - k) k /\ Below w.heap.size w w', ⟨_, 0, by omega, rfl, rfl, rfl, Below.refl _ _⟩, ?_⟩
 intro m i
 refine AllJ.of ?_ _
 rintro w1 ⟨k, hk, rfl, rfl, hv, hb⟩
 refine ⟨fun w' => w' = w1 /\ k < 12 /\ 3 <= s.length, ?_, ?_⟩
 · refine BCase.of (fun h => ?_) (fun h => ?_) <;> simp only [dTx, dFx] at h
   · refine BCase.of (fun h2 => ?_) (fun h2 => ?_) <;> simp only [ge_iff_le, dTx, dFx] at h2
     · exact ⟨rfl, by omega, by omega⟩
     · exact ⟨by rw [hv, monthFrom_short (by omega)], hb⟩
   · have : k = 12 := by omega
     subst this
     exact ⟨by rw [hv]; rfl, hb⟩
 · refine AllJ.of ?_ _
   rintro w1 ⟨rfl, h1, h2⟩
   rw [wrap_i64 (n := 3 * (k : Int)) (by omega) (by omega), wrap_i64 (n := 3 * (k : Int) + 3) (by omega) (by omega)]
   refine ⟨⟨by omega, by omega⟩, ?_⟩
   rintro _ rfl
   refine ⟨⟨⟨by omega, by simp; omega⟩, by omega, by omega⟩, ?_⟩
   rintro _ rfl
   have e1 : Int.toNat (3 * (k : Int)) = 3 * k := by omega
   have e2 : Int.toNat (3 * (k : Int) + 3) = 3 * k + 3 := by omega
   have e3 : Int.toNat (3 : Int) = 3 := rfl
   rw [e1, e2, e3]
   refine ⟨lowL (s.take 3) == qlg k, fun u hu => ?_, ?_⟩
   · refine (qqg (s.take 3) ((qxN.take (3 * k + 3)).drop (3 * k)) (by simp; omega) (by simp [qxN]; omega) u).mono ?_
     rintro _ w2 ⟨_, rfl, rfl, hb2⟩
     exact ⟨rfl, hb2.mono hu.size⟩
   · intro wq hq
     have ef : 12 - k = (12 - (k + 1)) + 1 := by omega
     rw [ef] at hv
     unfold qc9 at hv
     have ew : i64.wrap ((k : Int) + 1) = (k : Int) + 1 := by rw [wrap_i64 (by omega) (by omega)]
     refine BCase.of (fun h => ?_) (fun h => ?_)
     · rw [beq_iff_eq] at h
       rw [if_pos ⟨h2, h⟩] at hv
       exact ⟨by rw [ew, hv], qd hb hq hb.size⟩
     · rw [beq_eq_false_iff_ne] at h
       rw [if_neg (fun e => h e.2)] at hv
       exact ⟨12 - (k + 1), by omega, k + 1, by omega, by rw [ew]; omega, rfl, hv, qd hb hq hb.size⟩
end Go.Proofs.YtlfolncaghkmcaaGreatDoor
namespace Go.Pk
def colon (i : Nat) (s : List UInt8) : Option (List UInt8) := if i = 0 then some s else if s.head? = some 58 then some (s.drop 1) else none
def qsj (i : Nat) (s : List UInt8) : Option (Int × List UInt8) := (colon i s).bind fun t => if 1 <= (digP t).length /\ (digP t).length <= 2 then some (decV (digP t), t.drop (digP t).length) else none
def qah : Nat -> Nat -> List UInt8 -> Option (List Int)
 | 0, _, _ => some []
 | f + 1, i, s => (qsj i s).bind fun p => (qah f (i + 1) p.2).map (p.1 :: ·)
def qck (s : List UInt8) : Option (List Int) := qah 3 0 s
theorem qzT (s : List UInt8) : Lib.hasPrefix s [58] = decide (s.head? = some 58) /\ (s.head? = some 58 -> Lib.trimPrefix s [58] = s.drop 1) := by
 cases s with
 | nil => exact ⟨by decide, fun h => by cases h⟩
 | cons c s =>
   have ht : Lib.hasPrefix (58 :: s) [58] = true := rfl
   by_cases h : c = 58
   · subst h
     refine ⟨by rw [ht]; simp, fun _ => ?_⟩
     unfold Lib.trimPrefix; rw [ht]; rfl
   · have hf : Lib.hasPrefix (c :: s) [58] = false := by
       show ((58 == c) && _) = false
       rw [beq_eq_false_iff_ne.2 (Ne.symm h)]; rfl
     refine ⟨by rw [hf]; simp [h], fun e => absurd (by simpa using e) h⟩
end Go.Pk
namespace Go.Proofs.YtlfolncaghkmcaaGreatDoor
open Go.Pk
open Go.RowKit (Below)
theorem qvx (l : List Int) : ∀ c ∈ (Value.agg (l.map fun n => Value.int .i64 n).toArray).cells.toList, c.oneCell' = true := by
 intro c hc
 obtain ⟨n, _, rfl⟩ : ∃ n, n ∈ l /\ Value.int .i64 n = c := by simpa [Value.cells] using hc
 rfl
theorem qwy (s : List UInt8) (w : World) : Calls prog qa6 #[.string (mkS s), .string (mkS [58])] w (Ret fun v w' => v = .tuple #[.string (mkS (if s.head? = some 58 then s.drop 1 else s)), .bool (decide (s.head? = some 58))] /\ w' = w) := by
 refine (Tryz.strings_CutPrefix (mkS s) (mkS [58]) w).mono ?_
 rintro _ _ ⟨rfl, rfl⟩
 refine ⟨_, rfl, ?_, rfl⟩
 have h := qzT s
 have e : (mkS s).data.toList = s := rfl
 have e2 : (mkS [58]).data.toList = [58] := rfl
 rw [e, e2, h.1]
 by_cases hc : s.head? = some 58
 · rw [if_pos hc, h.2 hc]; rfl
 · rw [if_neg hc]
   have : Lib.trimPrefix s [58] = s := by unfold Lib.trimPrefix; rw [if_neg (by rw [h.1]; simpa using hc)]
   rw [this]; rfl
def arrV (l : List Int) : List Value := l.map fun n => Value.int .i64 n
def qst (s : List UInt8) (w : World) (v : Value) (w' : World) : Prop :=
 (∃ a b c b', v = .tuple #[.agg #[.int .i64 a, .int .i64 b, .int .i64 c], .bool b'] /\ (qck s = none /\ b' = false \/ qck s = some [a, b, c] /\ b' = true)) /\ Below w.heap.size w w'
end Go.Proofs.YtlfolncaghkmcaaGreatDoor
namespace Go.Proofs.YtlfolncaghkmcaaGreatDoor
open Go.Pk
open Go.RowKit (Below)
theorem three {α : Type} {l : List α} (h : l.length = 3) : ∃ a b c, l = [a, b, c] := by
 match l, h with
 | [a, b, c], _ => exact ⟨a, b, c, rfl⟩
theorem qwu {w w' : World} {k2 k4 : Nat} {out us : List Int} {K : Value -> World -> Prop} {bo : Bool} (h2 : qk w' k2 zV (arrV us)) (h4 : qk w' k4 zV (arrV out)) (hl : out.length = 3) (hu : us.length = 3)
   (hb : Below w.heap.size w w') (hk2 : w.heap.size <= k2)
   (hK : ∀ a b c wx, out = [a, b, c] -> Below w.heap.size w wx -> K (.tuple #[.agg #[.int .i64 a, .int .i64 b, .int .i64 c], .bool bo]) wx) :
   ∃ (n0 : Int) (n1 : Int) (n2 : Int), (Instr.loadAt zV (.pointer (some ⟨k4, 0, none⟩))).run prog w' = .ok (.agg #[.int .i64 n0, .int .i64 n1, .int .i64 n2]) w' /\
     ∃ (wx : World), (Instr.storeAt zV (.pointer (some ⟨k2, 0, none⟩)) (.agg #[.int .i64 n0, .int .i64 n1, .int .i64 n2])).run prog w' = .ok () wx /\
     ∃ (r0 : Int) (r1 : Int) (r2 : Int), (qs zV (.pointer (some ⟨k2, 0, none⟩))).run prog wx = .ok (.agg #[.int .i64 r0, .int .i64 r1, .int .i64 r2]) wx /\
     K (.tuple #[.agg #[.int .i64 r0, .int .i64 r1, .int .i64 r2], .bool bo]) wx := by
 obtain ⟨a, b, c, rfl⟩ := three hl
 obtain ⟨d, e, f, rfl⟩ := three hu
 obtain ⟨ti, hti, hsz, _, _⟩ := qky.info
 refine ⟨a, b, c, h4.loadA qpT rfl hti (us := arrV [a, b, c]) (i := 0) (by rw [hsz]; rfl) (fun j hj => by rw [Nat.zero_add]), ?_⟩
 obtain ⟨wx, hs, h2', hg⟩ := h2.store (P := prog) qky (i := 0) (v := .agg #[.int .i64 a, .int .i64 b, .int .i64 c]) rfl (by simp [arrV]) (qvx [a, b, c])
 refine ⟨wx, hs, a, b, c, ?_, hK a b c wx rfl (hb.grown hg hb.size (fun x e => by cases e; exact hk2))⟩
 exact qk.res (qk.loadA qpT rfl hti h2' (us := arrV [a, b, c]) (i := 0) (by rw [hsz]; rfl) (fun j hj => by simp [arrV, Value.cells]))
theorem qte (n : Int) : ∀ c ∈ (Value.int .i64 n).cells.toList, c.oneCell' = true := by
 intro c hc
 have : c = .int .i64 n := by simpa [Value.cells] using hc
 subst this; rfl
theorem qvD (s : List UInt8) (hs : s.length <= 9223372036854775000) (w : World) : Calls prog qnh #[.string (mkS s)] w (Ret (qst s w)) := by
 apply quy
 unfold qqI
 intro k2 w2 hk2 hw2 k4 w4 hk4 hw4
 have hB2 : Below w.heap.size w w2 := hw2 ▸ qj _ _
 have hB4 : Below w2.heap.size w2 w4 := hw4 ▸ qj _ _
 have hBB : Below w.heap.size w w4 := qd hB2 hB4 hB2.size
 have ha2 : qk w4 k2 zV (arrV [0, 0, 0]) := (qk.new (vs := arrV [0, 0, 0]) hk2 hw2).below hB4
 have ha4 : qk w4 k4 zV (arrV [0, 0, 0]) := qk.new hk4 hw4
 have hs2 : w2.heap.size = w.heap.size + 1 := by rw [hw2]; simp
 have hne : k2 ≠ k4 := by omega
 have hge2 : w.heap.size <= k2 := by omega
 have hge4 : w.heap.size <= k4 := by omega
 refine ⟨fun m t i w' => ∃ (k : Nat) (out : List Int), k <= 3 /\ i = (k : Int) /\ m = 3 - k /\ out.length = 3 /\ t.length <= s.length /\ qck s = (qah (3 - k) k t).map (out.take k ++ ·) /\
     qk w' k2 zV (arrV [0, 0, 0]) /\ qk w' k4 zV (arrV out) /\ Below w.heap.size w w',
   ⟨_, 0, [0, 0, 0], by omega, rfl, rfl, rfl, Nat.le_refl _, by unfold qck; cases qah 3 0 s <;> rfl, ha2, ha4, hBB⟩, ?_⟩
 intro m t i
 refine AllJ.of ?_ _
 rintro w1 ⟨k, out, hk, rfl, rfl, hlen, htl, hv, h2, h4, hb⟩
 refine BCase.of (fun h => ?_) (fun h => ?_) <;> simp only [dTx, dFx] at h
 · have ef : 3 - k = (3 - (k + 1)) + 1 := by omega
   rw [ef] at hv
   unfold qah at hv
   have bad : ∀ {w' : World}, qsj k t = none -> qk w' k2 zV (arrV [0, 0, 0]) -> qk w' k4 zV (arrV out) -> Below w.heap.size w w' -> _ := fun {w'} he h2 h4 hb =>
     qwu (K := qst s w) (bo := false) h2 h4 hlen rfl hb hge2 (fun a b c wx _ hbx => ⟨⟨a, b, c, false, rfl, .inl ⟨by rw [hv, he]; rfl, rfl⟩⟩, hbx⟩)
   refine ⟨fun u w' => w' = w1 /\ colon k t = some u /\ u.length <= s.length, ?_, ?_⟩
   · refine BCase.of (fun h5 => ?_) (fun h5 => ?_) <;> simp only [gt_iff_lt, dTx, dFx] at h5
     · refine callK (qwy t w1) ?_
       rintro _ w1 ⟨rfl, rfl⟩
       refine ⟨_, _, rfl, ?_⟩
       refine BCase.of (fun h6 => ?_) (fun h6 => ?_) <;> simp only [Bool.not_eq_true', Bool.not_eq_false', dTx, dFx] at h6
       · exact bad (by unfold qsj colon; rw [if_neg (by omega), if_neg h6]; rfl) h2 h4 hb
       · exact ⟨rfl, by unfold colon; rw [if_neg (by omega), if_pos h6, if_pos h6], by rw [if_pos h6]; simp; omega⟩
     · exact ⟨rfl, by unfold colon; rw [if_pos (by omega)], htl⟩
   · intro u
     refine AllJ.of ?_ _
     rintro w1 ⟨rfl, hc, hul⟩
     have hst : qsj k t = if 1 <= (digP u).length /\ (digP u).length <= 2 then some (decV (digP u), u.drop (digP u).length) else none := by unfold qsj; rw [hc]; rfl
     refine callK (qk5 u 1 2 (by omega) (by omega) (by omega) w1) ?_
     rintro _ w5 ⟨rfl, hb5⟩
     have h2' := h2.below hb5
     have h4' := h4.below hb5
     have hb' := qd hb hb5 hb.size
     unfold numV
     by_cases hd : 1 <= (digP u).length /\ (digP u).length <= 2
     · rw [if_pos (by omega)]
       rw [if_pos hd] at hst
       refine ⟨_, _, _, rfl, BCase.no rfl ?_⟩
       refine ⟨⟨⟨by omega, by omega⟩, rfl⟩, ?_⟩
       rw [qfR, Nat.zero_add, Nat.mul_one, Int.toNat_natCast]
       obtain ⟨w6, hs6, h6, hg6⟩ := h4'.store (P := prog) (n := 1) (bytes := 8) (z := .int .i64 0) qab (i := k) (v := .int .i64 (decV (digP u))) rfl (by simp [arrV, hlen]; omega) (qte _)
       refine ⟨w6, hs6, 3 - (k + 1), by omega, k + 1, out.set k (decV (digP u)), by omega, ?_, rfl, by simpa using hlen, by simp; omega, ?_, h2'.grown hg6 (fun e => hne (Option.some.inj e)), ?_, hb'.grown hg6 hb'.size (fun x e => by cases e; exact hge4)⟩
       · rw [wrap_i64 (by omega) (by omega)]; omega
       · rw [hv, hst]
         have e1 : (out.set k (decV (digP u))).take (k + 1) = out.take k ++ [decV (digP u)] := by
           rw [List.take_succ_eq_append_getElem (by simp; omega), List.getElem_set_self, List.take_set_of_le (Nat.le_refl _)]
         rw [e1]
         show ((qah (3 - (k + 1)) (k + 1) (u.drop (digP u).length)).map _).map _ = _
         rw [Option.map_map]
         congr 1
         funext x
         simp
       · have e2 : arrV (out.set k (decV (digP u))) = (arrV out).take k ++ [Value.int .i64 (decV (digP u))] ++ (arrV out).drop (k + 1) := by
           unfold arrV
           rw [List.map_set, List.set_eq_take_append_cons_drop, if_pos (by simp; omega)]
           simp
         rw [e2]; exact h6
     · rw [if_neg (by omega)]
       rw [if_neg hd] at hst
       refine ⟨_, _, _, rfl, BCase.yes rfl ?_⟩
       exact bad hst h2' h4' hb'
 · have : k = 3 := by omega
   subst this
   exact qwu (K := qst s w) (bo := true) h2 h4 hlen rfl hb hge2 (fun a b c wx e hbx => ⟨⟨a, b, c, true, rfl, .inr ⟨by rw [hv, e]; rfl, rfl⟩⟩, hbx⟩)
end Go.Proofs.YtlfolncaghkmcaaGreatDoor
namespace Go.Pk
open Go.RowKit (Below)
structure Fnd where
 time : Bool
 day : Bool
 month : Bool
 year : Bool
 s0 : Int
 s1 : Int
 s2 : Int
 y : Int
 m : Int
 d : Int
def Fnd.cells (f : Fnd) : List Value := [.bool f.time, .bool f.day, .bool f.month, .bool f.year, .int .i64 f.s0, .int .i64 f.s1, .int .i64 f.s2, .int .i64 f.y, .int .i64 f.m, .int .i64 f.d]
def qep (s : List UInt8) (least most : Int) : Bool := decide (least <= ((digP s).length : Int) /\ ((digP s).length : Int) <= most)
def tokV (f : Fnd) (s : List UInt8) : Fnd :=
 match qck s, f.time with
 | some [a, b, c], false => { f with s0 := a, s1 := b, s2 := c, time := true }
 | _, _ => if qep s 1 2 = true /\ f.day = false then { f with d := decV (digP s), day := true }
   else if 0 < qd9 s /\ f.month = false then { f with m := qd9 s, month := true }
   else if qep s 2 4 = true /\ f.year = false then { f with y := decV (digP s), year := true } else f
theorem qze (w : World) (r : Option Nat) : w.grownBy w r := ⟨rfl, rfl, rfl, Nat.le_refl _, fun _ _ _ => rfl⟩
theorem jW {a b c : World} {r : Option Nat} (h : a.grownBy b r) (k : b.grownBy c r) : a.grownBy c r :=
 ⟨k.os.trans h.os, k.tape.trans h.tape, k.output.trans h.output, Nat.le_trans h.size k.size, fun q hq hne => (k.block q (Nat.lt_of_lt_of_le hq h.size) hne).trans (h.block q hq hne)⟩
theorem qdn {a b : World} (h : Below a.heap.size a b) (r : Option Nat) : a.grownBy b r := ⟨h.os, h.tape, h.output, h.size, fun q hq _ => h.block q hq⟩
end Go.Pk
namespace Go.Proofs.YtlfolncaghkmcaaGreatDoor
open Go.Pk
open Go.RowKit (Below)
theorem qlP (k o : Nat) : Option.map (fun (x : Addr) => x.add o) (some ⟨k, 0, none⟩) = some ⟨k, o, none⟩ := by
 simp [jj]
theorem qsl (b : Bool) : ∀ c ∈ (Value.bool b).cells.toList, c.oneCell' = true := by
 intro c hc
 have : c = .bool b := by simpa [Value.cells] using hc
 subst this; rfl
def qCm (k : Nat) (f : Fnd) (s : List UInt8) (w : World) (v : Value) (w' : World) : Prop := v = .tuple #[] /\ qk w' k qc5 (tokV f s).cells /\ w.grownBy w' (some k)
theorem qAJ {s : List UInt8} {l m : Int} (h : qep s l m = true) : numV s l m = .tuple #[.int .i64 (decV (digP s)), .string (mkS (s.drop (digP s).length)), .bool true] := by
 unfold qep at h; unfold numV; rw [if_pos (by simpa using h)]
theorem qyF {s : List UInt8} {l m : Int} (h : qep s l m = false) : numV s l m = .tuple #[.int .i64 0, .string (mkS s), .bool false] := by
 unfold qep at h; unfold numV; rw [if_neg (by simpa using h)]
end Go.Proofs.YtlfolncaghkmcaaGreatDoor
namespace Go.Proofs.YtlfolncaghkmcaaGreatDoor
open Go.Pk
open Go.RowKit (Below)
theorem qnY {f : Fnd} {s : List UInt8} {a b c : Int} (h : qck s = some [a, b, c]) (ht : f.time = false) : tokV f s = { f with s0 := a, s1 := b, s2 := c, time := true } := by
 unfold tokV; rw [h, ht]
theorem qnX {f : Fnd} {s : List UInt8} (h : qck s = none \/ f.time = true) : tokV f s = if qep s 1 2 = true /\ f.day = false then { f with d := decV (digP s), day := true }
   else if 0 < qd9 s /\ f.month = false then { f with m := qd9 s, month := true }
   else if qep s 2 4 = true /\ f.year = false then { f with y := decV (digP s), year := true } else f := by
 unfold tokV
 rcases h with h | h
 · rw [h]
 · rw [h]
   split
   · rename_i h1 h2; cases h2
   · rfl
theorem date_token_ok (k : Nat) (f : Fnd) (s : List UInt8) (hs : s.length <= 9223372036854775000) (w : World) (hf : qk w k qc5 f.cells) :
   Calls prog qiz #[.pointer (some ⟨k, 0, none⟩), .string (mkS s)] w (Ret (qCm k f s w)) := by
 apply qoF
 unfold qkC
 simp only [qlP]
 have h0 : Option.isSome (some (⟨k, 0, none⟩ : Addr)) = true := rfl
 obtain ⟨ti, hti, hsz, _, _⟩ := qky.info
 refine ⟨fun w' => w.grownBy w' (some k) /\ qk w' k qc5 f.cells /\ (qck s = none \/ f.time = true), ?_, ?_⟩
 · refine callK (qvD s hs w) ?_
   rintro _ w1 ⟨⟨a, b, c, bo, rfl, hcl⟩, hb1⟩
   refine ⟨a, b, c, bo, rfl, ?_⟩
   intro k4 w4 hk4 hw4
   have hB4 : Below w.heap.size w w4 := qd hb1 (hw4 ▸ qj _ _) hb1.size
   have h4 : qk w4 k4 zV (arrV [0, 0, 0]) := qk.new hk4 hw4
   have hlt := hf.lt
   have hne : k4 ≠ k := by have := hb1.size; omega
   obtain ⟨w5, hs5, h5, hg5⟩ := h4.store (P := prog) qky (i := 0) (v := .agg #[.int .i64 a, .int .i64 b, .int .i64 c]) rfl (by simp [arrV]) (qvx [a, b, c])
   have hB5 : Below w.heap.size w w5 := hB4.grown hg5 hB4.size (fun x e => by cases e; have := hb1.size; omega)
   have hf5 := hf.below hB5
   have h5' : qk w5 k4 zV (arrV [a, b, c]) := by simpa [arrV, Value.cells] using h5
   refine ⟨w5, hs5, fun b' w' => w' = w5 /\ b' = (bo && !f.time), ?_, ?_⟩
   · refine BCase.of (fun h => ?_) (fun h => ?_)
     · refine ⟨h0, h0, f.time, hf5.load1 un_bool rfl rfl, rfl, by rw [h]; rfl⟩
     · exact ⟨rfl, by rw [h]; rfl⟩
   · intro b'
     refine AllJ.of ?_ _
     rintro w5 ⟨rfl, rfl⟩
     refine BCase.of (fun h => ?_) (fun h => ?_)
     · rw [Bool.and_eq_true, Bool.not_eq_true'] at h
       have hcl' : qck s = some [a, b, c] := by
         rcases hcl with ⟨_, e⟩ | ⟨e, _⟩
         · rw [e] at h; cases h.1
         · exact e
       refine ⟨a, b, c, h5'.loadA qpT rfl hti (us := arrV [a, b, c]) (i := 0) (by rw [hsz]; rfl) (fun j hj => by rw [Nat.zero_add]), h0, h0, ?_⟩
       obtain ⟨w6, hs6, h6, hg6⟩ := hf5.store (P := prog) qky (i := 4) (v := .agg #[.int .i64 a, .int .i64 b, .int .i64 c]) rfl (by simp [Fnd.cells]) (qvx [a, b, c])
       refine ⟨w6, hs6, h0, h0, ?_⟩
       obtain ⟨w7, hs7, h7, hg7⟩ := h6.store (P := prog) qcr (i := 0) (v := .bool true) rfl (by simp [Fnd.cells, Value.cells]) (qsl true)
       refine ⟨w7, hs7, rfl, ?_, jW (jW (qdn hB5 _) hg6) hg7⟩
       rw [qnY hcl' h.2]
       simpa [Fnd.cells, Value.cells] using h7
     · refine ⟨qdn hB5 _, hf5, ?_⟩
       rcases hcl with ⟨e, _⟩ | ⟨_, e⟩
       · exact .inl e
       · rw [e] at h; right; simpa using h
 · refine AllJ.of ?_ _
   rintro w1 ⟨hg1, hf1, hr1⟩
   have htok := qnX hr1
   refine ⟨fun w' => w.grownBy w' (some k) /\ qk w' k qc5 f.cells /\ ¬ (qep s 1 2 = true /\ f.day = false), ?_, ?_⟩
   · refine callK (qk5 s 1 2 (by omega) (by omega) (by omega) w1) ?_
     rintro _ w2 ⟨rfl, hb2⟩
     have hf2 := hf1.below hb2
     have hg2 := jW hg1 (qdn hb2 (some k))
     have hnum : ∃ (n : Int) (r : List UInt8), numV s 1 2 = .tuple #[.int .i64 n, .string (mkS r), .bool (qep s 1 2)] /\ (qep s 1 2 = true -> n = decV (digP s)) := by
       cases hn : qep s 1 2
       · exact ⟨_, _, qyF hn, fun e => by cases e⟩
       · exact ⟨_, _, qAJ hn, fun _ => rfl⟩
     obtain ⟨n, r, hne, hnv⟩ := hnum
     refine ⟨n, r, qep s 1 2, by rw [hne], fun b' w' => w' = w2 /\ b' = (qep s 1 2 && !f.day), ?_, ?_⟩
     · refine BCase.of (fun h => ?_) (fun h => ?_)
       · exact ⟨h0, h0, f.day, hf2.load1 un_bool rfl rfl, rfl, by rw [h]; rfl⟩
       · exact ⟨rfl, by rw [h]; rfl⟩
     · intro b'
       refine AllJ.of ?_ _
       rintro w2 ⟨rfl, rfl⟩
       refine BCase.of (fun h => ?_) (fun h => ?_)
       · rw [Bool.and_eq_true, Bool.not_eq_true'] at h
         refine ⟨h0, h0, ?_⟩
         obtain ⟨w6, hs6, h6, hg6⟩ := hf2.store (P := prog) qab (i := 9) (v := .int .i64 n) rfl (by simp [Fnd.cells]) (qte n)
         refine ⟨w6, hs6, h0, h0, ?_⟩
         obtain ⟨w7, hs7, h7, hg7⟩ := h6.store (P := prog) qcr (i := 1) (v := .bool true) rfl (by simp [Fnd.cells, Value.cells]) (qsl true)
         refine ⟨w7, hs7, rfl, ?_, jW (jW hg2 hg6) hg7⟩
         rw [htok, if_pos h, <- hnv h.1]
         simpa [Fnd.cells, Value.cells] using h7
       · refine ⟨hg2, hf2, fun hc => ?_⟩
         rw [hc.1, hc.2] at h; cases h
   · refine AllJ.of ?_ _
     rintro w2 ⟨hg2, hf2, hr2⟩
     rw [if_neg hr2] at htok
     refine ⟨fun w' => w.grownBy w' (some k) /\ qk w' k qc5 f.cells /\ ¬ (0 < qd9 s /\ f.month = false), ?_, ?_⟩
     · refine callK (qvE s (by omega) w2) ?_
       rintro _ w3 ⟨rfl, hb3⟩
       have hf3 := hf2.below hb3
       have hg3 := jW hg2 (qdn hb3 (some k))
       refine ⟨_, rfl, fun b' w' => w' = w3 /\ b' = (decide (0 < qd9 s) && !f.month), ?_, ?_⟩
       · refine BCase.of (fun h => ?_) (fun h => ?_)
         · exact ⟨h0, h0, f.month, hf3.load1 un_bool rfl rfl, rfl, by rw [show decide (0 < qd9 s) = true from h]; rfl⟩
         · exact ⟨rfl, by rw [show decide (0 < qd9 s) = false from h]; rfl⟩
       · intro b'
         refine AllJ.of ?_ _
         rintro w3 ⟨rfl, rfl⟩
         refine BCase.of (fun h => ?_) (fun h => ?_)
         · rw [Bool.and_eq_true, Bool.not_eq_true', dTx] at h
           refine ⟨h0, h0, ?_⟩
           obtain ⟨w6, hs6, h6, hg6⟩ := hf3.store (P := prog) qab (i := 8) (v := .int .i64 (qd9 s)) rfl (by simp [Fnd.cells]) (qte _)
           refine ⟨w6, hs6, h0, h0, ?_⟩
           obtain ⟨w7, hs7, h7, hg7⟩ := h6.store (P := prog) qcr (i := 2) (v := .bool true) rfl (by simp [Fnd.cells, Value.cells]) (qsl true)
           refine ⟨w7, hs7, rfl, ?_, jW (jW hg3 hg6) hg7⟩
           rw [htok, if_pos h]
           simpa [Fnd.cells, Value.cells] using h7
         · refine ⟨hg3, hf3, fun hc => ?_⟩
           rw [decide_eq_true hc.1, hc.2] at h; cases h
     · refine AllJ.of ?_ _
       rintro w3 ⟨hg3, hf3, hr3⟩
       rw [if_neg hr3] at htok
       refine callK (qk5 s 2 4 (by omega) (by omega) (by omega) w3) ?_
       rintro _ w4 ⟨rfl, hb4⟩
       have hf4 := hf3.below hb4
       have hg4 := jW hg3 (qdn hb4 (some k))
       have hnum : ∃ (n : Int) (r : List UInt8), numV s 2 4 = .tuple #[.int .i64 n, .string (mkS r), .bool (qep s 2 4)] /\ (qep s 2 4 = true -> n = decV (digP s)) := by
         cases hn : qep s 2 4
         · exact ⟨_, _, qyF hn, fun e => by cases e⟩
         · exact ⟨_, _, qAJ hn, fun _ => rfl⟩
       obtain ⟨n, r, hne, hnv⟩ := hnum
       refine ⟨n, r, qep s 2 4, by rw [hne], fun b' w' => w' = w4 /\ b' = (qep s 2 4 && !f.year), ?_, ?_⟩
       · refine BCase.of (fun h => ?_) (fun h => ?_)
         · exact ⟨h0, h0, f.year, hf4.load1 un_bool rfl rfl, rfl, by rw [h]; rfl⟩
         · exact ⟨rfl, by rw [h]; rfl⟩
       · intro b'
         refine AllJ.of ?_ _
         rintro w4 ⟨rfl, rfl⟩
         refine BCase.of (fun h => ?_) (fun h => ?_)
         · rw [Bool.and_eq_true, Bool.not_eq_true'] at h
           refine ⟨h0, h0, ?_⟩
           obtain ⟨w6, hs6, h6, hg6⟩ := hf4.store (P := prog) qab (i := 7) (v := .int .i64 n) rfl (by simp [Fnd.cells]) (qte n)
           refine ⟨w6, hs6, h0, h0, ?_⟩
           obtain ⟨w7, hs7, h7, hg7⟩ := h6.store (P := prog) qcr (i := 3) (v := .bool true) rfl (by simp [Fnd.cells, Value.cells]) (qsl true)
           refine ⟨w7, hs7, rfl, ?_, jW (jW hg4 hg6) hg7⟩
           rw [htok, if_pos h, <- hnv h.1]
           simpa [Fnd.cells, Value.cells] using h7
         · refine ⟨rfl, ?_, hg4⟩
           rw [htok, if_neg (fun hc => by rw [hc.1, hc.2] at h; cases h)]
           exact hf4
end Go.Proofs.YtlfolncaghkmcaaGreatDoor
namespace Go.Pk
def qiH (c : UInt8) : Bool := decide (qkV (c.toNat : Int))
def cutP : List UInt8 -> List UInt8 -> List (List UInt8)
 | cur, [] => [cur]
 | cur, c :: r => if qiH c then cur :: cutP [] r else cutP (cur ++ [c]) r
def fnd0 : Fnd := ⟨false, false, false, false, 0, 0, 0, 0, 0, 0⟩
def qf2 (s : List UInt8) : Fnd := (cutP [] s).foldl tokV fnd0
def qen (y : Int) : Int := if 70 <= y /\ y <= 99 then y + 1900 else if y < 70 then y + 2000 else y
def qjw (f : Fnd) : Prop := zz (qen f.y) f.m f.d /\ f.time = true /\ f.year = true /\ f.s0 <= 23 /\ f.s1 <= 59 /\ f.s2 <= 59
instance (f : Fnd) : Decidable (qjw f) := by unfold qjw; infer_instance
def qgh (f : Fnd) : Int := jZ (qen f.y) f.m f.d * 86400 + f.s0 * 3600 + f.s1 * 60 + f.s2
def qiT (f : Fnd) : Value := if qjw f then .tuple #[.int .i64 (qgh f), .bool true] else .tuple #[.int .i64 0, .bool false]
structure qqX (f : Fnd) : Prop where
 s0 : 0 <= f.s0 /\ f.s0 <= 99
 s1 : 0 <= f.s1 /\ f.s1 <= 99
 s2 : 0 <= f.s2 /\ f.s2 <= 99
 y : 0 <= f.y /\ f.y <= 9999
 d : 0 <= f.d /\ f.d <= 99
 m : 0 <= f.m /\ f.m <= 12
 m0 : f.month = false ↔ f.m = 0
 d0 : f.day = false -> f.d = 0
 y0 : f.year = false -> f.y = 0
theorem qdc : ∀ (l : List UInt8) (acc : Int), 0 <= acc -> (∀ c ∈ l, qaL c = true) -> 0 <= l.foldl (fun n c => n * 10 + ((c.toNat : Int) - 48)) acc /\ l.foldl (fun n c => n * 10 + ((c.toNat : Int) - 48)) acc < (acc + 1) * 10 ^ l.length
 | [], acc, h, _ => by simp; omega
 | c :: l, acc, h, hd => by
   have hc := qd6.1 (hd c List.mem_cons_self)
   obtain ⟨h1, h2⟩ := qdc l (acc * 10 + ((c.toNat : Int) - 48)) (by omega) fun x hx => hd x (List.mem_cons_of_mem _ hx)
   rw [List.foldl_cons]
   refine ⟨h1, Int.lt_of_lt_of_le h2 ?_⟩
   rw [List.length_cons, Int.pow_succ, Int.mul_comm (10 ^ l.length) 10, <- Int.mul_assoc]
   exact Int.mul_le_mul_of_nonneg_right (by omega) (Int.pow_nonneg (by decide))
theorem qmo {a b : Nat} (h : a <= b) : (10 : Int) ^ a <= 10 ^ b := by
 have := Nat.pow_le_pow_right (n := 10) (by decide) h
 have e : ∀ k : Nat, ((10 ^ k : Nat) : Int) = 10 ^ k := fun k => by simp
 rw [<- e, <- e]; omega
theorem qxu {s : List UInt8} (k : Nat) (h : (digP s).length <= k) : 0 <= decV (digP s) /\ decV (digP s) < 10 ^ k := by
 obtain ⟨h1, h2⟩ := qdc (digP s) 0 (by decide) digP_all
 refine ⟨h1, Int.lt_of_lt_of_le h2 ?_⟩
 rw [Int.zero_add, Int.one_mul]
 exact qmo h
theorem qha : ∀ (f i : Nat) (s : List UInt8) (l : List Int), qah f i s = some l -> l.length = f /\ ∀ x ∈ l, 0 <= x /\ x <= 99
 | 0, i, s, l, h => by simp [qah] at h; subst h; simp
 | f + 1, i, s, l, h => by
   unfold qah at h
   cases hs : qsj i s with
   | none => rw [hs] at h; cases h
   | some p =>
     rw [hs] at h
     simp only [Option.bind_some] at h
     cases hr : qah f (i + 1) p.2 with
     | none => rw [hr] at h; cases h
     | some r =>
       rw [hr] at h
       simp only [Option.map_some, Option.some.injEq] at h
       subst h
       obtain ⟨h1, h2⟩ := qha f (i + 1) p.2 r hr
       refine ⟨by simp [h1], fun x hx => ?_⟩
       rcases List.mem_cons.1 hx with rfl | hx
       · unfold qsj at hs
         cases hc : colon i s with
         | none => rw [hc] at hs; cases hs
         | some t =>
           rw [hc] at hs
           simp only [Option.bind_some] at hs
           split at hs
           · rename_i hd
             simp only [Option.some.injEq] at hs
             subst hs
             have := qxu 2 hd.2
             simp only; omega
           · cases hs
       · exact h2 x hx
theorem qrF (s : List UInt8) : ∀ (f k : Nat), 0 <= qc9 s f k /\ qc9 s f k <= (k : Int) + f
 | 0, k => by simp [qc9]
 | f + 1, k => by
   unfold qc9
   have := qrF s f (k + 1)
   split <;> omega
theorem qjX (f : Fnd) (s : List UInt8) : (∃ a b c, qck s = some [a, b, c] /\ f.time = false /\ tokV f s = { f with s0 := a, s1 := b, s2 := c, time := true }) \/
   (qck s = none \/ f.time = true) /\ tokV f s = if qep s 1 2 = true /\ f.day = false then { f with d := decV (digP s), day := true }
   else if 0 < qd9 s /\ f.month = false then { f with m := qd9 s, month := true }
   else if qep s 2 4 = true /\ f.year = false then { f with y := decV (digP s), year := true } else f := by
 cases hc : qck s with
 | none => right; refine ⟨.inl rfl, ?_⟩; unfold tokV; rw [hc]
 | some l =>
   obtain ⟨hl, _⟩ := qha 3 0 s l hc
   match l, hl with
   | [a, b, c], _ =>
     cases ht : f.time with
     | false => left; refine ⟨a, b, c, rfl, rfl, ?_⟩; unfold tokV; rw [hc, ht]
     | true =>
       right; refine ⟨.inr rfl, ?_⟩; unfold tokV; rw [hc, ht]
theorem qA4 {f : Fnd} (h : qqX f) (s : List UInt8) : qqX (tokV f s) := by
 rcases qjX f s with ⟨a, b, c, hc, ht, e⟩ | ⟨_, e⟩
 · rw [e]
   obtain ⟨_, hr⟩ := qha 3 0 s _ hc
   exact ⟨hr a (by simp), hr b (by simp), hr c (by simp), h.y, h.d, h.m, h.m0, h.d0, h.y0⟩
 · rw [e]
   split
   · rename_i h1
     have hn : (digP s).length <= 2 := by have := h1.1; unfold qep at this; simp at this; omega
     have := qxu 2 hn
     exact ⟨h.s0, h.s1, h.s2, h.y, ⟨this.1, by simp only; omega⟩, h.m, h.m0, (fun e => by cases e), h.y0⟩
   · split
     · rename_i h1
       have := qrF s 12 0
       have h2 := h1.1
       unfold qd9 at h2 ⊢
       refine ⟨h.s0, h.s1, h.s2, h.y, h.d, ⟨by simp only; omega, by simp only; omega⟩, ⟨(fun e => by cases e), fun e => ?_⟩, h.d0, h.y0⟩
       simp only at e; omega
     · split
       · rename_i h1
         have hn : (digP s).length <= 4 := by have := h1.1; unfold qep at this; simp at this; omega
         have := qxu 4 hn
         exact ⟨h.s0, h.s1, h.s2, ⟨this.1, by simp only; omega⟩, h.d, h.m, h.m0, h.d0, fun e => by cases e⟩
       · exact h
theorem qq5 : qqX fnd0 := ⟨by decide, by decide, by decide, by decide, by decide, by decide, by decide, by decide, by decide⟩
theorem qrq : ∀ (l : List (List UInt8)) {f : Fnd}, qqX f -> qqX (l.foldl tokV f)
 | [], f, h => h
 | s :: l, f, h => qrq l (qA4 h s)
theorem qyQ (f : Fnd) : tokV f [] = f := by
 rcases qjX f [] with ⟨a, b, c, hc, _⟩ | ⟨_, e⟩
 · have : qck [] = none := by decide
   rw [this] at hc; cases hc
 · rw [e, if_neg (fun h => by have : qep [] 1 2 = false := by decide
                              rw [this] at h; cases h.1),
     if_neg (fun h => by have : qd9 [] = 0 := by decide
                         rw [this] at h; exact absurd h.1 (by decide)),
     if_neg (fun h => by have : qep [] 2 4 = false := by decide
                         rw [this] at h; cases h.1)]
theorem qm6 {f : Fnd} (h : zz (qen f.y) f.m f.d) : -134774 <= jZ (qen f.y) f.m f.d /\ jZ (qen f.y) f.m f.d <= 2932896 := by
 have hh := qym h
 obtain ⟨h1, h2, h3, h4, h5, h6⟩ := h
 have e1 := qlU (a := 1601) (b := qen f.y) (by omega) h1
 have e2 := qlU (a := qen f.y + 1) (b := 10000) (by omega) (by omega)
 have e3 : dY 1601 = 584388 := by decide
 have e4 : dY 10000 = 3652059 := by decide
 omega
end Go.Pk
namespace Go.Pk
open Go.RowKit (Below)
theorem qu0 {n : Int} (h1 : -134774 <= n) (h2 : n <= 2932896) : ∃ y m d, zz y m d /\ jZ y m d = n := by
 have h := qvz h1 h2 _ _ _ _ _ _ rfl rfl rfl rfl rfl rfl
 exact ⟨_, _, _, h.2.2.2.2.2.2.2.2.2.2.2.2⟩
def dig1 (n : Int) : UInt8 := UInt8.ofNat (48 + n.toNat % 10)
def twoL (n : Int) : List UInt8 := [dig1 (n / 10), dig1 n]
def qrs : List (List UInt8) := [[84, 104, 117], [70, 114, 105], [83, 97, 116], [83, 117, 110], [77, 111, 110], [84, 117, 101], [87, 101, 100]]
def qrc : List (List UInt8) := [[74, 97, 110], [70, 101, 98], [77, 97, 114], [65, 112, 114], [77, 97, 121], [74, 117, 110], [74, 117, 108], [65, 117, 103], [83, 101, 112], [79, 99, 116], [78, 111, 118], [68, 101, 99]]
def qhC (k : Int) : List UInt8 := qrs[k.toNat]?.getD []
def monN (m : Int) : List UInt8 := qrc[(m - 1).toNat]?.getD []
def qg0 (s : Int) : List UInt8 := twoL (s / 3600) ++ [58] ++ twoL (s / 60 % 60) ++ [58] ++ twoL (s % 60)
def qkN (n y m d s : Int) : List UInt8 := qhC (n % 7) ++ [44, 32] ++ twoL d ++ [32] ++ monN m ++ [32] ++ (twoL (y / 100) ++ twoL (y % 100)) ++ [32] ++ qg0 s ++ [32, 71, 77, 84]
open Classical in
noncomputable def qdm (t : Int) : List UInt8 := if h : ∃ p : Int × Int × Int, zz p.1 p.2.1 p.2.2 /\ jZ p.1 p.2.1 p.2.2 = t / 86400 then
 qkN (t / 86400) (Classical.choose h).1 (Classical.choose h).2.1 (Classical.choose h).2.2 (t % 86400) else []
theorem qmz {t y m d : Int} (h : zz y m d) (e : jZ y m d = t / 86400) : qdm t = qkN (t / 86400) y m d (t % 86400) := by
 have hex : ∃ p : Int × Int × Int, zz p.1 p.2.1 p.2.2 /\ jZ p.1 p.2.1 p.2.2 = t / 86400 := ⟨(y, m, d), h, e⟩
 unfold qdm
 rw [dif_pos hex]
 obtain ⟨h1, h2⟩ := Classical.choose_spec hex
 obtain ⟨e1, e2, e3⟩ := qyn h1 h (h2.trans e.symm)
 rw [e1, e2, e3]
theorem qjW {t : Int} (h : t / 86400 < -134774 \/ 2932896 < t / 86400) : qdm t = [] := by
 unfold qdm
 rw [dif_neg]
 rintro ⟨p, h1, h2⟩
 have := qsI h1
 omega
theorem qwJ : ∀ n, n < 100 -> 10 <= n -> Lib.decDigits n = twoL (n : Int) := by decide +kernel
theorem itoa1_all : ∀ n, n < 10 -> (48 : UInt8) :: Lib.decDigits n = twoL (n : Int) := by decide +kernel
theorem qBk : ∀ n, n < 10 -> (Lib.decDigits n).length = 1 := by decide +kernel
theorem qyp (u : Nat) (h : 10 <= u) : Lib.decDigits u = Lib.decDigits (u / 10) ++ [UInt8.ofNat (48 + u % 10)] := by
 rw [Lib.decDigits, dif_neg (by omega)]
theorem qDO {y : Int} (h1 : 1000 <= y) (h2 : y <= 9999) : Lib.itoa y = twoL (y / 100) ++ twoL (y % 100) := by
 obtain ⟨n, rfl⟩ : ∃ n : Nat, y = (n : Int) := ⟨y.toNat, by omega⟩
 rw [Lib.itoa_nonneg, qyp n (by omega), qyp (n / 10) (by omega), show n / 10 / 10 = n / 100 by omega, qwJ (n / 100) (by omega) (by omega)]
 unfold twoL dig1
 rw [show (((n / 100 : Nat) : Int)) = (n : Int) / 100 by omega]
 have e1 : ((n : Int) % 100 / 10).toNat % 10 = n / 10 % 10 := by omega
 have e2 : ((n : Int) % 100).toNat % 10 = n % 10 := by omega
 rw [e1, e2]; rfl
theorem qC (n : Int) : (twoL n).length = 2 := rfl
theorem qhJ (n : Int) : qaL (dig1 n) = true /\ ((dig1 n).toNat : Int) = 48 + n.toNat % 10 := by
 have h : (dig1 n).toNat = 48 + n.toNat % 10 := by
   unfold dig1; rw [UInt8.toNat_ofNat']; omega
 exact ⟨qd6.2 (by omega), by omega⟩
theorem qBL {P : Program} {name : String} {k : IntKind} {zs : List Int} {w w' : World} (h : Lib.TabIs P w name k zs) (hb : ∀ b, b < w.heap.size -> P.globalNamed name = some b -> w'.heap[b]? = w.heap[b]?) : Lib.TabIs P w' name k zs := by
 unfold Lib.TabIs World.var? at h ⊢
 cases hg : P.globalNamed name with
 | none => rw [hg] at h; cases h
 | some g =>
   rw [hg] at h
   simp only [Option.bind_some] at h ⊢
   have hlt : g < w.heap.size := by
     cases hh : w.heap[g]? with
     | none => rw [hh] at h; cases h
     | some o => exact (Array.getElem?_eq_some_iff.1 hh).1
   rw [hb g hlt hg]; exact h
theorem qyP {P : Program} {name : String} {k : IntKind} {zs : List Int} {w w' : World} (h : Lib.TabIs P w name k zs) (hb : Below w.heap.size w w') : Lib.TabIs P w' name k zs :=
 qBL h fun b hlt _ => hb.block b hlt
end Go.Pk
namespace Go.Pk
theorem qsJ {s : List UInt8} {k : Nat} (h : k < s.length) : qaL s[k] = true ↔ 48 <= qH s (k : Int) /\ qH s (k : Int) <= 57 := by
 rw [qie (i := (k : Int)) (by simpa using h), qd6]
 simp only [Int.toNat_natCast]; omega
theorem qix (l : List UInt8) (c : UInt8) : decV (l ++ [c]) = decV l * 10 + ((c.toNat : Int) - 48) := by unfold decV; rw [List.foldl_append]; rfl
end Go.Pk
namespace Go.Proofs.YtlfolncaghkmcaaGreatDoor
open Go.Pk
open Go.RowKit (Below)
theorem ref01_Lower_ok (s : List UInt8) (hs : s.length <= 9223372036854775800) (w : World) : Calls prog zN #[.string (mkS s)] w (Ret fun v w' => v = .string (mkS (lowL s)) /\ Below w.heap.size w w') := by
 apply qtA
 unfold qpa
 refine ⟨fun m o i w' => ∃ k : Nat, k <= s.length /\ i = (k : Int) /\ o = lowL (s.take k) /\ m = s.length - k /\ Below w.heap.size w w', ⟨_, 0, by omega, rfl, rfl, rfl, Below.refl _ _⟩, ?_⟩
 intro m o i
 refine AllJ.of ?_ _
 rintro w1 ⟨k, hk, rfl, rfl, rfl, hb⟩
 refine BCase.of (fun h => ?_) (fun h => ?_) <;> simp only [dTx, dFx] at h
 · have hlt : k < s.length := by omega
   have hlow := qyB s[k]
   have hu := qgK s[k]
   rw [qie (i := (k : Int)) (by simpa using hlt)]
   simp only [Int.toNat_natCast]
   refine ⟨⟨by omega, h⟩, intJ (w := w1) ((lowC s[k]).toNat : Nat) ?_ ?_⟩
   · refine BCase.of (fun h2 => ?_) (fun h2 => ?_) <;> simp only [ge_iff_le, dTx, dFx] at h2
     · refine BCase.of (fun h3 => ?_) (fun h3 => ?_) <;> simp only [ge_iff_le, dTx, dFx] at h3
       · rw [if_pos ⟨h2, h3⟩] at hlow
         exact ⟨rfl, by rw [qeZ (by omega) (by omega), hlow]⟩
       · rw [if_neg (fun e => h3 e.2)] at hlow
         exact ⟨rfl, hlow.symm⟩
     · rw [if_neg (fun e => h2 e.1)] at hlow
       exact ⟨rfl, hlow.symm⟩
   · intro k1 w2 hk1 hw2
     have ho : Ow tU8 qU w2 NoB (some ⟨k1, 0, none⟩) 1 1 [lowC s[k]] := Ow.newF qkc hk1 hw2 (RepL.one (qiV rfl)) (show 1 <= maxLen by decide)
     have hl : (lowL (s.take k)).length = k := by simp [lowL]; omega
     refine ⟨_, qi9 qac un_string un_uint8 ho.all, by rw [hl]; simp [IntKind.max, IntKind.bits]; omega, ?_⟩
     rintro _ rfl
     refine ⟨s.length - (k + 1), by omega, k + 1, by omega, by rw [wrap_i64 (by omega) (by omega)]; omega, ?_, rfl, qd hb (hw2 ▸ qj _ _) hb.size⟩
     unfold lowL; rw [List.take_succ_eq_append_getElem hlt, List.map_append]; rfl
 · have : k = s.length := by omega
   subst this
   rw [List.take_length]; exact ⟨rfl, hb⟩
end Go.Proofs.YtlfolncaghkmcaaGreatDoor
namespace Go.Pk
def qid (u : List UInt8) : Option (Int × List UInt8) := if 1 <= (digP u).length /\ (digP u).length <= 2 then some (decV (digP u), u.drop (digP u).length) else none
def zy (f i : Nat) (u : List UInt8) : Option (List Int) := (qid u).bind fun p => (qah f (i + 1) p.2).map (p.1 :: ·)
theorem qdo (f i : Nat) (s : List UInt8) : qah (f + 1) i s = (colon i s).bind (zy f i) := by
 show (qsj i s).bind _ = _
 unfold qsj zy
 cases colon i s <;> rfl
end Go.Pk

namespace Go.Pk
theorem qlp : ∀ (s cur : List UInt8) (k : Nat) (h : k < s.length), cutP cur (s.drop k) = if qiH s[k] then cur :: cutP [] (s.drop (k + 1)) else cutP (cur ++ [s[k]]) (s.drop (k + 1)) := fun s cur k h => by
 rw [List.drop_eq_getElem_cons h]; rfl
theorem qqm {s : List UInt8} {k : Nat} (h : k < s.length) : decide (qkV (qH s (k : Int))) = qiH s[k] := by
 unfold qiH; rw [qie (i := (k : Int)) (by simpa using h)]; simp only [Int.toNat_natCast]
end Go.Pk

namespace Go.Proofs.YtlfolncaghkmcaaGreatDoor
open Go.Pk
open Go.RowKit (Below)
theorem qBq (f : Fnd) : f.cells[7]? = some (.int .i64 f.y) := rfl
theorem qua (s : List UInt8) (hs : s.length <= 10000000) (w : World) : Calls prog ql0 #[.string (mkS s)] w (Ret fun v w' => v = qiT (qf2 s) /\ Below w.heap.size w w') := by
 apply qtm
 unfold qoX
 intro k4 w4 hk4 hw4
 have hB4 : Below w.heap.size w w4 := hw4 ▸ qj _ _
 have hf4 : qk w4 k4 qc5 fnd0.cells := qk.new hk4 hw4
 have htr : true = true := rfl
 have hk4w : ∀ x, some k4 = some x -> w.heap.size <= x := fun x e => by cases e; omega
 refine ⟨fun m fr i w' => ∃ (k j : Nat) (f : Fnd), k <= s.length + 1 /\ i = (k : Int) /\ fr = (j : Int) /\ j <= k /\ m = s.length + 1 - k /\ qqX f /\
     qf2 s = (if k <= s.length then (cutP ((s.take k).drop j) (s.drop k)).foldl tokV f else f) /\ qk w' k4 qc5 f.cells /\ Below w.heap.size w w',
   ⟨_, 0, 0, fnd0, by omega, rfl, rfl, Nat.le_refl _, rfl, qq5, by rw [if_pos (Nat.zero_le _)]; rfl, hf4, hB4⟩, ?_⟩
 intro m fr i
 refine AllJ.of ?_ _
 rintro w1 ⟨k, j, f, hk, rfl, rfl, hj, rfl, hok, htold, hf1, hb1⟩
 have ew : k <= s.length -> i64.wrap ((k : Int) + 1) = ((k + 1 : Nat) : Int) := fun hle => by rw [wrap_i64 (by omega) (by omega)]; omega
 refine BCase.of (fun h => ?_) (fun h => ?_) <;> simp only [dTx, dFx] at h
 · have hle : k <= s.length := by omega
   rw [if_pos hle] at htold
   rw [ew hle]
   refine j3 (w := w1) (decide (k = s.length \/ ∃ h : k < s.length, qiH s[k] = true)) ?_ ?_
   · refine BCase.of (fun h2 => ?_) (fun h2 => ?_)
     · rw [beq_iff_eq] at h2
       exact ⟨rfl, (decide_eq_true (.inl (by omega))).symm⟩
     · rw [beq_eq_false_iff_ne] at h2
       have hlt : k < s.length := by omega
       refine ⟨⟨by omega, by omega⟩, ?_⟩
       refine callK (qvF _ w1) ?_
       rintro _ w1 ⟨rfl, rfl⟩
       refine ⟨_, rfl, rfl, ?_⟩
       rw [qqm hlt]
       cases hp : qiH s[k]
       · exact (decide_eq_false (by rintro (e | ⟨_, e⟩); · omega
                                    · rw [hp] at e; cases e)).symm
       · exact (decide_eq_true (.inr ⟨hlt, hp⟩)).symm
   · have hcut : (cutP ((s.take k).drop j) (s.drop k)) = if (k = s.length \/ ∃ h : k < s.length, qiH s[k] = true) then (s.take k).drop j :: (if k < s.length then cutP [] (s.drop (k + 1)) else []) else cutP ((s.take (k + 1)).drop j) (s.drop (k + 1)) := by
       by_cases hlt : k < s.length
       · rw [qlp s _ k hlt]
         cases hp : qiH s[k]
         · rw [if_neg (by decide), if_neg (by rintro (e | ⟨_, e⟩); · omega
                                              · rw [hp] at e; cases e)]
           rw [List.take_succ_eq_append_getElem hlt, List.drop_append_of_le_length (by rw [List.length_take]; omega)]
         · rw [if_pos rfl, if_pos (.inr ⟨hlt, hp⟩), if_pos hlt]
       · have : k = s.length := by omega
         subst this
         rw [if_pos (.inl rfl), if_neg hlt]
         simp [cutP]
     refine BCase.of (fun h2 => ?_) (fun h2 => ?_) <;> simp only [dTx, dFx] at h2
     · rw [if_pos h2] at hcut
       rw [hcut, List.foldl_cons] at htold
       have fin : ∀ {f' : Fnd} {w' : World}, f' = tokV f ((s.take k).drop j) -> qk w' k4 qc5 f'.cells -> Below w.heap.size w w' ->
           ∃ q : Nat, q < s.length + 1 - k /\ ∃ (k2 j : Nat) (f : Fnd), k2 <= s.length + 1 /\ ((k + 1 : Nat) : Int) = (k2 : Int) /\ ((k + 1 : Nat) : Int) = (j : Int) /\ j <= k2 /\ q = s.length + 1 - k2 /\ qqX f /\
             qf2 s = (if k2 <= s.length then (cutP ((s.take k2).drop j) (s.drop k2)).foldl tokV f else f) /\ qk w' k4 qc5 f.cells /\ Below w.heap.size w w' := by
         rintro f' w' rfl ha hb'
         refine ⟨s.length + 1 - (k + 1), by omega, k + 1, k + 1, _, by omega, rfl, rfl, Nat.le_refl _, rfl, qA4 hok _, ?_, ha, hb'⟩
         rw [htold]
         by_cases hlt : k < s.length
         · rw [if_pos hlt, if_pos (show k + 1 <= s.length from hlt)]
           congr 2
           rw [List.drop_eq_nil_of_le (by rw [List.length_take]; omega)]
         · rw [if_neg hlt, if_neg (by omega)]; rfl
       refine BCase.of (fun h3 => ?_) (fun h3 => ?_) <;> simp only [gt_iff_lt, dTx, dFx] at h3
       · refine ⟨⟨⟨by omega, by omega⟩, by omega, by omega⟩, ?_⟩
         rintro _ rfl
         simp only [Int.toNat_natCast]
         refine callK (date_token_ok k4 f _ (by simp; omega) w1 hf1) ?_
         rintro _ w5 ⟨rfl, hf5, hg5⟩
         exact ⟨rfl, fin rfl hf5 (hb1.grown hg5 hb1.size hk4w)⟩
       · refine fin ?_ hf1 hb1
         have : (s.take k).drop j = [] := List.drop_eq_nil_of_le (by rw [List.length_take]; omega)
         rw [this, qyQ]
     · rw [if_neg h2] at hcut
       have hlt : k < s.length := by
         by_cases e : k = s.length
         · exact absurd (.inl e) h2
         · omega
       refine ⟨s.length + 1 - (k + 1), by omega, k + 1, j, f, by omega, rfl, rfl, by omega, rfl, hok, ?_, hf1, hb1⟩
       rw [if_pos (show k + 1 <= s.length from hlt), htold, hcut]
 · rw [if_neg (by omega)] at htold
   subst htold
   generalize qf2 s = f at *
   have hy := hok.y
   have l7 := hf1.load1 (P := prog) (i := 7) qK rfl (qBq f)
   have bad : ∀ {w' : World}, ¬ qjw f -> Below w.heap.size w w' -> (.tuple #[.int .i64 (0 : Int), .bool false] : Value) = qiT f /\ Below w.heap.size w w' := fun hn hb' => ⟨by unfold qiT; rw [if_neg hn], hb'⟩
   refine worldJ (fun w' => qk w' k4 qc5 ({ f with y := qen f.y } : Fnd).cells /\ Below w.heap.size w w') ?_ ?_
   · refine j3 (w := w1) (decide (70 <= f.y /\ f.y <= 99)) ?_ ?_
     · refine ⟨htr, _, l7, ?_⟩
       refine BCase.of (fun h2 => ?_) (fun h2 => ?_) <;> simp only [ge_iff_le, dTx, dFx] at h2
       · refine ⟨htr, _, l7, rfl, ?_⟩
         simp [h2]
       · refine ⟨rfl, ?_⟩
         simp [h2]
     · have st : ∀ n : Int, n = qen f.y -> ∃ wx : World, (Instr.storeAt qt (.pointer (some ⟨k4, 7, none⟩)) (.int .i64 n)).run prog w1 = .ok () wx /\ qk wx k4 qc5 ({ f with y := qen f.y } : Fnd).cells /\ Below w.heap.size w wx := by
         rintro _ rfl
         obtain ⟨w7, hs7, h7, hg7⟩ := hf1.store (P := prog) qab (i := 7) (v := .int .i64 (qen f.y)) rfl (by simp [Fnd.cells]) (qte _)
         exact ⟨w7, hs7, by simpa [Fnd.cells, Value.cells] using h7, hb1.grown hg7 hb1.size hk4w⟩
       refine BCase.of (fun h2 => ?_) (fun h2 => ?_) <;> simp only [dTx, dFx] at h2
       · exact ⟨htr, _, l7, htr, st _ (by unfold qen; rw [if_pos h2, wrap_i64 (by omega) (by omega)])⟩
       · refine ⟨htr, _, l7, ?_⟩
         refine BCase.of (fun h3 => ?_) (fun h3 => ?_) <;> simp only [dTx, dFx] at h3
         · exact ⟨htr, _, l7, htr, st _ (by unfold qen; rw [if_neg h2, if_pos h3, wrap_i64 (by omega) (by omega)])⟩
         · have : qen f.y = f.y := by unfold qen; rw [if_neg h2, if_neg h3]
           rw [this]; exact ⟨hf1, hb1⟩
   · rintro w2 ⟨hf2, hb2⟩
     refine ⟨htr, _, hf2.load1 qK rfl rfl, htr, _, hf2.load1 qK rfl rfl, htr, _, hf2.load1 qK rfl rfl, ?_⟩
     have hd9 := hok.d
     refine callK (qm9 _ _ _ (by simp only; omega) w2) ?_
     rintro _ w3 ⟨rfl, hb3⟩
     refine ⟨_, _, rfl, ?_⟩
     have hf3 := hf2.below hb3
     have hb23 := qd hb2 hb3 hb2.size
     have tr3 : ∀ i : Int, 0 <= i -> i < 3 -> ((0 <= i /\ i < ((3 : Nat) : Int)) /\ true = true) := fun i h1 h2 => ⟨⟨h1, h2⟩, rfl⟩
     have l4 : (Instr.loadAt qt (.pointer (ql (some ⟨k4, 4, none⟩) (0 : Int) 1))).run prog w3 = .ok (.int .i64 f.s0) w3 := by rw [qfR]; exact hf3.load1 qK rfl rfl
     have l5 : (Instr.loadAt qt (.pointer (ql (some ⟨k4, 4, none⟩) (1 : Int) 1))).run prog w3 = .ok (.int .i64 f.s1) w3 := by rw [qfR]; exact hf3.load1 qK rfl rfl
     have l6 : (Instr.loadAt qt (.pointer (ql (some ⟨k4, 4, none⟩) (2 : Int) 1))).run prog w3 = .ok (.int .i64 f.s2) w3 := by rw [qfR]; exact hf3.load1 qK rfl rfl
     refine factJ (w := w3) (qjw f) ?_ ?_
     · refine BCase.of (fun h3 => ?_) (fun h3 => ?_) <;> simp only [Bool.not_eq_true', Bool.not_eq_false', dTx, dFx] at h3
       · exact bad (fun hc => h3 hc.1) hb23
       refine ⟨htr, _, hf3.load1 un_bool rfl rfl, ?_⟩
       refine BCase.of (fun h4 => ?_) (fun h4 => ?_) <;> simp only [Bool.not_eq_true', Bool.not_eq_false'] at h4
       · exact bad (fun hc => by rw [hc.2.1] at h4; cases h4) hb23
       refine ⟨htr, _, hf3.load1 un_bool rfl rfl, ?_⟩
       refine BCase.of (fun h5 => ?_) (fun h5 => ?_) <;> simp only [Bool.not_eq_true', Bool.not_eq_false'] at h5
       · exact bad (fun hc => by rw [hc.2.2.1] at h5; cases h5) hb23
       refine ⟨htr, tr3 0 (by decide) (by decide), _, l4, ?_⟩
       refine BCase.of (fun h6 => ?_) (fun h6 => ?_) <;> simp only [gt_iff_lt, dTx, dFx] at h6
       · exact bad (fun hc => by have := hc.2.2.2.1; omega) hb23
       refine ⟨htr, tr3 1 (by decide) (by decide), _, l5, ?_⟩
       refine BCase.of (fun h7 => ?_) (fun h7 => ?_) <;> simp only [gt_iff_lt, dTx, dFx] at h7
       · exact bad (fun hc => by have := hc.2.2.2.2.1; omega) hb23
       refine ⟨htr, tr3 2 (by decide) (by decide), _, l6, ?_⟩
       refine BCase.of (fun h8 => ?_) (fun h8 => ?_) <;> simp only [gt_iff_lt, dTx, dFx] at h8
       · exact bad (fun hc => by have := hc.2.2.2.2.2; omega) hb23
       exact ⟨rfl, h3, h4, h5, by omega, by omega, by omega⟩
     · intro hc
       refine ⟨htr, tr3 0 (by decide) (by decide), _, l4, htr, tr3 1 (by decide) (by decide), _, l5, htr, tr3 2 (by decide) (by decide), _, l6, ?_, hb23⟩
       have hr := qm6 hc.1
       have h0 := hok.s0; have h1 := hok.s1; have h2 := hok.s2
       unfold qiT
       rw [if_pos hc, if_pos hc.1]
       unfold qgh
       rw [wrap_i64 (n := jZ (qen f.y) f.m f.d * 86400) (by omega) (by omega), wrap_i64 (n := f.s0 * 3600) (by omega) (by omega), wrap_i64 (n := f.s1 * 60) (by omega) (by omega), wrap_i64 (n := jZ (qen f.y) f.m f.d * 86400 + f.s0 * 3600) (by omega) (by omega),
         wrap_i64 (n := jZ (qen f.y) f.m f.d * 86400 + f.s0 * 3600 + f.s1 * 60) (by omega) (by omega), wrap_i64 (by omega) (by omega)]
end Go.Proofs.YtlfolncaghkmcaaGreatDoor
namespace Go.Pk
open Go.RowKit (Below)
theorem qpm (w : World) (k : Nat) (os : Array Obj) : Below w.heap.size w (Go.Sort.grow (w.drewN k) os) := by
 refine qiF rfl rfl rfl (by simp [Go.Sort.grow, World.drewN]) fun j hj => ?_
 show (w.heap ++ os)[j]? = _
 rw [Array.getElem?_append_left hj]
abbrev qpW (P : Program) (w : World) : Prop := Lib.TabIs P w "internal/strconv.uint64pow10" .u64 Lib.pow10Tab
end Go.Pk
namespace Go.Proofs.YtlfolncaghkmcaaGreatDoor
open Go.Pk
open Go.RowKit (Below)
theorem qiu (n : Int) (h0 : 0 <= n) (h1 : n < 100) (w : World) : Calls prog qe0 #[.int .i64 n, .int .i64 2] w (Ret fun v w' => v = .string (mkS (twoL n)) /\ Below w.heap.size w w') := by
 obtain ⟨k, rfl⟩ : ∃ k : Nat, n = (k : Int) := ⟨n.toNat, by omega⟩
 apply qnM
 unfold qll
 refine (Tryz.strconv_Itoa_small k (by omega) w).mono ?_
 rintro _ _ ⟨rfl, rfl⟩
 refine ⟨Lib.decDigits k, rfl, ?_⟩
 by_cases h : k < 10
 · have hl := qBk k h
   have e1 : i64.wrap ((2 : Int) - (((Lib.decDigits k).length : Nat) : Int)) = ((1 : Nat) : Int) := by rw [hl, wrap_i64 (by omega) (by omega)]; omega
   rw [e1]
   refine (Tryz.strings_Repeat (mkS [48]) 1 _ (by decide) (by decide)).mono ?_
   rintro _ w1 ⟨rfl, hb⟩
   refine ⟨[48], rfl, by rw [hl]; decide, ?_⟩
   rintro _ rfl
   exact ⟨by rw [<- itoa1_all k h]; rfl, hb⟩
 · have e2 := qwJ k (by omega) (by omega)
   have hl : (Lib.decDigits k).length = 2 := by rw [e2]; rfl
   have e1 : i64.wrap ((2 : Int) - (((Lib.decDigits k).length : Nat) : Int)) = ((0 : Nat) : Int) := by rw [hl, wrap_i64 (by omega) (by omega)]; omega
   rw [e1]
   refine (Tryz.strings_Repeat (mkS [48]) 0 _ (by decide) (by decide)).mono ?_
   rintro _ w1 ⟨rfl, hb⟩
   refine ⟨[], rfl, by rw [hl]; decide, ?_⟩
   rintro _ rfl
   exact ⟨by rw [<- e2]; rfl, hb⟩
theorem qsH (n : Int) (h0 : 1000 <= n) (h1 : n <= 9999) (w : World) (ht : qpW prog w) : Calls prog qe0 #[.int .i64 n, .int .i64 4] w (Ret fun v w' => v = .string (mkS (twoL (n / 100) ++ twoL (n % 100))) /\ Below w.heap.size w w') := by
 apply qnM
 unfold qll
 refine (Tryz.strconv_Itoa n (by omega) (by omega) w ht).mono ?_
 rintro _ _ ⟨rfl, k, os, rfl⟩
 have e2 := qDO h0 h1
 refine ⟨Lib.itoa n, rfl, ?_⟩
 have hl : (Lib.itoa n).length = 4 := by rw [e2]; rfl
 have e1 : i64.wrap ((4 : Int) - (((Lib.itoa n).length : Nat) : Int)) = ((0 : Nat) : Int) := by rw [hl, wrap_i64 (by omega) (by omega)]; omega
 rw [e1]
 refine (Tryz.strings_Repeat (mkS [48]) 0 _ (by decide) (by decide)).mono ?_
 rintro _ w1 ⟨rfl, hb⟩
 refine ⟨[], rfl, by rw [hl]; decide, ?_⟩
 rintro _ rfl
 have hb0 := qpm w k os
 exact ⟨by rw [<- e2]; rfl, qd hb0 hb hb0.size⟩
theorem qBX : ∀ k, k < 7 -> (([84, 104, 117, 70, 114, 105, 83, 97, 116, 83, 117, 110, 77, 111, 110, 84, 117, 101, 87, 101, 100] : List UInt8).take (3 * k + 3)).drop (3 * k) = qhC (k : Int) := by decide
theorem qCX : ∀ k, k < 12 -> (([74, 97, 110, 70, 101, 98, 77, 97, 114, 65, 112, 114, 77, 97, 121, 74, 117, 110, 74, 117, 108, 65, 117, 103, 83, 101, 112, 79, 99, 116, 78, 111, 118, 68, 101, 99] : List UInt8).take (3 * k + 3)).drop (3 * k) = monN ((k : Int) + 1) := by decide
theorem qBY : ∀ k : Nat, k < 7 -> (qhC (k : Int)).length = 3 := by decide
theorem qCY : ∀ k : Nat, k < 12 -> (monN ((k : Int) + 1)).length = 3 := by decide
theorem qoj {k : Int} (h0 : 0 <= k) (h1 : k < 7) : (qhC k).length = 3 := by
 have := qBY k.toNat (by omega)
 rwa [show ((k.toNat : Nat) : Int) = k by omega] at this
theorem qqf {k : Int} (h0 : 1 <= k) (h1 : k <= 12) : (monN k).length = 3 := by
 have := qCY (k - 1).toNat (by omega)
 rwa [show (((k - 1).toNat : Nat) : Int) + 1 = k by omega] at this
theorem date_Text_ok (t : Int) (h0 : -9223372036854775808 <= t) (h1 : t <= 9223372036854775807) (w : World) (ht : qpW prog w) : Calls prog qj6 #[.int .i64 t] w (Ret fun v w' => v = .string (mkS (qdm t)) /\ Below w.heap.size w w') := by
 apply qv7
 unfold qrL
 obtain ⟨e1, e2⟩ := qhZ (t := t) (b := 86400) (by decide)
 refine ⟨by decide, ?_⟩
 rintro _ rfl
 refine ⟨by decide, ?_⟩
 rintro _ rfl
 refine ⟨fun n s w' => w' = w /\ n = t / 86400 /\ s = t % 86400, ?_, ?_⟩
 · refine BCase.of (fun h => ?_) (fun h => ?_) <;> simp only [dTx, dFx] at h
   · have hneg : t < 0 := by
       by_cases c : 0 <= t
       · have := (e1 c).2; omega
       · omega
     obtain ⟨e3, e4⟩ := e2 hneg
     rw [e4] at h
     rw [e3, e4, wrap_i64 (n := -(-t / 86400)) (by omega) (by omega), wrap_i64 (by omega) (by omega), wrap_i64 (by omega) (by omega)]
     exact ⟨rfl, by omega, by omega⟩
   · by_cases c : 0 <= t
     · rw [(e1 c).1, (e1 c).2, wrap_i64 (by omega) (by omega)]; exact ⟨rfl, rfl, rfl⟩
     · obtain ⟨e3, e4⟩ := e2 (by omega)
       rw [e4] at h
       rw [e3, e4, wrap_i64 (by omega) (by omega)]; exact ⟨rfl, by omega, by omega⟩
 · clear e1 e2
   intro n s
   refine AllJ.of ?_ _
   rintro w ⟨rfl, rfl, rfl⟩
   refine callK (qvC _ w (by omega)) ?_
   rintro _ w1 ⟨rfl, hb1⟩
   by_cases hr : t / 86400 < -134774 \/ 2932896 < t / 86400
   · rw [qel hr]
     refine ⟨_, _, _, _, rfl, BCase.yes rfl ⟨by rw [qjW hr], hb1⟩⟩
   obtain ⟨y, m, d, hd, he⟩ := qu0 (n := t / 86400) (by omega) (by omega)
   rw [qmz hd he, <- he, qj1 hd, he]
   refine ⟨y, m, d, true, rfl, BCase.no rfl ?_⟩
   have hdd := hd
   obtain ⟨hy1, hy2, hm1, hm2, hd1, hd2⟩ := hdd
   have hd3 := qfX y m
   generalize hn : t / 86400 = n at *
   generalize hs : t % 86400 = s at *
   have hs0 : 0 <= s /\ s < 86400 := by omega
   clear h0 h1 hn hs he
   obtain ⟨e1, e2⟩ := qhZ (t := n) (b := 7) (by decide)
   have e7 : -7 < Int.tmod n 7 /\ Int.tmod n 7 < 7 /\ (Int.tmod n 7 + 7) % 7 = n % 7 := by
     by_cases c : 0 <= n
     · rw [(e1 c).2]; omega
     · rw [(e2 (by omega)).2]; omega
   clear e1 e2
   refine ⟨by decide, ?_⟩
   rintro _ rfl
   refine ⟨by decide, ?_⟩
   rintro _ rfl
   have e8 : Int.tmod (i64.wrap (Int.tmod n 7 + 7)) 7 = n % 7 := by rw [wrap_i64 (by omega) (by omega), tmod_pos (by omega), e7.2.2]
   rw [e8]
   clear e7 e8
   have hk0 : 0 <= n % 7 /\ n % 7 < 7 := by omega
   have hwl := qoj hk0.1 hk0.2
   have hml := qqf hm1 hm2
   obtain ⟨k, hk⟩ : ∃ k : Nat, n % 7 = (k : Int) := ⟨(n % 7).toNat, by omega⟩
   obtain ⟨j, hj⟩ : ∃ j : Nat, m = (j : Int) + 1 := ⟨(m - 1).toNat, by omega⟩
   have hwk := qBX k (by omega)
   have hmk := qCX j (by omega)
   rw [<- hk] at hwk
   rw [<- hj] at hmk
   rw [wrap_i64 (n := 3 * (n % 7)) (by omega) (by omega), wrap_i64 (n := 3 * (n % 7) + 3) (by omega) (by omega), show (3 * (n % 7) + 3).toNat = 3 * k + 3 by omega, show (3 * (n % 7)).toNat = 3 * k by omega, hwk]
   refine ⟨⟨⟨by omega, by simp only [List.length_cons, List.length_nil]; omega⟩, by omega, by omega⟩, ?_⟩
   rintro _ rfl
   refine ⟨fits (by simp only [List.length_append, qC, hwl, hml, List.length_cons, List.length_nil]; omega), ?_⟩
   rintro _ rfl
   refine ⟨twoL d, fun u hu => qaF (qiu d (by omega) (by omega) u) hu, ?_⟩
   refine ⟨fits (by simp only [List.length_append, qC, hwl, hml, List.length_cons, List.length_nil]; omega), ?_⟩
   rintro _ rfl
   refine ⟨fits (by simp only [List.length_append, qC, hwl, hml, List.length_cons, List.length_nil]; omega), ?_⟩
   rintro _ rfl
   rw [wrap_i64 (n := 3 * m) (by omega) (by omega), wrap_i64 (n := 3 * m - 3) (by omega) (by omega), show (3 * m).toNat = 3 * j + 3 by omega, show (3 * m - 3).toNat = 3 * j by omega, hmk]
   refine ⟨⟨⟨by omega, by simp only [List.length_cons, List.length_nil]; omega⟩, by omega, by omega⟩, ?_⟩
   rintro _ rfl
   refine ⟨fits (by simp only [List.length_append, qC, hwl, hml, List.length_cons, List.length_nil]; omega), ?_⟩
   rintro _ rfl
   refine ⟨fits (by simp only [List.length_append, qC, hwl, hml, List.length_cons, List.length_nil]; omega), ?_⟩
   rintro _ rfl
   refine ⟨twoL (y / 100) ++ twoL (y % 100), fun u hu => qaF (qsH y (by omega) (by omega) u (qyP (qyP ht hb1) hu)) hu, ?_⟩
   refine ⟨fits (by simp only [List.length_append, qC, hwl, hml, List.length_cons, List.length_nil]; omega), ?_⟩
   rintro _ rfl
   refine ⟨fits (by simp only [List.length_append, qC, hwl, hml, List.length_cons, List.length_nil]; omega), ?_⟩
   rintro _ rfl
   refine ⟨by decide, ?_⟩
   rintro _ rfl
   rw [tdiv_pos hs0.1, wrap_i64 (n := s / 3600) (by omega) (by omega)]
   refine ⟨twoL (s / 3600), fun u hu => qaF (qiu _ (by omega) (by omega) u) hu, ?_⟩
   refine ⟨fits (by simp only [List.length_append, qC, hwl, hml, List.length_cons, List.length_nil]; omega), ?_⟩
   rintro _ rfl
   refine ⟨fits (by simp only [List.length_append, qC, hwl, hml, List.length_cons, List.length_nil]; omega), ?_⟩
   rintro _ rfl
   refine ⟨by decide, ?_⟩
   rintro _ rfl
   refine ⟨by decide, ?_⟩
   rintro _ rfl
   rw [tdiv_pos hs0.1, wrap_i64 (n := s / 60) (by omega) (by omega), tmod_pos (a := s / 60) (by omega)]
   refine ⟨twoL (s / 60 % 60), fun u hu => qaF (qiu _ (by omega) (by omega) u) hu, ?_⟩
   refine ⟨fits (by simp only [List.length_append, qC, hwl, hml, List.length_cons, List.length_nil]; omega), ?_⟩
   rintro _ rfl
   refine ⟨fits (by simp only [List.length_append, qC, hwl, hml, List.length_cons, List.length_nil]; omega), ?_⟩
   rintro _ rfl
   refine ⟨by decide, ?_⟩
   rintro _ rfl
   rw [tmod_pos (a := s) hs0.1]
   refine ⟨twoL (s % 60), fun u hu => qaF (qiu _ (by omega) (by omega) u) hu, ?_⟩
   refine ⟨fits (by simp only [List.length_append, qC, hwl, hml, List.length_cons, List.length_nil]; omega), ?_⟩
   rintro _ rfl
   refine ⟨fits (by simp only [List.length_append, qC, hwl, hml, List.length_cons, List.length_nil]; omega), ?_⟩
   rintro _ rfl
   intro wq hq
   refine ⟨?_, qd hb1 hq hb1.size⟩
   congr 2
   simp [qkN, qg0, List.append_assoc]
end Go.Proofs.YtlfolncaghkmcaaGreatDoor
namespace Go.Pk
open Go.RowKit (Below)
def stripR (p : UInt8 -> Bool) (s : List UInt8) : List UInt8 := (s.reverse.dropWhile p).reverse
def stripB (p : UInt8 -> Bool) (s : List UInt8) : List UInt8 := stripR p (s.dropWhile p)
theorem qkx (p : UInt8 -> Bool) (x : UInt8) (s : List UInt8) : stripR p (x :: s) = if stripR p s = [] then (if p x then [] else [x]) else x :: stripR p s := by
 unfold stripR
 rw [List.reverse_cons]
 have key : ∀ t : List UInt8, List.dropWhile p (t ++ [x]) = if List.dropWhile p t = [] then (if p x then [] else [x]) else List.dropWhile p t ++ [x] := by
   intro t
   induction t with
   | nil => simp [List.dropWhile_cons]
   | cons y t ih =>
     rw [List.cons_append, List.dropWhile_cons, List.dropWhile_cons]
     split
     · exact ih
     · rw [if_neg (by simp)]; rfl
 rw [key]
 by_cases h : List.dropWhile p s.reverse = []
 · have h' : (List.dropWhile p s.reverse).reverse = [] := by rw [h]; rfl
   rw [if_pos h, if_pos h']
   split <;> rfl
 · have h' : ¬ (List.dropWhile p s.reverse).reverse = [] := by simpa using h
   rw [if_neg h, if_neg h']
   simp
theorem qow (p : UInt8 -> Bool) : ∀ s : List UInt8, (stripR p s).dropWhile p = stripB p s
 | [] => rfl
 | x :: s => by
   have ih := qow p s
   unfold stripB at ih ⊢
   cases hx : p x with
   | true =>
     have e1 : List.dropWhile p (x :: s) = List.dropWhile p s := by rw [List.dropWhile_cons, if_pos hx]
     rw [e1, <- ih, qkx]
     by_cases h : stripR p s = []
     · rw [if_pos h, if_pos hx, h]
     · rw [if_neg h, List.dropWhile_cons, if_pos hx]
   | false =>
     have hx' : ¬ p x = true := by rw [hx]; decide
     have e1 : List.dropWhile p (x :: s) = x :: s := by rw [List.dropWhile_cons, if_neg hx']
     rw [e1, qkx]
     by_cases h : stripR p s = []
     · rw [if_pos h, if_neg hx', List.dropWhile_cons, if_neg hx']
     · rw [if_neg h, List.dropWhile_cons, if_neg hx']
theorem qoT (p : UInt8 -> Bool) : ∀ s : List UInt8, stripR p s = [] ↔ s.all p = true
 | [] => by simp [stripR]
 | x :: s => by
   have ih := qoT p s
   rw [qkx, List.all_cons, Bool.and_eq_true, <- ih]
   by_cases h : stripR p s = []
   · rw [if_pos h]
     cases p x <;> simp [h]
   · rw [if_neg h]; simp [h]
theorem qjh (p : UInt8 -> Bool) : ∀ s : List UInt8, stripB p s = [] ↔ s.all p = true
 | [] => by simp [stripB, stripR]
 | x :: s => by
   unfold stripB
   rw [List.dropWhile_cons]
   cases hx : p x with
   | true => rw [if_pos rfl, List.all_cons, hx, Bool.true_and]; exact qjh p s
   | false => rw [if_neg (by decide), qoT]
theorem qzu (p : UInt8 -> Bool) (s : List UInt8) : ∀ x ∈ stripR p s, x ∈ s := fun x hx => by
 unfold stripR at hx
 rw [List.mem_reverse] at hx
 exact List.mem_reverse.1 ((List.dropWhile_sublist p).subset hx)
theorem qvf (p : UInt8 -> Bool) (s : List UInt8) : ∀ x ∈ stripB p s, x ∈ s := fun x hx => (List.dropWhile_sublist p).subset (qzu p _ x hx)
theorem qro (p : UInt8 -> Bool) (s : List UInt8) : (stripB p s).length <= s.length := by
 unfold stripB stripR
 rw [List.length_reverse]
 have h1 := (List.dropWhile_sublist p (l := (s.dropWhile p).reverse)).length_le
 have h2 := (List.dropWhile_sublist p (l := s)).length_le
 rw [List.length_reverse] at h1; omega
theorem qtT (s cs : List UInt8) : Lib.trimS s cs = stripB (cs.contains ·) s := qow _ s
def isBl (c : UInt8) : Bool := c == 32 || c == 9
def zo (s : List UInt8) : List UInt8 := stripB isBl s
theorem qy0 : ∀ n, n < 256 -> ([32, 9] : List UInt8).contains (UInt8.ofNat n) = isBl (UInt8.ofNat n) := by decide +kernel
theorem qDo (c : UInt8) : ([32, 9] : List UInt8).contains c = isBl c := by
 have := qy0 c.toNat (by have := c.toNat_lt; omega)
 rwa [UInt8.ofNat_toNat] at this
theorem qDa (s : List UInt8) : Lib.trimS s [32, 9] = zo s := by
 rw [qtT]; unfold zo; congr 1; exact funext qDo
def jS (s : List UInt8) : Bool := !(s == []) && s.all qaL
theorem qx8 (s : List UInt8) : (Lib.trimS s [48, 49, 50, 51, 52, 53, 54, 55, 56, 57] == []) = s.all qaL := by
 rw [qtT]
 have e : (fun x => ([48, 49, 50, 51, 52, 53, 54, 55, 56, 57] : List UInt8).contains x) = qaL := funext qzZ
 rw [e, Bool.eq_iff_iff, beq_iff_eq, qjh]
def numP (s : List UInt8) : Prop := jS s = true /\ s.length <= 18 /\ ¬ (s.head? = some 48 /\ 1 < s.length)
instance (s : List UInt8) : Decidable (numP s) := by unfold numP; infer_instance
end Go.Pk
namespace Go.Proofs.YtlfolncaghkmcaaGreatDoor
open Go.Pk
open Go.RowKit (Below)
theorem qjO (s : List UInt8) (hs : s.length <= 9223372036854775807) (w : World) : Calls prog qih #[.string (mkS s)] w (Ret fun v w' => v = .string (mkS (zo s)) /\ Below w.heap.size w w') := by
 apply quI
 unfold qqS
 refine (Tryz.strings_Trim_laid (mkS s) (mkS [32, 9]) w hs (by decide) (ascii_of_all (by decide))).mono ?_
 rintro _ w1 ⟨rfl, hb⟩
 have e : Lib.trimS (mkS s).data.toList (mkS [32, 9]).data.toList = zo s := qDa s
 rw [e]
 exact ⟨_, rfl, rfl, hb⟩
theorem qkq (s : List UInt8) (hs : s.length <= 9223372036854775807) (w : World) : Calls prog qhV #[.string (mkS s)] w (Ret fun v w' => v = .bool (jS s) /\ Below w.heap.size w w') := by
 apply qse
 unfold qoe
 unfold jS
 refine BCase.of (fun h => ?_) (fun h => ?_)
 · refine ⟨⟨by decide, by decide⟩, ?_⟩
   rintro _ rfl
   refine (Tryz.strings_Trim_laid (mkS s) (mkS [48, 49, 50, 51, 52, 53, 54, 55, 56, 57]) w hs (by decide) (ascii_of_all (by decide))).mono ?_
   rintro _ w1 ⟨rfl, hb⟩
   refine ⟨_, rfl, ?_, hb⟩
   have e := qx8 s
   rw [h, Bool.true_and, <- e]; rfl
 · rw [h]; exact ⟨rfl, Below.refl _ _⟩
theorem qny (s : List UInt8) (hs : s.length <= 9223372036854775000) (w : World) :
   Calls prog qjc #[.string (mkS s)] w (Ret fun v w' => v = (if numP s then .tuple #[.int .i64 (decV s), .bool true] else .tuple #[.int .i64 0, .bool false]) /\ Below w.heap.size w w') := by
 apply qsf
 unfold qof
 have bad : ∀ {w' : World}, ¬ numP s -> Below w.heap.size w w' -> (.tuple #[.int .i64 (0 : Int), .bool false] : Value) = (if numP s then .tuple #[.int .i64 (decV s), .bool true] else .tuple #[.int .i64 0, .bool false]) /\ Below w.heap.size w w' := fun hn hb => ⟨by rw [if_neg hn], hb⟩
 refine worldJ (fun w' => numP s /\ Below w.heap.size w w') ?_ ?_
 · refine callK (qkq s (by omega) w) ?_
   rintro _ w1 ⟨rfl, hb⟩
   refine ⟨_, rfl, ?_⟩
   refine BCase.of (fun h => ?_) (fun h => ?_) <;> simp only [Bool.not_eq_true', Bool.not_eq_false'] at h
   · exact bad (fun hc => by rw [hc.1] at h; cases h) hb
   refine BCase.of (fun h2 => ?_) (fun h2 => ?_) <;> simp only [gt_iff_lt, dTx, dFx] at h2
   · exact bad (fun hc => by have := hc.2.1; omega) hb
   have hne : s ≠ [] := fun e => by rw [e] at h; cases h
   match s, hne with
   | c :: r, _ =>
     have hx : qH (c :: r) 0 = ((c.toNat : Nat) : Int) := rfl
     rw [hx]
     refine ⟨⟨by decide, by simp only [List.length_cons]; omega⟩, ?_⟩
     refine BCase.of (fun h3 => ?_) (fun h3 => ?_)
     · have hc : c = 48 := qn0 (by simpa using h3)
       refine BCase.of (fun h4 => ?_) (fun h4 => ?_) <;> simp only [gt_iff_lt, dTx, dFx] at h4
       · exact bad (fun hcn => hcn.2.2 ⟨by rw [hc]; rfl, by omega⟩) hb
       · exact ⟨⟨h, by omega, fun hcn => by omega⟩, hb⟩
     · have hc : c ≠ 48 := fun e => by subst e; cases h3
       exact ⟨⟨h, by omega, fun hcn => hc (by simpa using hcn.1)⟩, hb⟩
 · rintro w1 ⟨hn, hb⟩
   rw [if_pos hn]
   obtain ⟨hd, hl, _⟩ := hn
   have hall : ∀ c ∈ s, qaL c = true := fun c hc => by
     unfold jS at hd
     rw [Bool.and_eq_true] at hd
     exact List.all_eq_true.1 hd.2 c hc
   obtain ⟨w2, a, n, c, hr, ho, hb2, hf⟩ := qol un_string qac un_uint8 w1 s (by omega) NoB
   have hnn := ho.len
   subst hnn
   have hb12 := qd hb hb2 hb.size
   refine ⟨w2, a, _, c, hr, ?_⟩
   refine ⟨fun m n i w' => ∃ k : Nat, k <= s.length /\ i = (k : Int) /\ n = decV (s.take k) /\ m = s.length - k /\ w' = w2, ⟨_, 0, by omega, rfl, rfl, rfl, rfl⟩, ?_⟩
   intro m n i
   refine AllJ.of ?_ _
   rintro w' ⟨k, hk, rfl, rfl, rfl, rfl⟩
   refine BCase.of (fun h => ?_) (fun h => ?_) <;> simp only [dTx, dFx] at h
   · have hlt : k < s.length := by omega
     have hc := qd6.1 (hall s[k] (List.getElem_mem hlt))
     have hbd := qdc (s.take k) 0 (by decide) fun c hc => hall c (List.mem_of_mem_take hc)
     have hp : (10 : Int) ^ (s.take k).length <= 10 ^ 17 := qmo (by rw [List.length_take]; omega)
     have e17 : (10 : Int) ^ 17 = 100000000000000000 := by decide
     have hV : (s.take k).foldl (fun n c => n * 10 + ((c.toNat : Int) - 48)) 0 = decV (s.take k) := rfl
     rw [hV] at hbd
     have hbb := hbd.2
     rw [Int.zero_add, Int.one_mul] at hbb
     obtain ⟨v, hv, hrep⟩ := ho.all.load1 (i := (k : Int)) un_uint8 rfl rfl (by simpa using hlt)
     have := qvh hrep
     subst this
     simp only [Int.toNat_natCast] at hv
     refine ⟨⟨⟨by omega, h⟩, ho.all.isSome hlt⟩, _, hv, s.length - (k + 1), by omega, k + 1, by omega, by rw [wrap_i64 (by omega) (by omega)]; omega, ?_, rfl, rfl⟩
     rw [List.take_succ_eq_append_getElem hlt, qix, wrap_i64 (n := 10 * decV (s.take k)) (by omega) (by omega), qeZ (n := ((s[k].toNat : Nat) : Int) - 48) (by omega) (by omega), wrap_i64 (n := ((s[k].toNat : Nat) : Int) - 48) (by omega) (by omega), wrap_i64 (by omega) (by omega)]
     omega
   · have : k = s.length := by omega
     subst this
     rw [List.take_length]; exact ⟨rfl, hb12⟩
theorem qgV (s : List UInt8) (c : UInt8) (hs : s.length < 4294967281) (w : World) (he : Env w) :
   Calls prog qe1 #[.string (mkS s), .int .u8 ((c.toNat : Nat) : Int)] w (Ret fun v w' => ∃ a n cp, v = .slice a n cp /\ Ow tS qh w' NoB a n cp (cutC c [] s) /\ zq w.heap.size a /\ Below w.heap.size w w') := by
 apply qtz
 unfold qo9
 intro k w1 hk hw
 have hB := (hw ▸ qj w _ : Below w.heap.size w w1)
 have ho : Ow tU8 qU w1 NoB (some ⟨k, 0, none⟩) 1 1 [c] := Ow.newF (l := [_]) qkc hk hw (RepL.one (qiV rfl)) (show 1 <= maxLen by decide)
 refine ⟨_, qi9 qac un_string un_uint8 ho.all, ?_⟩
 obtain ⟨m, hm⟩ := (he.step hB).max
 refine (Tryz.strings_Split (mkS s) (mkS [c]) m w1 hs hm (Nat.le_refl 1)).mono ?_
 rintro _ w2 ⟨rfl, hw2⟩
 have hcnt := qbH c s []
 rw [qtL, qx3] at *
 refine ⟨_, _, _, rfl, _, _, _, rfl, Ow.newF (qaS _) rfl hw2 (qfM fun _ _ => trivial) (by show _ <= 2 ^ 63 - 1; omega), fresh_new rfl |>.mono hB.size, qd hB (hw2 ▸ qj _ _) hB.size⟩
end Go.Proofs.YtlfolncaghkmcaaGreatDoor
namespace Go.Pk
open Go.RowKit (Below)
def jm (s : List UInt8) : List UInt8 := zo (s.takeWhile (· != 61))
def jg (s : List UInt8) : List UInt8 := zo ((s.dropWhile (· != 61)).drop 1)
def qld (s : List UInt8) : Bool := decide ((61 : UInt8) ∈ s)
theorem ne61 (c : UInt8) : ((c != 61) = true) ↔ c ≠ 61 := by simp
theorem qmV {s : List UInt8} (h : (61 : UInt8) ∉ s) : s.takeWhile (· != 61) = s /\ s.dropWhile (· != 61) = [] := by
 have hp : ∀ x ∈ s, (x != 61) = true := fun x hx => (ne61 x).2 fun e => h (e ▸ hx)
 have h1 : s.takeWhile (· != 61) = s := by
   have := List.takeWhile_append_of_pos (p := (· != 61)) (l₁ := s) (l₂ := []) hp
   simpa using this
 have h2 := List.takeWhile_append_dropWhile (p := (· != (61 : UInt8))) (l := s)
 refine ⟨h1, ?_⟩
 rw [h1] at h2
 exact List.append_cancel_left (h2.trans (List.append_nil s).symm)
def qcn (c : UInt8) : Bool := (decide (c.toNat < 32) && !(c == 9)) || c == 127
end Go.Pk
namespace Go.Proofs.YtlfolncaghkmcaaGreatDoor
open Go.Pk
open Go.RowKit (Below)
theorem qaf (c n : UInt8) : ((((c.toNat : Nat) : Int)) == ((n.toNat : Nat) : Int)) = (c == n) := by
 rw [Bool.eq_iff_iff, beq_iff_eq, beq_iff_eq]
 exact ⟨fun h => qn0 h, fun h => by rw [h]⟩
theorem zG {s : List UInt8} {k : Nat} (h : k < s.length) : qH s (k : Int) = ((s[k].toNat : Nat) : Int) := by
 rw [qie (i := (k : Int)) (by simpa using h)]; simp only [Int.toNat_natCast]
theorem ref01_Digits_ok (s : List UInt8) (hs : s.length <= 9223372036854775807) (w : World) : Calls prog qbs #[.string (mkS s)] w (Ret fun v w' => v = .bool (jS s) /\ w' = w) := by
 apply qsg
 unfold qog
 refine ⟨fun m i w' => ∃ k : Nat, k <= s.length /\ i = (k : Int) /\ m = s.length - k /\ (s.take k).all qaL = true /\ w' = w, ⟨_, 0, by omega, rfl, rfl, rfl, rfl⟩, ?_⟩
 intro m i
 refine AllJ.of ?_ _
 rintro w' ⟨k, hk, rfl, rfl, hall, rfl⟩
 refine BCase.of (fun h => ?_) (fun h => ?_) <;> simp only [dTx, dFx] at h
 · have hlt : k < s.length := by omega
   have hd := qsJ hlt
   have bad : ¬ qaL s[k] = true -> (.bool false : Value) = .bool (jS s) /\ w' = w' := fun hn => ⟨by
     congr 1
     symm
     unfold jS
     rw [Bool.and_eq_false_iff]
     right
     rw [Bool.eq_false_iff]
     intro hc
     exact hn (List.all_eq_true.1 hc _ (List.getElem_mem hlt)), rfl⟩
   refine ⟨⟨by omega, h⟩, ?_⟩
   refine BCase.of (fun h2 => ?_) (fun h2 => ?_) <;> simp only [dTx, dFx] at h2
   · exact bad fun hc => by have := (hd.1 hc).1; omega
   refine ⟨⟨by omega, h⟩, ?_⟩
   refine BCase.of (fun h3 => ?_) (fun h3 => ?_) <;> simp only [gt_iff_lt, dTx, dFx] at h3
   · exact bad fun hc => by have := (hd.1 hc).2; omega
   · refine ⟨s.length - (k + 1), by omega, k + 1, by omega, by rw [wrap_i64 (by omega) (by omega)]; omega, rfl, ?_, rfl⟩
     rw [List.take_succ_eq_append_getElem hlt, List.all_append, hall]
     simp [hd.2 ⟨by omega, by omega⟩]
 · have : k = s.length := by omega
   subst this
   rw [List.take_length] at hall
   refine ⟨?_, rfl⟩
   congr 1
   unfold jS
   rw [hall, Bool.and_true]
   cases s <;> simp
theorem jX (s : List UInt8) (c : UInt8) (hs : s.length <= 100000000) (w : World) :
   Calls prog jM #[.string (mkS s), .int .u8 ((c.toNat : Nat) : Int)] w (Ret fun v w' => ∃ a n cp, v = .slice a n cp /\ Ow tS qh w' NoB a n cp (cutC c [] s) /\ zq w.heap.size a /\ Below w.heap.size w w') := by
 apply qtB
 unfold qpb
 intro k8 w8 hk8 hw8
 have hB := (hw8 ▸ qj w _ : Below w.heap.size w w8)
 have ho8 : Ow tS qh w8 NoB (some ⟨k8, 0, none⟩) 0 0 [] := Ow.newF (qaS _) hk8 hw8 (RepL.nil _ _ _) (Nat.zero_le _)
 refine ⟨fun m a n cp fr i w' => ∃ (k j : Nat) (done : List (List UInt8)), k <= s.length /\ j <= k /\ i = (k : Int) /\ fr = (j : Int) /\ m = s.length - k /\ done.length <= k /\ cutC c [] s = done ++ cutC c ((s.take k).drop j) (s.drop k) /\
     Ow tS qh w' NoB a n cp done /\ zq w.heap.size a /\ Below w.heap.size w w',
   ⟨_, 0, 0, [], by omega, by omega, rfl, rfl, rfl, Nat.le_refl _, rfl, ho8, fresh_new hk8, hB⟩, ?_⟩
 intro m a n cp fr i
 refine AllJ.of ?_ _
 rintro w1 ⟨k, j, done, hk, hj, rfl, rfl, rfl, hdl, hcut, ho, hf, hb⟩
 refine BCase.of (fun h => ?_) (fun h => ?_) <;> simp only [dTx, dFx] at h
 · have hlt : k < s.length := by omega
   have ew : i64.wrap ((k : Int) + 1) = ((k + 1 : Nat) : Int) := by rw [wrap_i64 (by omega) (by omega)]; omega
   rw [ew, zG hlt, qaf]
   rw [qCE c s _ k hlt] at hcut
   refine ⟨⟨by omega, h⟩, ?_⟩
   refine BCase.of (fun h2 => ?_) (fun h2 => ?_)
   · rw [beq_iff_eq] at h2
     rw [if_pos h2] at hcut
     refine ⟨⟨⟨by omega, by omega⟩, by omega, by omega⟩, ?_⟩
     rintro _ rfl k3 w3 hk3 hw3
     simp only [Int.toNat_natCast] at hw3 ⊢
     obtain ⟨w4, a4, n4, c4, hr, ho4, hf4, hb4⟩ := qnH (ty := qV) (w0 := w) (cm := 1) (vs := [_]) (qaS _) qc6 ze (by decide) ho hf hb hk3 hw3 (qgz trivial) (by omega)
     refine ⟨w4, a4, n4, c4, hr, s.length - (k + 1), by omega, k + 1, k + 1, _, by omega, Nat.le_refl _, rfl, rfl, rfl, ?_, ?_, ho4, hf4, hb4⟩
     · simp; omega
     · have hnil : (s.take (k + 1)).drop (k + 1) = [] := List.drop_eq_nil_of_le (by rw [List.length_take]; omega)
       rw [hcut, hnil]
       simp
   · rw [beq_eq_false_iff_ne] at h2
     rw [if_neg h2] at hcut
     refine ⟨s.length - (k + 1), by omega, k + 1, j, done, by omega, by omega, rfl, rfl, rfl, by omega, ?_, ho, hf, hb⟩
     rw [hcut, List.take_succ_eq_append_getElem hlt, List.drop_append_of_le_length (by rw [List.length_take]; omega)]
 · have : k = s.length := by omega
   subst this
   refine ⟨⟨by omega, by omega⟩, ?_⟩
   rintro _ rfl k3 w3 hk3 hw3
   simp only [Int.toNat_natCast] at hw3 ⊢
   obtain ⟨w4, a4, n4, c4, hr, ho4, hf4, hb4⟩ := qnH (ty := qV) (w0 := w) (cm := 1) (vs := [_]) (qaS _) qc6 ze (by decide) ho hf hb hk3 hw3 (qgz trivial) (by omega)
   refine ⟨w4, a4, n4, c4, hr, _, _, _, rfl, ?_, hf4, hb4⟩
   rw [hcut]
   simpa [cutC] using ho4
theorem qoO (s : List UInt8) (hs : s.length < 4294967281) (w : World) (he : Env w) :
   Calls prog qjI #[.string (mkS s)] w (Ret fun v w' => v = .tuple #[.string (mkS (jm s)), .string (mkS (jg s)), .bool (qld s)] /\ Below w.heap.size w w') := by
 apply qtp
 unfold qo0
 obtain ⟨m, hm⟩ := he.max
 refine (Tryz.strings_Cut (mkS s) (mkS [61]) m w hs hm).mono ?_
 rintro _ w1 ⟨rfl, n, rfl⟩
 have e : Lib.cut (mkS s).data.toList (mkS [61]).data.toList = (s.takeWhile (· != 61), (s.dropWhile (· != 61)).drop 1, qld s) := by
   show Lib.cut s [61] = _
   rw [qBj]
   unfold qld
   by_cases hm : (61 : UInt8) ∈ s
   · rw [if_pos hm, decide_eq_true hm]
   · rw [if_neg hm, decide_eq_false hm, (qmV hm).1, (qmV hm).2]; rfl
 rw [e]
 refine ⟨s.takeWhile (· != 61), (s.dropWhile (· != 61)).drop 1, _, rfl, ?_⟩
 have h1 := zd (· != (61 : UInt8)) s
 have h2 := (List.dropWhile_sublist (· != (61 : UInt8)) (l := s)).length_le
 refine callK (qjO _ (by omega) _) ?_
 rintro _ w2 ⟨rfl, hb2⟩
 refine ⟨_, rfl, ?_⟩
 refine callK (qjO _ (by rw [List.length_drop]; omega) w2) ?_
 rintro _ w3 ⟨rfl, hb3⟩
 have hb0 : Below w.heap.size w (w.drewN n) := qiF rfl rfl rfl (Nat.le_refl _) (fun _ _ => rfl)
 have hb02 := qd hb0 hb2 hb0.size
 exact ⟨_, rfl, rfl, qd hb02 hb3 hb02.size⟩
theorem qq7 (s : List UInt8) (hs : s.length <= 9223372036854775807) (w : World) : Calls prog qjx #[.string (mkS s)] w (Ret fun v w' => v = .bool (s.any qcn) /\ Below w.heap.size w w') := by
 apply qqr
 unfold qlI
 obtain ⟨w2, a, n, c, hr, ho, hb2, hf⟩ := qol un_string qac un_uint8 w s hs NoB
 have hnn := ho.len
 subst hnn
 refine ⟨w2, a, _, c, hr, ?_⟩
 refine ⟨fun m i w' => ∃ k : Nat, k <= s.length /\ i = (k : Int) /\ m = s.length - k /\ (s.take k).any qcn = false /\ w' = w2, ⟨_, 0, by omega, rfl, rfl, rfl, rfl⟩, ?_⟩
 intro m i
 refine AllJ.of ?_ _
 rintro w' ⟨k, hk, rfl, rfl, hno, rfl⟩
 refine BCase.of (fun h => ?_) (fun h => ?_) <;> simp only [dTx, dFx] at h
 · have hlt : k < s.length := by omega
   obtain ⟨v, hv, hrep⟩ := ho.all.load1 (i := (k : Int)) un_uint8 rfl rfl (by simpa using hlt)
   have := qvh hrep
   subst this
   simp only [Int.toNat_natCast] at hv
   have bad : qcn s[k] = true -> (.bool true : Value) = .bool (s.any qcn) /\ Below w.heap.size w w' := fun hc => ⟨by
     congr 1; symm
     exact List.any_eq_true.2 ⟨_, List.getElem_mem hlt, hc⟩, hb2⟩
   have good : qcn s[k] = false -> ∃ m' : Nat, m' < s.length - k /\ ∃ k2 : Nat, k2 <= s.length /\ i64.wrap ((k : Int) + 1) = (k2 : Int) /\ m' = s.length - k2 /\ (s.take k2).any qcn = false /\ w' = w' := fun hc =>
     ⟨s.length - (k + 1), by omega, k + 1, by omega, by rw [wrap_i64 (by omega) (by omega)]; omega, rfl, by rw [List.take_succ_eq_append_getElem hlt, List.any_append, hno]; simp [hc], rfl⟩
   have e9 := qaf s[k] 9
   have e127 := qaf s[k] 127
   refine ⟨⟨⟨by omega, h⟩, ho.all.isSome hlt⟩, _, hv, ?_⟩
   refine BCase.of (fun h2 => ?_) (fun h2 => ?_)
   · simp only [dTx] at h2
     refine BCase.of (fun h3 => ?_) (fun h3 => ?_)
     · refine bad ?_
       have h9 : (s[k] == 9) = false := by rw [<- e9]; simpa using h3
       unfold qcn
       rw [h9, decide_eq_true (show s[k].toNat < 32 by omega)]; rfl
     · have h9 : (s[k] == 9) = true := by rw [<- e9]; simpa using h3
       refine BCase.of (fun h4 => ?_) (fun h4 => ?_)
       · refine bad ?_
         unfold qcn
         rw [<- e127, show ((((s[k].toNat : Nat) : Int)) == ((UInt8.toNat 127 : Nat) : Int)) = true from h4, Bool.or_true]
       · refine good ?_
         unfold qcn
         rw [<- e127, show ((((s[k].toNat : Nat) : Int)) == ((UInt8.toNat 127 : Nat) : Int)) = false from h4, h9]
         simp
   · simp only [dFx] at h2
     refine BCase.of (fun h4 => ?_) (fun h4 => ?_)
     · refine bad ?_
       unfold qcn
       rw [<- e127, show ((((s[k].toNat : Nat) : Int)) == ((UInt8.toNat 127 : Nat) : Int)) = true from h4, Bool.or_true]
     · refine good ?_
       unfold qcn
       rw [<- e127, show ((((s[k].toNat : Nat) : Int)) == ((UInt8.toNat 127 : Nat) : Int)) = false from h4, decide_eq_false (show ¬ s[k].toNat < 32 by omega)]
       rfl
 · have : k = s.length := by omega
   subst this
   rw [List.take_length] at hno
   exact ⟨by rw [hno], hb2⟩
end Go.Proofs.YtlfolncaghkmcaaGreatDoor
namespace Go.Pk
open Go.RowKit (Below)
def ageV (s : List UInt8) : Option Int := if s.head? = some 45 then (if jS (s.drop 1) then some 0 else none) else if jS s then some (min (decV s) 34560000) else none
theorem qkW (s : List UInt8) (c : UInt8) : Lib.hasPrefix s [c] = decide (s.head? = some c) /\ Lib.trimPrefix s [c] = if s.head? = some c then s.drop 1 else s := by
 cases s with
 | nil => exact ⟨by simp [Lib.hasPrefix], rfl⟩
 | cons x s =>
   by_cases h : x = c
   · subst h
     have ht : Lib.hasPrefix (x :: s) [x] = true := by simp [Lib.hasPrefix, List.isPrefixOf]
     refine ⟨by rw [ht]; simp, ?_⟩
     unfold Lib.trimPrefix; rw [ht]; simp
   · have hf : Lib.hasPrefix (x :: s) [c] = false := by simp [Lib.hasPrefix, List.isPrefixOf, Ne.symm h]
     refine ⟨by rw [hf]; simp [h], ?_⟩
     unfold Lib.trimPrefix; rw [hf]; simp [h]
theorem qB8 (p : UInt8 -> Bool) : ∀ s : List UInt8, s.dropWhile p = [] ↔ s.all p = true
 | [] => by simp
 | x :: s => by
   rw [List.dropWhile_cons, List.all_cons]
   cases h : p x with
   | true => rw [if_pos rfl, Bool.true_and]; exact qB8 p s
   | false => simp
theorem qwA : ∀ (l : List UInt8) (acc : Int), l.foldl (fun n c => n * 10 + ((c.toNat : Int) - 48)) acc = (l.dropWhile (· == 48)).foldl (fun n c => n * 10 + ((c.toNat : Int) - 48)) acc \/ acc ≠ 0
 | [], acc => .inl rfl
 | c :: l, acc => by
   by_cases ha : acc = 0
   · subst ha
     left
     rw [List.dropWhile_cons]
     split
     · rename_i h
       have : c = 48 := by simpa using h
       subst this
       rw [List.foldl_cons]
       have e : (0 : Int) * 10 + (((48 : UInt8).toNat : Int) - 48) = 0 := by decide
       rw [e]
       rcases qwA l 0 with h | h
       · exact h
       · exact absurd rfl h
     · rfl
   · exact .inr ha
theorem qzb (l : List UInt8) : decV l = decV (l.dropWhile (· == 48)) := by
 rcases qwA l 0 with h | h
 · exact h
 · exact absurd rfl h
theorem qzX : ∀ (l : List UInt8) (acc : Int), 0 <= acc -> (∀ c ∈ l, qaL c = true) -> acc * 10 ^ l.length <= l.foldl (fun n c => n * 10 + ((c.toNat : Int) - 48)) acc
 | [], acc, h, _ => by simp
 | c :: l, acc, h, hd => by
   have hc := qd6.1 (hd c List.mem_cons_self)
   have h1 := qzX l (acc * 10 + ((c.toNat : Int) - 48)) (by omega) fun x hx => hd x (List.mem_cons_of_mem _ hx)
   rw [List.foldl_cons]
   refine Int.le_trans ?_ h1
   rw [List.length_cons, Int.pow_succ, Int.mul_comm (10 ^ l.length) 10, <- Int.mul_assoc]
   exact Int.mul_le_mul_of_nonneg_right (by omega) (Int.pow_nonneg (by decide))
theorem qBl {l : List UInt8} (hd : ∀ c ∈ l, qaL c = true) (h0 : l.head? ≠ some 48) (hl : 19 <= l.length) : 34560000 < decV l := by
 match l, hl with
 | c :: r, hl =>
   have hc := qd6.1 (hd c List.mem_cons_self)
   have hne : c.toNat ≠ 48 := fun e => h0 (by have : c = 48 := UInt8.toNat_inj.1 e; rw [this]; rfl)
   have h1 := qzX r (0 * 10 + ((c.toNat : Int) - 48)) (by omega) fun x hx => hd x (List.mem_cons_of_mem _ hx)
   have h2 : decV (c :: r) = r.foldl (fun n c => n * 10 + ((c.toNat : Int) - 48)) (0 * 10 + ((c.toNat : Int) - 48)) := rfl
   rw [h2]
   have h3 : (10 : Int) ^ 18 <= 10 ^ r.length := qmo (by simp at hl; omega)
   have e18 : (10 : Int) ^ 18 = 1000000000000000000 := by decide
   have h4 : (1 : Int) * 10 ^ r.length <= (0 * 10 + ((c.toNat : Int) - 48)) * 10 ^ r.length := Int.mul_le_mul_of_nonneg_right (by omega) (Int.pow_nonneg (by decide))
   omega
structure Hdr where
 name : List UInt8
 value : List UInt8
 domain : List UInt8
 path : List UInt8
 hasE : Bool
 exp : Int
 hasA : Bool
 age : Int
 sec : Bool
 http : Bool
 same : Int
def Hdr.cells (h : Hdr) : List Value := [.string (mkS h.name), .string (mkS h.value), .string (mkS h.domain), .string (mkS h.path), .bool h.hasE, .int .i64 h.exp, .bool h.hasA, .int .i64 h.age, .bool h.sec, .bool h.http, .int .i64 h.same]
def Hdr.v (h : Hdr) : Value := .agg h.cells.toArray
def hdr0 : Hdr := ⟨[], [], [], [], false, 0, false, 0, false, false, 0⟩
def qpQ (v : List UInt8) : Int := if lowL v = [110, 111, 110, 101] then 1 else if lowL v = [108, 97, 120] then 2 else if lowL v = [115, 116, 114, 105, 99, 116] then 3 else 0
def qcv (h : Hdr) (key value : List UInt8) : Hdr :=
 if key = [101, 120, 112, 105, 114, 101, 115] then (if qjw (qf2 value) then { h with hasE := true, exp := qgh (qf2 value) } else h)
 else if key = [109, 97, 120, 45, 97, 103, 101] then (match ageV value with | some n => { h with hasA := true, age := n } | none => h)
 else if key = [100, 111, 109, 97, 105, 110] then { h with domain := lowL (if value.head? = some 46 then value.drop 1 else value) }
 else if key = [112, 97, 116, 104] then { h with path := if value.head? = some 47 then value else [] }
 else if key = [115, 101, 99, 117, 114, 101] then { h with sec := true }
 else if key = [104, 116, 116, 112, 111, 110, 108, 121] then { h with http := true }
 else if key = [115, 97, 109, 101, 115, 105, 116, 101] then { h with same := qpQ value }
 else h
theorem qk.put {P : Program} {u : TypeId} {bytes : Nat} {z : Value} (tf : TF P u 1 bytes z) {w : World} {k : Nat} {t : TypeId} {vs : List Value} (h : qk w k t vs) {i : Nat} {v : Value} (hi : i < vs.length) (h1 : v.oneCell' = true) (hc : v.cells = #[v]) :
   ∃ w', (Instr.storeAt u (.pointer (some ⟨k, i, none⟩)) v).run P w = .ok () w' /\ qk w' k t (vs.set i v) /\ w.grownBy w' (some k) := by
 obtain ⟨w', hs, ha, hg⟩ := h.store tf (i := i) (v := v) (by rw [hc]; rfl) (by omega) (by rw [hc]; intro c hcc; simp at hcc; subst hcc; exact h1)
 refine ⟨w', hs, ?_, hg⟩
 rw [hc] at ha
 have : vs.set i v = vs.take i ++ [v] ++ vs.drop (i + 1) := by
   rw [List.set_eq_take_append_cons_drop, if_pos hi]; simp
 rw [this]; exact ha
end Go.Pk
namespace Go.Proofs.YtlfolncaghkmcaaGreatDoor
open Go.Pk
open Go.RowKit (Below)
theorem qwx (s : List UInt8) (c : UInt8) (w : World) : Calls prog qa6 #[.string (mkS s), .string (mkS [c])] w (Ret fun v w' => v = .tuple #[.string (mkS (if s.head? = some c then s.drop 1 else s)), .bool (decide (s.head? = some c))] /\ w' = w) := by
 refine (Tryz.strings_CutPrefix (mkS s) (mkS [c]) w).mono ?_
 rintro _ _ ⟨rfl, rfl⟩
 refine ⟨_, rfl, ?_, rfl⟩
 have h := qkW s c
 have e : (mkS s).data.toList = s := rfl
 have e2 : (mkS [c]).data.toList = [c] := rfl
 rw [e, e2, h.1]
 by_cases hc : s.head? = some c
 · rw [if_pos hc]
   have h2 := h.2
   rw [if_pos hc] at h2
   rw [h2]; rfl
 · rw [if_neg hc]
   have h2 := h.2
   rw [if_neg hc] at h2
   rw [h2]; rfl
def ageT (s : List UInt8) : Value := match ageV s with | some n => .tuple #[.int .i64 n, .bool true] | none => .tuple #[.int .i64 0, .bool false]
theorem qvL (s : List UInt8) (hs : s.length <= 10000000) (w : World) : Calls prog qnk #[.string (mkS s)] w (Ret fun v w' => v = ageT s /\ Below w.heap.size w w') := by
 apply quB
 unfold qqL
 refine callK (qwx s 45 w) ?_
 rintro _ w ⟨rfl, rfl⟩
 refine ⟨_, _, rfl, ?_⟩
 have hl : (if s.head? = some 45 then s.drop 1 else s).length <= s.length := by split <;> simp
 refine callK (qkq _ (by omega) w) ?_
 rintro _ w1 ⟨rfl, hb1⟩
 refine ⟨_, rfl, ?_⟩
 by_cases h45 : s.head? = some 45
 · rw [if_pos h45, decide_eq_true h45]
   unfold ageT ageV
   rw [if_pos h45]
   cases hd : jS (s.drop 1)
   · exact BCase.yes rfl ⟨rfl, hb1⟩
   · exact BCase.no rfl (BCase.yes rfl ⟨rfl, hb1⟩)
 · rw [if_neg h45, decide_eq_false h45]
   unfold ageT ageV
   rw [if_neg h45]
   cases hd : jS s
   · exact BCase.yes rfl ⟨rfl, hb1⟩
   · refine BCase.no rfl (BCase.no rfl ?_)
     refine (Tryz.strings_TrimLeft_one (mkS s) 48 (by decide) w1).mono ?_
     rintro _ _ ⟨rfl, rfl⟩
     have e : Lib.trimLeftB (mkS s).data.toList 48 = s.dropWhile (· == 48) := rfl
     rw [e]
     refine ⟨s.dropWhile (· == 48), rfl, ?_⟩
     have hall : ∀ c ∈ s, qaL c = true := fun c hc => by
       unfold jS at hd
       rw [Bool.and_eq_true] at hd
       exact List.all_eq_true.1 hd.2 c hc
     have hsub := List.dropWhile_sublist (fun c : UInt8 => c == 48) (l := s)
     have hall2 : ∀ c ∈ s.dropWhile (· == 48), qaL c = true := fun c hc => hall c (hsub.subset hc)
     have hhead : (s.dropWhile (· == 48)).head? ≠ some 48 := fun e => by
       have := List.head?_dropWhile_not (fun c : UInt8 => c == 48) s
       rw [e] at this
       simp at this
     have hlen := hsub.length_le
     have hz := qzb s
     refine callK (qny _ (by omega) _) ?_
     rintro _ w3 ⟨rfl, hb3⟩
     have hb13 := qd hb1 hb3 hb1.size
     rw [hz]
     have htrim : (s.dropWhile (· == 48) = []) ↔ s.all (· == 48) = true := by
       exact qB8 _ s
     generalize s.dropWhile (· == 48) = t at *
     have hbd := qdc t 0 (by decide) hall2
     have hge : 0 <= decV t := hbd.1
     by_cases hn : numP t
     · rw [if_pos hn]
       refine ⟨_, _, rfl, BCase.no rfl ?_⟩
       refine BCase.of (fun h => ?_) (fun h => ?_) <;> simp only [gt_iff_lt, dTx, dFx] at h
       · exact ⟨by rw [if_pos rfl]; simp only []; rw [Int.min_eq_right (by omega)], hb13⟩
       · exact ⟨by rw [if_pos rfl]; simp only []; rw [Int.min_eq_left (by omega)], hb13⟩
     · rw [if_neg hn]
       refine ⟨_, _, rfl, BCase.yes rfl ?_⟩
       refine (Tryz.strings_Trim_one (mkS s) 48 (by decide) w3 (by show s.length <= _; omega)).mono ?_
       rintro _ w4 ⟨rfl, hw4⟩
       have hb4 : Below w3.heap.size w3 w4 := by
         rcases hw4 with rfl | rfl
         · exact Below.refl _ _
         · exact qT _
       have hb14 := qd hb13 hb4 hb13.size
       have e2 : Lib.trimB (mkS s).data.toList 48 = stripB (· == 48) s := qow _ s
       rw [e2]
       refine ⟨stripB (· == 48) s, rfl, ?_⟩
       by_cases ht : t = []
       · have hst : stripB (· == 48) s = [] := (qjh _ s).2 (htrim.1 ht)
         rw [hst]
         refine BCase.no rfl (BCase.no rfl ⟨?_, hb14⟩)
         rw [ht, if_pos rfl]; rfl
       · have hst : stripB (· == 48) s ≠ [] := fun e => ht (htrim.2 ((qjh _ s).1 e))
         have hdt : jS t = true := by
           unfold jS
           rw [Bool.and_eq_true]
           exact ⟨by simpa using ht, List.all_eq_true.2 hall2⟩
         have hbig : 34560000 < decV t := qBl hall2 hhead (by
           by_cases c : t.length <= 18
           · exact absurd ⟨hdt, c, fun h => hhead h.1⟩ hn
           · omega)
         refine BCase.yes (by simpa using hst) ⟨?_, hb14⟩
         rw [if_pos rfl]; simp only []; rw [Int.min_eq_right (by omega)]
end Go.Proofs.YtlfolncaghkmcaaGreatDoor
namespace Go.Pk
open Go.RowKit (Below)
structure Whl (P : Program) (t : TypeId) (n : Nat) : Prop where
 tf : ∃ bytes z, TF P t n bytes z
 ag : (P.underlying t).map aggD = some true
def One1 (cs : List Value) : Prop := ∀ c ∈ cs, c.oneCell' = true
theorem qnz {a b : List Value} (h : One1 a) (k : One1 b) : One1 (a ++ b) := fun c hc => (List.mem_append.1 hc).elim (h c) (k c)
theorem qx {x : Value} {b : List Value} (h : x.oneCell' = true) (k : One1 b) : One1 (x :: b) := fun c hc => (List.mem_cons.1 hc).elim (fun e => e ▸ h) (k c)
theorem zT : One1 [] := fun _ h => by cases h
theorem qDC (a : List UInt8) : One1 (a.map fun c => Value.int .u8 ((c.toNat : Nat) : Int)) := fun c hc => by
 obtain ⟨x, _, rfl⟩ := List.mem_map.1 hc; rfl
theorem Whl.store {P : Program} {t : TypeId} {n : Nat} (h : Whl P t n) {cs : List Value} (hl : cs.length = n) (h1 : One1 cs) {w : World} {k : Nat} {T : TypeId} {vs : List Value} (ha : qk w k T vs) {i : Nat} (hfit : i + n <= vs.length) :
   ∃ wx, (Instr.storeAt t (.pointer (some ⟨k, i, none⟩)) (.agg cs.toArray)).run P w = .ok () wx /\ qk wx k T (vs.take i ++ cs ++ vs.drop (i + n)) /\ w.grownBy wx (some k) := by
 obtain ⟨bytes, z, tf⟩ := h.tf
 exact ha.store tf (i := i) (v := .agg cs.toArray) (by simpa [Value.cells] using hl) hfit (fun c hc => h1 c (by simpa [Value.cells] using hc))
theorem Whl.store0 {P : Program} {t : TypeId} {n : Nat} (h : Whl P t n) {cs : List Value} (hl : cs.length = n) (h1 : One1 cs) {w : World} {k : Nat} {T : TypeId} {vs : List Value} (ha : qk w k T vs) (hv : vs.length = n) :
   ∃ wx, (Instr.storeAt t (.pointer (some ⟨k, 0, none⟩)) (.agg cs.toArray)).run P w = .ok () wx /\ qk wx k T cs /\ w.grownBy wx (some k) := by
 obtain ⟨wx, hs, h2, hg⟩ := h.store hl h1 ha (i := 0) (by omega)
 refine ⟨wx, hs, ?_, hg⟩
 rw [List.take_zero, List.nil_append, List.drop_eq_nil_of_le (by omega), List.append_nil] at h2
 exact h2
theorem Whl.load {P : Program} {t : TypeId} {n : Nat} (h : Whl P t n) {w : World} {k : Nat} {T : TypeId} {vs us : List Value} (ha : qk w k T vs) {i : Nat} (hl : us.length = n) (hv : ∀ j, j < n -> vs[i + j]? = us[j]?) :
   (Instr.loadAt t (.pointer (some ⟨k, i, none⟩))).run P w = .ok (.agg us.toArray) w := by
 obtain ⟨bytes, z, tf⟩ := h.tf
 obtain ⟨ti, hti, hsz, _, _⟩ := tf.info
 have hag := h.ag
 cases hu : P.underlying t with
 | none => rw [hu] at hag; cases hag
 | some d =>
   rw [hu] at hag
   simp only [Option.map_some, Option.some.injEq] at hag
   exact ha.loadA hu hag hti (us := us) (i := i) (by rw [hsz]; exact hl) (fun j hj => hv j (by omega))
theorem Whl.load0 {P : Program} {t : TypeId} {n : Nat} (h : Whl P t n) {w : World} {k : Nat} {T : TypeId} {cs : List Value} (ha : qk w k T cs) (hl : cs.length = n) :
   (Instr.loadAt t (.pointer (some ⟨k, 0, none⟩))).run P w = .ok (.agg cs.toArray) w := h.load ha hl fun j _ => by rw [Nat.zero_add]
theorem Whl.new {P : Program} {t : TypeId} {n : Nat} (h : Whl P t n) {zs cs : List Value} (hz : zs.length = n) (hl : cs.length = n) (h1 : One1 cs) (w : World) {R : Nat -> World -> Prop}
   (H : ∀ k wx, k = w.heap.size -> qk wx k t cs -> Below w.heap.size w wx -> R k wx) :
   ∀ (k : Nat) (w1 : World), k = w.heap.size -> w1 = w.alloc (.cells zs.toArray t) -> ∃ (wx : World), (Instr.storeAt t (.pointer (some ⟨k, 0, none⟩)) (.agg cs.toArray)).run P w1 = .ok () wx /\ R k wx := by
 intro k w1 hk hw
 have hB := (hw ▸ qj w _ : Below w.heap.size w w1)
 obtain ⟨wx, hs, h3, hg⟩ := h.store0 hl h1 (qk.new hk hw : qk w1 k t zs) hz
 exact ⟨wx, hs, H k wx hk h3 (hB.grown hg hB.size fun x e => by cases e; omega)⟩
theorem Whl.fin {P : Program} {t : TypeId} {n : Nat} (h : Whl P t n) {cs : List Value} (hl : cs.length = n) (h1 : One1 cs) {w w' : World} {k2 : Nat} {vs : List Value} (h2 : qk w' k2 t vs) (hv : vs.length = n) (hb : Below w.heap.size w w') (hk : w.heap.size <= k2)
   {K : Value -> World -> Prop} (hK : ∀ wx, Below w.heap.size w wx -> K (.agg cs.toArray) wx) :
   ∃ (wx : World), (Instr.storeAt t (.pointer (some ⟨k2, 0, none⟩)) (.agg cs.toArray)).run P w' = .ok () wx /\ ∃ vr : Value, (qs t (.pointer (some ⟨k2, 0, none⟩))).run P wx = .ok vr wx /\ K vr wx := by
 obtain ⟨wx, hs, h3, hg⟩ := h.store0 hl h1 h2 hv
 exact ⟨wx, hs, _, qk.res (h.load0 h3 hl), hK wx (hb.grown hg hb.size fun x e => by cases e; exact hk)⟩
theorem Below.put {w0 w w' : World} {k : Nat} (h : Below w0.heap.size w0 w) (hg : w.grownBy w' (some k)) (hk : w0.heap.size <= k) : Below w0.heap.size w0 w' := h.grown hg h.size fun x e => by cases e; exact hk
theorem qP {x y : Nat} (h : x ≠ y) : some x ≠ some y := fun e => h (Option.some.inj e)
theorem qdO (k o i : Nat) : ql (some ⟨k, o, none⟩) (i : Int) 1 = some ⟨k, o + i, none⟩ := by
 unfold ql
 simp only [Option.map_some, Int.toNat_natCast, Nat.mul_one, Option.some.injEq]
 unfold Addr.add; split <;> simp_all
theorem Ow.put {α : Type} {T : Ty α} {t : TypeId} {w w' : World} {a : Option Addr} {n c k : Nat} {xs : List α} (h : Ow T t w NoB a n c xs) (hog : ∀ g, ownB a = some g -> g ≠ k) (hg : w.grownBy w' (some k)) : Ow T t w' NoB a n c xs :=
 h.keep (qbI hg fun b hb e => by
   rcases hb with hb | hb
   · exact hb
   · exact hog b hb.symm (Option.some.inj e))
theorem Sl.text {P : Program} {u : TypeId} (hu : P.underlying u = some .string) {w : World} {A : Bl} {a : Option Addr} {n c : Nat} {xs : List (List UInt8)} (h : Sl tS w A a n c xs) {i : Nat} (hi : i < xs.length) : (Instr.loadAt u (.pointer (ql a (i : Int) 1))).run P w = .ok (.string (mkS xs[i])) w := by
 obtain ⟨v, hv, hrep⟩ := h.load1 (i := (i : Int)) hu rfl rfl (by simpa using hi)
 obtain ⟨rfl, -⟩ := qeY hrep
 simpa using hv
end Go.Pk
