/- What the laws lean on: DateP, DateA, DateB, DateC, DateQ, DateD, OctA, Shelf, DateE, DateF, DateG, DateH, DateI, DateJ, DateK, DateL, DateM, DateN, DateR, DateS; what is used. Its conditions: none. -/
import Derived.Test.YthbkoifpgkjadaaGreatDoorKC
import Init
import Derived.Shelf.Strings.SlTrimAscii
import Derived.Shelf.Strings.Builder1
import Derived.Shelf.Strings.Builder2
import Derived.Shelf.Strings.OnBuilder
import Derived.Shelf.Strings.Trim
import Derived.Shelf.Small.Utf8
import Derived.Shelf.Small.Bits
import Derived.Shelf.Small.Strs
import Derived.Shelf.Small.Wraps
import Derived.Shelf.Strings.BuilderF
import Derived.Shelf.Strings.BuilderK
import Derived.Shelf.Utf8.RuneCount
import Derived.Shelf.Strings.Builder2Cap
import Derived.Shelf.Strconv.Atoi
import Derived.Shelf.Strconv.Itoa0
import Derived.Shelf.Strconv.Itoa1
import Derived.Shelf.LaysM
import Derived.Shelf.Strconv.Itoa2
import Derived.Shelf.Strconv.Itoa3
import Derived.Shelf.Strings.Search1
import Derived.Shelf.Strings.Search2
import Derived.Shelf.Strings.Search3
import Derived.Shelf.Strings.Cut
import Derived.Shelf.Strings.Count
import Derived.Shelf.Strings.Shaped
import Derived.Shelf.Sort.Plain
import Derived.Shelf.Strings.LastIndex
import Derived.Shelf.Strings.Prefix
import Derived.Shelf.Strings.Split
import Derived.Shelf.Strings.SplitShaped
import Derived.Shelf.Unicode.Decode
import Derived.Shelf.Strings.Runes
import Derived.Shelf.Strings.RuneCount
import Derived.Shelf.Strings.IndexAny
import Derived.Shelf.Strings.AsciiSet
import Derived.Shelf.Strings.IndexAnyAll
import Derived.Shelf.Strings.Explode
import Derived.Shelf.Bits.Mul64
import Derived.Shelf.Strings.Repeat
import Derived.Shelf.Unicode.DecodeSlow
import Derived.Shelf.Unicode.DecodeAny
import Derived.Shelf.Unicode.DecodeLast
import Derived.Shelf.Strings.BuilderCap
import Derived.Shelf.Slices.Turned
import Derived.Ground.Names2Prog
import Derived.Shelf.Slices.Clone
import Derived.Shelf.Slices.CompactS
import Derived.Shelf.Slices.Cells
import Derived.Shelf.Slices.In.SortNone
import Derived.Ground.SlgnProg
import Derived.Shelf.SlicesE.Clone
import Derived.Lib.Atoi
import Derived.Lib.ConvBytes
set_option linter.unusedVariables false
set_option linter.unusedSimpArgs false
set_option linter.unusedSectionVars false
set_option maxRecDepth 100000
open Go.IntKind (i64)
open Go.Proofs.Tryz
namespace Go.Pk
open Go.RowKit (Below)
open Go.Proofs
def vv (y:Int):Bool:=(decide (Int.tmod y 4=0)&&decide (Int.tmod y 100≠0)) || decide (Int.tmod y 400=0)
def JR (y m:Int):Int:=if m=2 then(if vv y then 29 else 28)else if m=4\/m=6\/m=9\/m=11 then 30 else 31
def TC (y:Int):Int:=if vv y then 366 else 365
theorem oa {a b:Int}(h:0 <=a):Int.tmod a b=a%b:=Int.tmod_eq_emod_of_nonneg h
theorem gG {a b:Int}(h:0 <=a):Int.tdiv a b=a/b:=Int.tdiv_eq_ediv_of_nonneg h
theorem HW {y:Int}(h:0 <=y):vv y=true ↔ (y%4=0/\y%100≠0)\/y%400=0:=by
 unfold vv
 rw[oa h,oa h,oa h]
 simp
theorem K4 {y:Int}(h:1 <=y):∃a b c e:Int,y=400*a+100*b+4*c+e+1/\0 <=a/\0 <=b/\b <=3/\0 <=c/\c <=24/\0 <=e/\e <=3:=
 ⟨(y-1)/400,(y-1)%400/100,(y-1)%100/4,(y-1)%4,by omega,by omega,by omega,by omega,by omega,by omega,by omega,by omega⟩
theorem EH {a b c e:Int}(ha:0 <=a)(hb:0 <=b)(hb2:b <=3)(hc:0 <=c)(hc2:c <=24)(he:0 <=e)(he2:e <=3):vv (400*a+100*b+4*c+e+1)=true ↔ e=3/\(c≠24\/b=3):=by
 rw[HW (by omega)]
 have h1:(400*a+100*b+4*c+e+1)%4=0 ↔ e=3:=by omega
 have h2:(400*a+100*b+4*c+e+1)%100=0 ↔ e=3/\c=24:=by omega
 have h3:(400*a+100*b+4*c+e+1)%400=0 ↔ e=3/\c=24/\b=3:=by omega
 rw[h1,h3,ne_eq,h2];omega
def dY (y:Int):Int:=365*(y-1)+(y-1)/4-(y-1)/100+(y-1)/400
theorem tR {a b c e:Int}(ha:0 <=a)(hb:0 <=b)(hb2:b <=3)(hc:0 <=c)(hc2:c <=24)(he:0 <=e)(he2:e <=3):dY (400*a+100*b+4*c+e+1)=365*(400*a+100*b+4*c+e)+(97*a+24*b+c):=by
 unfold dY
 have h1:(400*a+100*b+4*c+e+1-1)/4=100*a+25*b+c:=by omega
 have h2:(400*a+100*b+4*c+e+1-1)/100=4*a+b:=by omega
 have h3:(400*a+100*b+4*c+e+1-1)/400=a:=by omega
 rw[h1,h2,h3];omega
theorem Jy {y:Int}(h:1 <=y):dY (y+1)=dY y+TC y:=by
 obtain⟨a,b,c,e,rfl,ha,hb,hb2,hc,hc2,he,he2⟩:=K4 h
 have hl:=EH ha hb hb2 hc hc2 he he2
 rw[tR ha hb hb2 hc hc2 he he2]
 unfold TC
 by_cases h3:e=3
 · subst h3
   by_cases h24:c=24
   · subst h24
     by_cases h33:b=3
     · subst h33
       rw[if_pos (hl.2 ⟨rfl,.inr rfl⟩)]
       rw[show 400*a+100*3+4*24+3+1+1=400*(a+1)+100*0+4*0+0+1 by omega,tR (by omega) (by omega) (by omega) (by omega) (by omega) (by omega) (by omega)];omega
     · rw[if_neg (λh=>by have:=hl.1 h;omega)]
       rw[show 400*a+100*b+4*24+3+1+1=400*a+100*(b+1)+4*0+0+1 by omega,tR (by omega) (by omega) (by omega) (by omega) (by omega) (by omega) (by omega)];omega
   · rw[if_pos (hl.2 ⟨rfl,.inl h24⟩)]
     rw[show 400*a+100*b+4*c+3+1+1=400*a+100*b+4*(c+1)+0+1 by omega,tR (by omega) (by omega) (by omega) (by omega) (by omega) (by omega) (by omega)];omega
 · rw[if_neg (λh=>by have:=hl.1 h;omega)]
   rw[show 400*a+100*b+4*c+e+1+1=400*a+100*b+4*c+(e+1)+1 by omega,tR (by omega) (by omega) (by omega) (by omega) (by omega) (by omega) (by omega)];omega
def cM (y m:Int):Int:=if m=1 then 0 else if m=2 then 31 else(if vv y then 1 else 0)+
 (if m=3 then 59 else if m=4 then 90 else if m=5 then 120 else if m=6 then 151 else if m=7 then 181 else if m=8 then 212 else if m=9 then 243 else if m=10 then 273 else if m=11 then 304 else if m=12 then 334 else 365)
theorem OB {m:Int}(h1:1 <=m)(h2:m <=12):m=1\/m=2\/m=3\/m=4\/m=5\/m=6\/m=7\/m=8\/m=9\/m=10\/m=11\/m=12:=by omega
theorem Jp {y m:Int}(h1:1 <=m)(h2:m <=12):cM y (m+1)=cM y m+JR y m:=by
 unfold cM JR
 rcases OB h1 h2 with rfl|rfl|rfl|rfl|rfl|rfl|rfl|rfl|rfl|rfl|rfl|rfl <;> cases vv y <;> simp
theorem R3 (y:Int):cM y 13=TC y:=by unfold cM TC;cases vv y <;> simp
theorem JS (y m:Int):28 <=JR y m/\JR y m <=31:=by unfold JR;split <;> (try split) <;> omega
theorem U8 {y m:Int}(h1:1 <=m)(h2:m <=12):0 <=cM y m/\cM y m <=335:=by
 unfold cM
 rcases OB h1 h2 with rfl|rfl|rfl|rfl|rfl|rfl|rfl|rfl|rfl|rfl|rfl|rfl <;> cases vv y <;> simp
def fu (y m d:Int):Prop:=1601 <=y/\y <=9999/\1 <=m/\m <=12/\1 <=d/\d <=JR y m
instance  (y m d:Int):Decidable (fu y m d):=by unfold fu;infer_instance
def eh (y m d:Int):Int:=dY y-719162+cM y m+d-1
theorem TD (y:Int):365 <=TC y/\TC y <=366:=by unfold TC;split <;> omega
theorem R7 {a:Int}(h:1 <=a):∀k:Nat,dY a <=dY (a+k)
 | 0=>by simp
 | k+1=>by
   have h1:=R7 h k
   have h2:=Jy (y:=a+k) (by omega)
   have h3:=TD (a+k)
   rw[show a+((k+1:Nat):Int)=a+k+1 by omega];omega
theorem qm {a b:Int}(h1:1 <=a)(h:a <=b):dY a <=dY b:=by
 have:=R7 h1 (b-a).toNat
 rwa [show a+((b-a).toNat:Int)=b by omega]at this
theorem Vd {y:Int}(h1:1601 <=y)(h2:y <=10000):584388 <=dY y/\dY y <=3652059:=by
 have e1:=qm (a:=1601) (b:=y) (by omega) h1
 have e2:=qm (a:=y) (b:=10000) (by omega) h2
 have e3:dY 1601=584388:=by decide
 have e4:dY 10000=3652059:=by decide
 omega
theorem R2 {y a:Int}(h:1 <=a):∀k:Nat,a+k <=13->cM y a <=cM y (a+k)
 | 0,_=>by simp
 | k+1,hk=>by
   have h1:=R2 (y:=y) h k (by omega)
   have h2:=Jp (y:=y) (m:=a+k) (by omega) (by omega)
   have h3:=JS y (a+k)
   rw[show a+((k+1:Nat):Int)=a+k+1 by omega];omega
theorem Ft {y a b:Int}(h1:1 <=a)(h:a <=b)(h2:b <=13):cM y a <=cM y b:=by
 have:=R2 (y:=y) h1 (b-a).toNat (by omega)
 rwa [show a+((b-a).toNat:Int)=b by omega]at this
theorem Vu {y m d:Int}(hy:1 <=y)(h1:1 <=m)(h2:m <=12)(Y M:Int)(hY:Y=if m-3<0 then y-1 else y)(hM:M=if m-3<0 then m+9 else m-3):
   Y/400*146097+Y%400*365+Y%400/4-Y%400/100+(153*M+2)/5+d-1-719468=eh y m d:=by
 obtain⟨a,b,c,e,rfl,ha,hb,hb2,hc,hc2,he,he2⟩:=K4 (y:=y) (by omega)
 have hl:=EH ha hb hb2 hc hc2 he he2
 unfold eh
 rw[tR ha hb hb2 hc hc2 he he2]
 by_cases hm:m-3<0
 · rw[if_pos hm]at hY hM
   subst hY
   have e1:(400*a+100*b+4*c+e+1-1)/400=a:=by omega
   have e2:(400*a+100*b+4*c+e+1-1)%400=100*b+4*c+e:=by omega
   have e3:(100*b+4*c+e)/4=25*b+c:=by omega
   have e4:(100*b+4*c+e)/100=b:=by omega
   rw[e1,e2,e3,e4]
   have:m=1\/m=2:=by omega
   rcases this with rfl|rfl <;> subst hM <;> unfold cM <;> simp <;> omega
 · rw[if_neg hm]at hY hM
   subst hY
   have hc':cM (400*a+100*b+4*c+e+1) m=(if vv (400*a+100*b+4*c+e+1)=true then 1 else 0)+59+(153*M+2)/5:=by
     have:m=3\/m=4\/m=5\/m=6\/m=7\/m=8\/m=9\/m=10\/m=11\/m=12:=by omega
     rcases this with rfl|rfl|rfl|rfl|rfl|rfl|rfl|rfl|rfl|rfl <;> subst hM <;> unfold cM <;> simp <;> omega
   rw[hc']
   have key:(400*a+100*b+4*c+e+1)/400*146097+(400*a+100*b+4*c+e+1)%400*365+(400*a+100*b+4*c+e+1)%400/4-(400*a+100*b+4*c+e+1)%400/100=
       365*(400*a+100*b+4*c+e+1)+(97*a+24*b+c)+(if vv (400*a+100*b+4*c+e+1)=true then 1 else 0):=by
     by_cases h3:e=3
     · subst h3
       by_cases h24:c=24
       · subst h24
         by_cases h33:b=3
         · subst h33
           rw[if_pos (hl.2 ⟨rfl,.inr rfl⟩)]
           have e1:(400*a+100*3+4*24+3+1)/400=a+1:=by omega
           have e2:(400*a+100*3+4*24+3+1)%400=0:=by omega
           rw[e1,e2];omega
         · rw[if_neg (λh=>by have:=hl.1 h;omega)]
           have e1:(400*a+100*b+4*24+3+1)/400=a:=by omega
           have e2:(400*a+100*b+4*24+3+1)%400=100*(b+1):=by omega
           have e3:(100*(b+1))/4=25*(b+1):=by omega
           have e4:(100*(b+1))/100=b+1:=by omega
           rw[e1,e2,e3,e4];omega
       · rw[if_pos (hl.2 ⟨rfl,.inl h24⟩)]
         have e1:(400*a+100*b+4*c+3+1)/400=a:=by omega
         have e2:(400*a+100*b+4*c+3+1)%400=100*b+4*(c+1):=by omega
         have e3:(100*b+4*(c+1))/4=25*b+c+1:=by omega
         have e4:(100*b+4*(c+1))/100=b:=by omega
         rw[e1,e2,e3,e4];omega
     · rw[if_neg (λh=>by have:=hl.1 h;omega)]
       have e1:(400*a+100*b+4*c+e+1)/400=a:=by omega
       have e2:(400*a+100*b+4*c+e+1)%400=100*b+4*c+e+1:=by omega
       have e3:(100*b+4*c+e+1)/4=25*b+c:=by omega
       have e4:(100*b+4*c+e+1)/100=b:=by omega
       rw[e1,e2,e3,e4];omega
   omega
theorem Kw {y m d:Int}(h:fu y m d):dY y <=eh y m d+719162/\eh y m d+719162<dY (y+1)/\cM y m <=eh y m d+719162-dY y/\eh y m d+719162-dY y<cM y (m+1):=by
 obtain⟨h1,h2,h3,h4,h5,h6⟩:=h
 have e1:=U8 (y:=y) h3 (by omega)
 have e2:=Jp (y:=y) h3 h4
 have e3:=Ft (y:=y) (a:=m+1) (b:=13) (by omega) (by omega) (by omega)
 have e4:=Jy (y:=y) (by omega)
 have e5:=R3 y
 unfold eh
 omega
theorem Kx {y m d a b c:Int}(h:fu y m d)(k:fu a b c)(e:eh y m d=eh a b c):y=a/\m=b/\d=c:=by
 have hy1:=h.1
 have ha1:=k.1
 have h1:=Kw h
 have k1:=Kw k
 rw[e]at h1
 have hy:y=a:=by
   rcases Int.lt_trichotomy y a with c|c|c
   · have:=qm (show 1 <=y+1 by omega) (show y+1 <=a by omega);omega
   · exact c
   · have:=qm (show 1 <=a+1 by omega) (show a+1 <=y by omega);omega
 subst hy
 obtain⟨_,_,p1,p2,_,_⟩:=h
 obtain⟨_,_,q1,q2,_,_⟩:=k
 have hm:m=b:=by
   rcases Int.lt_trichotomy m b with c|c|c
   · have:=Ft (y:=y) (a:=m+1) (b:=b) (by omega) (by omega) (by omega);omega
   · exact c
   · have:=Ft (y:=y) (a:=b+1) (b:=m) (by omega) (by omega) (by omega);omega
 subst hm
 refine⟨rfl,rfl,?_⟩
 unfold eh at e;omega
theorem Hq (y:Int)(w:World):Cf ve #[vI y] w (Ret λv w'=>v=.bool (vv y)/\w'=w):=by
 apply Gj
 unfold zu vv
 refine⟨by decide,?_⟩
 rintro _ rfl
 refine ae.of (λh=>?_) (λh=>?_) <;> simp at h
 · refine⟨by decide,?_⟩
   rintro _ rfl
   refine ae.of (λh2=>?_) (λh2=>?_) <;> simp at h2
   · exact⟨by simp[h,h2],rfl⟩
   · refine⟨by decide,?_⟩
     rintro _ rfl
     refine⟨?_,rfl⟩
     congr 1
     rw[Bool.eq_iff_iff];simp[h,h2]
 · refine⟨by decide,?_⟩
   rintro _ rfl
   refine⟨?_,rfl⟩
   congr 1
   rw[Bool.eq_iff_iff];simp[h]
def Qr (y m d:Int):Value:=.tuple #[vI (if fu y m d then eh y m d else 0),.bool (decide (fu y m d))]
def KW:List Int:=[31,28,31,30,31,30,31,31,30,31,30,31]
theorem Um:∀c∈(Value.agg (KW.map λn=>vI n).toArray).cells.toList,c.oneCell'=true:=by
 intro c hc
 obtain⟨n,_,rfl⟩:∃n,n∈KW/\vI n=c:=by simpa[Value.cells]using hc
 rfl
theorem Dw (y m:Int)(h1:1 <=m)(h2:m <=12)(w:World):Cf qt #[vI y,vI m] w (Ret λv w'=>v=vI (JR y m)/\bW w w'):=by
 apply CF
 intro k w1 hk hw1
 have hB1:bW w w1:=hw1▸ah _ _
 have ha1:ai w1 k qi (List.replicate 12 (vI 0)):=ai.new hk hw1
 obtain⟨w2,hst,ha2,hg⟩:=ha1.store (P:=prog) Iy (i:=0) (v:=.agg (KW.map λn=>vI n).toArray) rfl (by decide) Um
 refine⟨w2,hst,?_⟩
 have hB2:=hB1.grown hg hB1.size (λx e=>by cases e;omega)
 refine⟨λw'=>w'=w2/\(m=2->vv y=false),?_,?_⟩
 · refine ae.of (λh=>?_) (λh=>?_) <;> simp at h
   · refine aB (Hq y _) ?_
     rintro _ w2 ⟨rfl,rfl⟩
     refine⟨_,rfl,?_⟩
     refine ae.of (λh3=>?_) (λh3=>?_)
     · refine⟨?_,hB2⟩
       unfold JR;rw[if_pos h,if_pos h3]
     · exact⟨rfl,λ_=>h3⟩
   · exact⟨rfl,λe=>absurd e h⟩
 · refine aN.of ?_ _
   rintro w2 ⟨rfl,hlp⟩
   rw[wrap_i64 (by omega) (by omega)]
   refine⟨⟨⟨by omega,by omega⟩,rfl⟩,?_⟩
   refine⟨JR y m,?_,rfl,hB2⟩
   rw[jG,Nat.zero_add,Nat.mul_one]
   refine ha2.load1 cD rfl ?_
   unfold JR
   rcases OB h1 h2 with rfl|rfl|rfl|rfl|rfl|rfl|rfl|rfl|rfl|rfl|rfl|rfl <;> simp[KW,Value.cells]
   simp[hlp]
theorem rX (y m d:Int)(hd: -9223372036854775808 <=d/\d <=9223372036854775807)(w:World):Cf mM #[vI y,vI m,vI d] w (Ret λv w'=>v=Qr y m d/\bW w w'):=by
 apply Gh
 have bad:∀w',bW w w'-> ¬ fu y m d->(Value.tuple #[vI 0,.bool false]=Qr y m d/\bW w w'):=λw' hb h=>by
   refine⟨?_,hb⟩
   unfold Qr;rw[if_neg h];simp[h]
 refine⟨λw'=>fu y m d/\bW w w',?_,?_⟩
 · refine ae.of (λh1=>?_) (λh1=>?_) <;> simp at h1
   · exact bad _ (Below.refl _ _) (by unfold fu;omega)
   refine ae.of (λh2=>?_) (λh2=>?_) <;> simp at h2
   · exact bad _ (Below.refl _ _) (by unfold fu;omega)
   refine ae.of (λh3=>?_) (λh3=>?_) <;> simp at h3
   · exact bad _ (Below.refl _ _) (by unfold fu;omega)
   refine ae.of (λh4=>?_) (λh4=>?_) <;> simp at h4
   · exact bad _ (Below.refl _ _) (by unfold fu;omega)
   refine ae.of (λh5=>?_) (λh5=>?_) <;> simp at h5
   · exact bad _ (Below.refl _ _) (by unfold fu;omega)
   refine aB (Dw y m h3 h4 w) ?_
   rintro _ w1 ⟨rfl,hb⟩
   refine⟨_,rfl,?_⟩
   refine ae.of (λh6=>?_) (λh6=>?_) <;> simp at h6
   · exact bad _ hb (by unfold fu;omega)
   · exact⟨⟨by omega,by omega,by omega,by omega,by omega,by omega⟩,hb⟩
 · refine aN.of ?_ _
   rintro w1 ⟨hi,hb⟩
   obtain⟨h1,h2,h3,h4,h5,h6⟩:=hi
   have hl:=JS y m
   refine⟨λY M w'=>w'=w1/\Y=(if m-3<0 then y-1 else y)/\M=(if m-3<0 then m+9 else m-3),?_,?_⟩
   · rw[wrap_i64 (n:=m-3) (by omega) (by omega)]
     refine ae.of (λh=>?_) (λh=>?_) <;> simp only[dTx,dFx]at h
     · refine⟨rfl,?_,?_⟩
       · rw[if_pos h,wrap_i64 (by omega) (by omega)]
       · rw[if_pos h,wrap_i64 (by omega) (by omega)];omega
     · exact⟨rfl,by rw[if_neg h],by rw[if_neg h]⟩
   · intro Y M
     refine aN.of ?_ _
     rintro w1 ⟨rfl,hY,hM⟩
     have hm:=Vu (y:=y) (m:=m) (d:=d) (by omega) h3 h4 Y M hY hM
     have hYr:1600 <=Y/\Y <=9999:=by rw[hY];split <;> omega
     have hMr:0 <=M/\M <=11:=by rw[hM];split <;> omega
     clear hY hM
     rw[oa (by omega),gG (by omega)]
     refine⟨by decide,?_⟩
     intro of hof
     refine⟨by decide,?_⟩
     intro q1 hq1
     rw[gG (by omega),gG (by omega)]
     refine⟨by decide,?_⟩
     intro q2 hq2
     refine⟨by decide,?_⟩
     intro q3 hq3
     refine⟨by decide,?_⟩
     intro q4 hq4
     rw[wrap_i64 (by omega) (by omega)]at hq1 hq2 hq3
     rw[wrap_i64 (n:=153*M) (by omega) (by omega),wrap_i64 (n:=153*M+2) (by omega) (by omega),gG (by omega),wrap_i64 (by omega) (by omega)]at hq4
     rw[wrap_i64 (n:=q1*146097) (by omega) (by omega),wrap_i64 (n:=of*365) (by omega) (by omega),wrap_i64 (n:=q1*146097+of*365) (by omega) (by omega),wrap_i64 (n:=q1*146097+of*365+q2) (by omega) (by omega),
       wrap_i64 (n:=q1*146097+of*365+q2-q3) (by omega) (by omega),wrap_i64 (n:=q1*146097+of*365+q2-q3+q4) (by omega) (by omega),wrap_i64 (n:=q1*146097+of*365+q2-q3+q4+d) (by omega) (by omega),
       wrap_i64 (n:=q1*146097+of*365+q2-q3+q4+d-1) (by omega) (by omega),wrap_i64 (by omega) (by omega)]
     refine⟨?_,hb⟩
     have hdt:fu y m d:=⟨h1,h2,h3,h4,h5,h6⟩
     unfold Qr
     rw[if_pos hdt,<- hm,hq1,hq2,hq3,hq4,hof]
     simp[hdt]
open Classical in
noncomputable def Va (n:Int):Value:=if h:∃p:Int×Int×Int,fu p.1 p.2.1 p.2.2/\eh p.1 p.2.1 p.2.2=n then
 .tuple #[vI (Classical.choose h).1,vI (Classical.choose h).2.1,vI (Classical.choose h).2.2,.bool true]else .tuple #[vI 0,vI 0,vI 0,.bool false]
theorem Ju {y m d:Int}(h:fu y m d):Va (eh y m d)=.tuple #[vI y,vI m,vI d,.bool true]:=by
 have hex:∃p:Int×Int×Int,fu p.1 p.2.1 p.2.2/\eh p.1 p.2.1 p.2.2=eh y m d:=⟨(y,m,d),h,rfl⟩
 unfold Va
 rw[dif_pos hex]
 obtain⟨h1,h2⟩:=Classical.choose_spec hex
 obtain⟨e1,e2,e3⟩:=Kx h1 h h2
 rw[e1,e2,e3]
theorem Hr {y m d:Int}(h:fu y m d): -134774 <=eh y m d/\eh y m d <=2932896:=by
 have h1:=Kw h
 have h2:=Vd (y:=y) h.1 (by have:=h.2.1;omega)
 have h3:=Vd (y:=y+1) (by have:=h.1;omega) (by have:=h.2.1;omega)
 have h4:=qm (a:=y+1) (b:=10000) (by have:=h.1;omega) (by have:=h.2.1;omega)
 omega
theorem Bz {n:Int}(h:n < -134774\/2932896<n):Va n=.tuple #[vI 0,vI 0,vI 0,.bool false]:=by
 unfold Va
 rw[dif_neg]
 rintro⟨p,h1,h2⟩
 have:=Hr h1
 omega
theorem Ou:fu 1601 1 1/\eh 1601 1 1= -134774:=by decide
theorem KM:fu 9999 12 31/\eh 9999 12 31=2932896:=by decide
def sN (k:Nat):Nat:=if k=400 then 146097 else 365*k+k/4-k/100
def gN (n:Nat):Nat:=n-n/1460+n/36524-n/146096
theorem Vh {a:Nat}(h:a<146096):gN a <=gN (a+1):=by unfold gN;omega
theorem NW {a:Nat} :∀k:Nat,a+k <=146096->gN a <=gN (a+k)
 | 0,_=>Nat.le_refl _
 | k+1,h=>Nat.le_trans (NW k (by omega)) (Vh (a:=a+k) (by omega))
theorem Xa:∀k,k<400->gN (sN k)/365=k/\gN (sN (k+1)-1)/365=k:=by decide+kernel
theorem VK:∀k,k<400->sN (k+1)=sN k+(if(k+1)%4=0/\((k+1)%100≠0\/k+1=400)then 366 else 365)/\0<sN (k+1)/\sN (k+1) <=146097:=by decide+kernel
theorem So {n:Nat} :∀j,j <=400->n<sN j->∃k,k<j/\sN k <=n/\n<sN (k+1)
 | 0,_,h=>by simp[sN]at h
 | j+1,hj,h=>by
   by_cases c:n<sN j
   · obtain⟨k,h1,h2,h3⟩:=So j (by omega) c
     exact⟨k,by omega,h2,h3⟩
   · exact⟨j,by omega,by omega,h⟩
theorem UE {n:Nat}(h:n<146097):∃k,k<400/\gN n/365=k/\sN k <=n/\n<sN (k+1):=by
 obtain⟨k,h1,h2,h3⟩:=So (n:=n) 400 (Nat.le_refl _) (by simpa[sN]using h)
 obtain⟨e1,e2⟩:=Xa k h1
 obtain⟨_,l2,l3⟩:=VK k h1
 refine⟨k,h1,?_,h2,h3⟩
 have m1:=NW (a:=sN k) (n-sN k) (by omega)
 have m2:=NW (a:=n) (sN (k+1)-1-n) (by omega)
 rw[show sN k+(n-sN k)=n by omega]at m1
 rw[show n+(sN (k+1)-1-n)=sN (k+1)-1 by omega]at m2
 have d1:=Nat.div_le_div_right (c:=365) m1
 have d2:=Nat.div_le_div_right (c:=365) m2
 omega
def UQ (mp:Nat):Nat:=[31,30,31,30,31,31,30,31,30,31,31,29][mp]?.getD 0
theorem Q3:∀doy,doy<366->(5*doy+2)/153 <=11/\(153*((5*doy+2)/153)+2)/5 <=doy/\doy-(153*((5*doy+2)/153)+2)/5+1 <=UQ ((5*doy+2)/153)/\
   ((5*doy+2)/153=11->doy-(153*((5*doy+2)/153)+2)/5+1=29->doy=365):=by decide+kernel
theorem QV {y:Int}{mp:Nat}(h:mp <=9):JR y ((mp:Int)+3)=UQ mp:=by
 have:mp=0\/mp=1\/mp=2\/mp=3\/mp=4\/mp=5\/mp=6\/mp=7\/mp=8\/mp=9:=by omega
 rcases this with rfl|rfl|rfl|rfl|rfl|rfl|rfl|rfl|rfl|rfl <;> simp[JR,UQ]
theorem NH {y n:Int}(hy:1 <=y)(h1:dY y <=n+719162)(h2:n+719162<dY (y+1))(h3: -134774 <=n)(h4:n <=2932896):1601 <=y/\y <=9999:=by
 have e1:dY 1601=584388:=by decide
 have e2:dY 10000=3652059:=by decide
 constructor
 · apply Int.le_of_not_gt
   intro hc
   have:=qm (a:=y+1) (b:=1601) (by omega) (by omega)
   omega
 · apply Int.le_of_not_gt
   intro hc
   have:=qm (a:=10000) (b:=y) (by omega) (by omega)
   omega
theorem Ox {y m d:Int}(hy:1 <=y)(h1:1 <=m)(h2:m <=12)(Y M:Int)(hY:Y=if m-3<0 then y-1 else y)(hM:M=if m-3<0 then m+9 else m-3):
   Y/400*146097+Y%400*365+Y%400/4-Y%400/100+(153*M+2)/5+d-1-719468=eh y m d:=Vu hy h1 h2 Y M hY hM
theorem Fu {n:Int}(h1: -134774 <=n)(h2:n <=2932896)(of yoe doy mp day era:Int)(hof:of=(n+719468)%146097)(hera:era=(n+719468)/146097)
   (hy:yoe=(of-of/1460+of/36524-of/146096)/365) (hd:doy=of-(365*yoe+yoe/4-yoe/100)) (hm:mp=(5*doy+2)/153) (hday:day=doy-(153*mp+2)/5+1):
   0 <=of/\of <=146096/\4 <=era/\era <=24/\0 <=yoe/\yoe <=399/\0 <=doy/\doy <=365/\0 <=mp/\mp <=11/\1 <=day/\day <=31/\
   fu (if mp+3>12 then yoe+era*400+1 else yoe+era*400) (if mp+3>12 then mp+3-12 else mp+3) day/\
   eh (if mp+3>12 then yoe+era*400+1 else yoe+era*400) (if mp+3>12 then mp+3-12 else mp+3) day=n:=by
 obtain⟨N,hN⟩:∃N:Nat,of=(N:Int):=⟨of.toNat,by omega⟩
 have hN2:N<146097:=by omega
 have hera2:4 <=era/\era <=24:=by omega
 obtain⟨k,hk,hg,hs1,hs2⟩:=UE hN2
 have hyk:yoe=(k:Int):=by rw[hy,hN,<- hg];unfold gN;omega
 clear hg hy
 rw[hyk,hN]at hd
 obtain⟨hl,_,_⟩:=VK k hk
 have hsk:sN k=365*k+k/4-k/100:=by unfold sN;rw[if_neg (by omega)]
 obtain⟨D,hD⟩:∃D:Nat,doy=(D:Int):=⟨doy.toNat,by omega⟩
 have hDN:D=N-sN k:=by omega
 have hD2:D<366:=by split at hl <;> omega
 obtain⟨m1,m2,m3,m4⟩:=Q3 D hD2
 obtain⟨M,hM⟩:∃M:Nat,M=(5*D+2)/153:=⟨_,rfl⟩
 rw[<- hM]at m1 m2 m3 m4
 have hmp:mp=(M:Int):=by omega
 have hdd:day=((D-(153*M+2)/5+1:Nat):Int):=by omega
 have hmon:UQ M <=31:=by
   have:M=0\/M=1\/M=2\/M=3\/M=4\/M=5\/M=6\/M=7\/M=8\/M=9\/M=10\/M=11:=by omega
   rcases this with h|h|h|h|h|h|h|h|h|h|h|h <;> rw[h] <;> decide
 refine⟨by omega,by omega,by omega,by omega,by omega,by omega,by omega,by omega,by omega,by omega,by omega,by omega,?_⟩
 obtain⟨y,m,ey,em,hm1,hm2,hY,hMM⟩:∃y m:Int,y=(if mp+3>12 then yoe+era*400+1 else yoe+era*400)/\m=(if mp+3>12 then mp+3-12 else mp+3)/\1 <=m/\m <=12/\
     yoe+era*400=(if m-3<0 then y-1 else y)/\mp=(if m-3<0 then m+9 else m-3):=by
   refine⟨_,_,rfl,rfl,?_⟩
   by_cases c:mp+3>12
   · rw[if_pos c,if_pos c,if_pos (by omega),if_pos (by omega)];omega
   · rw[if_neg c,if_neg c,if_neg (by omega),if_neg (by omega)];omega
 rw[<- ey,<- em]
 have hy1:1 <=y:=by rw[ey];split <;> omega
 have hday31:1 <=day:=by omega
 have hlen:day <=JR y m:=by
   by_cases c:mp+3>12
   · rw[if_pos c]at ey em
     have:M=10\/M=11:=by omega
     rcases this with rfl|rfl
     · have:m=1:=by omega
       subst this
       have e:UQ 10=31:=by decide
       rw[e]at m3
       unfold JR;simp;omega
     · have:m=2:=by omega
       subst this
       have e:UQ 11=29:=by decide
       rw[e]at m3
       unfold JR
       rw[if_pos rfl]
       by_cases c29:D-(153*11+2)/5+1=29
       · have h365:=m4 rfl c29
         have hleap:(k+1)%4=0/\((k+1)%100≠0\/k+1=400):=by
           apply Classical.byContradiction
           intro hc
           rw[if_neg hc]at hl
           omega
         have:vv y=true:=(HW (by omega)).2 (by omega)
         rw[if_pos this];omega
       · split <;> omega
   · rw[if_neg c]at ey em
     have:m=(M:Int)+3:=by omega
     rw[this,QV (by omega)];omega
 have hmar:=Ox (d:=day) hy1 hm1 hm2 _ _ hY hMM
 have hq1:(yoe+era*400)/400=era:=by omega
 have hq2:(yoe+era*400)%400=yoe:=by omega
 rw[hq1,hq2]at hmar
 have hdo:eh y m day=n:=by
   rw[<- hmar,hyk]
   clear hY hMM hmar hq1 hq2
   omega
 refine⟨?_,hdo⟩
 have c1:=U8 (y:=y) hm1 hm2
 have c2:=Jp (y:=y) hm1 hm2
 have c3:=Ft (y:=y) (a:=m+1) (b:=13) (by omega) (by omega) (by omega)
 have c4:=Jy (y:=y) (by omega)
 have c5:=R3 y
 have hb:=NH (n:=n) hy1 (by unfold eh at hdo;omega) (by unfold eh at hdo;omega) h1 h2
 exact⟨hb.1,hb.2,hm1,hm2,hday31,hlen⟩
theorem Fw (n:Int)(w:World)(hn: -9223372036854775808 <=n/\n <=9223372036854775807):Cf sd #[vI n] w (Ret λv w'=>v=Va n/\bW w w'):=by
 apply DS
 refine aB (rX _ _ _ (by omega) w) ?_
 rintro _ w1 ⟨rfl,hb1⟩
 refine⟨_,_,rfl,?_⟩
 refine aB (rX _ _ _ (by omega) w1) ?_
 rintro _ w2 ⟨rfl,hb2⟩
 have hB:=ab hb1 hb2 hb1.size
 refine⟨_,_,rfl,?_⟩
 rw[if_pos Ou.1,if_pos KM.1,Ou.2,KM.2]
 refine⟨λw'=>w'=w2/\ -134774 <=n/\n <=2932896,?_,?_⟩
 · refine ae.of (λh=>?_) (λh=>?_) <;> simp only[dTx,dFx]at h
   · exact⟨(Bz (.inl h)).symm,hB⟩
   · refine ae.of (λh2=>?_) (λh2=>?_) <;> simp only[gt_iff_lt,dTx,dFx]at h2
     · exact⟨(Bz (.inr h2)).symm,hB⟩
     · exact⟨rfl,by omega,by omega⟩
 · refine aN.of ?_ _
   rintro w2 ⟨rfl,h1,h2⟩
   rw[wrap_i64 (n:=n+719468) (by omega) (by omega),oa (by omega)]
   refine⟨by decide,?_⟩
   intro of hof
   have hof2:0 <=of/\of <=146096:=by omega
   refine⟨by decide,?_⟩
   rintro q1 hq1
   rw[gG hof2.1,wrap_i64 (by omega) (by omega)]at hq1
   refine⟨by decide,?_⟩
   rintro q2 hq2
   rw[gG hof2.1,wrap_i64 (by omega) (by omega)]at hq2
   refine⟨by decide,?_⟩
   rintro q3 hq3
   rw[gG hof2.1,wrap_i64 (by omega) (by omega)]at hq3
   refine⟨by decide,?_⟩
   rintro yoe hyoe
   rw[wrap_i64 (n:=of-q1) (by omega) (by omega),wrap_i64 (n:=of-q1+q2) (by omega) (by omega),wrap_i64 (n:=of-q1+q2-q3) (by omega) (by omega),gG (by omega),wrap_i64 (by omega) (by omega)]at hyoe
   have hyr:0 <=yoe/\yoe <=400:=by omega
   refine⟨by decide,?_⟩
   rintro q4 hq4
   rw[gG hyr.1,wrap_i64 (by omega) (by omega)]at hq4
   refine⟨by decide,?_⟩
   rintro q5 hq5
   rw[gG hyr.1,wrap_i64 (by omega) (by omega)]at hq5
   rw[wrap_i64 (n:=365*yoe) (by omega) (by omega),wrap_i64 (n:=365*yoe+q4) (by omega) (by omega),wrap_i64 (n:=365*yoe+q4-q5) (by omega) (by omega),wrap_i64 (n:=of-(365*yoe+q4-q5)) (by omega) (by omega)]
   obtain⟨doy,hdoy⟩:∃doy,doy=of-(365*yoe+q4-q5):=⟨_,rfl⟩
   rw[<- hdoy]
   have hy':yoe=(of-of/1460+of/36524-of/146096)/365:=by rw[hyoe,hq1,hq2,hq3]
   have hd':doy=of-(365*yoe+yoe/4-yoe/100):=by rw[hdoy,hq4,hq5]
   obtain⟨_,_,_,_,c5,c6,c7,c8,_⟩:=Fu h1 h2 of yoe doy _ _ _ hof rfl hy' hd' rfl rfl
   refine⟨by decide,?_⟩
   rintro mp hmp
   rw[wrap_i64 (n:=5*doy) (by omega) (by omega),wrap_i64 (n:=5*doy+2) (by omega) (by omega),gG (by omega),wrap_i64 (by omega) (by omega)]at hmp
   refine⟨by decide,?_⟩
   rintro q6 hq6
   have hmr:0 <=mp/\mp <=12:=by omega
   rw[wrap_i64 (n:=153*mp) (by omega) (by omega),wrap_i64 (n:=153*mp+2) (by omega) (by omega),gG (by omega),wrap_i64 (by omega) (by omega)]at hq6
   refine⟨by decide,?_⟩
   rintro era hera
   rw[gG (by omega),wrap_i64 (by omega) (by omega)]at hera
   obtain⟨_,_,c3,c4,_,_,_,_,c9,c10,c11,c12,hdt,hdd⟩:=Fu h1 h2 of yoe doy mp (doy-q6+1) era hof hera hy' hd' hmp (by rw[hq6])
   clear hy' hd' hq1 hq2 hq3 hyoe
   rw[wrap_i64 (n:=mp+3) (by omega) (by omega),wrap_i64 (n:=doy-q6) (by omega) (by omega),wrap_i64 (n:=doy-q6+1) (by omega) (by omega),wrap_i64 (n:=era*400) (by omega) (by omega),wrap_i64 (n:=yoe+era*400) (by omega) (by omega)]
   refine ae.of (λh=>?_) (λh=>?_) <;> simp only[gt_iff_lt,dTx,dFx]at h
   · rw[if_pos h,if_pos h]at hdt hdd
     rw[wrap_i64 (by omega) (by omega),wrap_i64 (by omega) (by omega)]
     exact⟨by rw[<- hdd,Ju hdt],hB⟩
   · rw[if_neg h,if_neg h]at hdt hdd
     exact⟨by rw[<- hdd,Ju hdt],hB⟩
def EJ (c:UInt8):UInt8:=if 65 <=c/\c <=90 then c+32 else c
def eH (s:List UInt8):List UInt8:=s.map EJ
theorem QY:∀n,n<256->((EJ (UInt8.ofNat n)).toNat:Int)=if 65 <=(n:Int)/\(n:Int) <=90 then(n:Int)+32 else(n:Int):=by decide+kernel
theorem QZ (c:UInt8):((EJ c).toNat:Int)=if 65 <=(c.toNat:Int)/\(c.toNat:Int) <=90 then(c.toNat:Int)+32 else(c.toNat:Int):=by
 have:=QY c.toNat (by have:=c.toNat_lt;omega)
 rwa [UInt8.ofNat_toNat]at this
theorem eU (s:List UInt8)(hs:s.length <=9223372036854775800)(w:World):Cf eJ #[vS s] w (Ret λv w'=>v=vS (eH s)/\bW w w'):=by
 apply CM
 obtain⟨w1,a,n,c,hr,ho,hb,hf⟩:=mq aF cg cH w s (by omega) NoB
 have hn:=ho.len
 subst hn
 refine⟨w1,a,_,c,hr,?_⟩
 refine⟨λm i w'=>∃k:Nat,k <=s.length/\i=(k:Int)/\m=s.length-k/\Ow tU8 bX w' NoB a s.length c (eH (s.take k)++s.drop k)/\w1.grownBy w' (dV a),
   ⟨_,0,by omega,rfl,rfl,by simpa[eH]using ho,⟨rfl,rfl,rfl,Nat.le_refl _,λ_ _ _=>rfl⟩⟩,?_⟩
 intro m i
 refine aN.of ?_ _
 rintro w' ⟨k,hk,rfl,rfl,ho',hg⟩
 have hll:(eH (s.take k)++s.drop k).length=s.length:=by simp[eH];omega
 refine ae.of (λh=>?_) (λh=>?_) <;> simp at h
 · have hlk:(eH (s.take k)).length=k:=by simp[eH];omega
   have hsl:=ho'.all
   obtain⟨v,hv,hrep⟩:=hsl.load1 (i:=(k:Int)) cH rfl rfl (by rw[hll];simpa using h)
   have:=xg hrep
   subst this
   have eg:(eH (s.take k)++s.drop k)[(k:Int).toNat]'(by rw[hll];simpa using h)=s[k]:=by
     simp only[Int.toNat_natCast]
     rw[List.getElem_append_right (by rw[hlk];exact Nat.le_refl _)]
     simp[hlk]
   rw[eg]at hv
   have hin:(0 <=(k:Int)/\(k:Int)<((s.length:Nat):Int))/\Option.isSome a=true:=⟨⟨by omega,by omega⟩,hsl.isSome (i:=k) (by rw[hll];exact h)⟩
   have hlt:=Em s[k]
   have hlow:=QZ s[k]
   have e1:i64.wrap ((k:Int)+1)=((k+1:Nat):Int):=by rw[wrap_i64 (by omega) (by omega)];omega
   try dsimp only
   rw[e1]
   have hstep:∀x,(eH (s.take k)++s.drop k).set k x=eH (s.take k)++x::s.drop (k+1):=λx=>by
     rw[List.set_append_right _ _ (by rw[hlk];exact Nat.le_refl _),hlk,Nat.sub_self,List.drop_eq_getElem_cons h];rfl
   have hnext:eH (s.take (k+1))++s.drop (k+1)=eH (s.take k)++EJ s[k]::s.drop (k+1):=by
     unfold eH;rw[List.take_succ_eq_append_getElem h,List.map_append,List.append_assoc];rfl
   refine⟨hin,_,hv,λb w''=>w''=w'/\b=decide (65 <=(s[k].toNat:Int)/\(s[k].toNat:Int) <=90),?_,?_⟩
   · refine ae.of (λh2=>?_) (λh2=>?_) <;> simp only[ge_iff_le,dTx,dFx]at h2
     · exact⟨rfl,by simp[h2]⟩
     · exact⟨rfl,by simp[h2]⟩
   · intro b
     refine aN.of ?_ _
     rintro w' ⟨rfl,rfl⟩
     refine ae.of (λh2=>?_) (λh2=>?_) <;> simp only[dTx,dFx]at h2
     · rw[if_pos h2]at hlow
       rw[wrap_u8 (n:=(s[k].toNat:Int)-65) (by omega) (by omega),wrap_u8 (by omega) (by omega)]
       obtain⟨w4,hs4,ho4,hg4⟩:=ho'.store (P:=prog) (bytes:=1) (z:=.int .u8 0) mD (λ_ _ h=>h) (i:=(k:Int)) (by rw[hll];simpa using h) (k:=1) rfl (v:=.int .u8 ((s[k].toNat:Int)-65+97)) (x:=EJ s[k]) (zl (by rw[hlow];omega))
       simp only[Int.toNat_natCast]at ho4
       rw[hstep,<- hnext]at ho4
       exact⟨hin,w4,hs4,s.length-(k+1),by omega,k+1,by omega,rfl,rfl,ho4,⟨hg4.os.trans hg.os,hg4.tape.trans hg.tape,hg4.output.trans hg.output,Nat.le_trans hg.size hg4.size,λq hq hne=>(hg4.block q (Nat.lt_of_lt_of_le hq hg.size) hne).trans (hg.block q hq hne)⟩⟩
     · rw[if_neg h2]at hlow
       have hc:EJ s[k]=s[k]:=IE hlow
       refine⟨s.length-(k+1),by omega,k+1,by omega,rfl,rfl,?_,hg⟩
       rw[hnext,hc,<- List.drop_eq_getElem_cons h];exact ho'
 · have:k=s.length:=by omega
   subst this
   have e2:eH (s.take s.length)++s.drop s.length=eH s:=by simp
   rw[e2]at ho'
   exact⟨_,vL cg aF cH ho'.all,rfl,hb.grown hg hb.size hf⟩
theorem qM (s t:List UInt8)(hs:s.length <=9223372036854775800)(ht:t.length <=9223372036854775800)(w:World):Cf lm #[vS s,vS t] w (Ret λv w'=>v=.bool (eH s==eH t)/\bW w w'):=by
 apply D6
 refine aB (eU s hs w) ?_
 rintro _ w1 ⟨rfl,hb1⟩
 refine⟨_,rfl,?_⟩
 refine aB (eU t ht w1) ?_
 rintro _ w2 ⟨rfl,hb2⟩
 exact⟨_,rfl,rfl,ab hb1 hb2 hb1.size⟩
end Go.Pk
namespace Go.Proofs
open Go.Pk (Cf vS vI bW)
open Go.Shelf
open Go.RowKit in
def Tryz.lays169_ren:Go.Shelf.Ren:=⟨fun|169=>107|n=>n,fun|70=>188|9=>9|0=>0|72=>191|37=>189|127=>262|3=>3|5=>5|n=>n,fun|n=>n⟩
theorem Tryz.lays169:Go.Proofs.Lays.n169 prog Tryz.lays169_ren:=by constructor <;> intros <;> kernel_rfl
theorem Tryz.Builder_Extra_169:Builder.Extra prog Tryz.lays169_ren:= {
 sizeBuilder:=by kernel_rfl
 liesBuilder:=by kernel_rfl
 t5:=Tryz.underlying5
 a5:=Tryz.isAgg5
 z5:=Tryz.sizeOf5
 v5:=Tryz.zeroValue5
 infoByte:=by kernel_rfl
 cellsByte:=by kernel_rfl
 sizeByte:=by kernel_rfl
 neB5:=by decide }
open Go.RowKit in
theorem Tryz.Builder_String_any (B b:Nat)(l:List UInt8)(w:World)(h:Lib.IsBuilder 191 5 B b (Lib.byteCells l) w)(hBw:B <=w.heap.size):
   Cf 107 #[.pointer (some ⟨b,0,none⟩)] w λe w'=>e=.returned (.string ⟨l.toArray⟩)/\Below B w w':=Any.Builder_String_any Tryz.lays169 Tryz.Builder_Extra_169 B b l w h hBw
open Go.RowKit in
def Tryz.lays156_ren:Go.Shelf.Ren:=⟨fun|156=>114|165=>206|166=>106|169=>107|240=>182|241=>288|276=>264|277=>332|n=>n,fun|31=>43|9=>9|3=>3|4=>4|0=>0|20=>20|72=>191|76=>196|70=>188|37=>189|75=>195|127=>262|164=>312|5=>5|80=>198|n=>n,fun|n=>n⟩
theorem Tryz.lays156:Go.Proofs.Lays.n156 prog Tryz.lays156_ren:=by constructor <;> intros <;> kernel_rfl
theorem Tryz.Builder_Extra_156:Builder.Extra prog Tryz.lays156_ren:= {
 sizeBuilder:=by kernel_rfl
 liesBuilder:=by kernel_rfl
 t5:=Tryz.underlying5
 a5:=Tryz.isAgg5
 z5:=Tryz.sizeOf5
 v5:=Tryz.zeroValue5
 infoByte:=by kernel_rfl
 cellsByte:=by kernel_rfl
 sizeByte:=by kernel_rfl
 neB5:=by decide }
open Go.RowKit in
theorem Tryz.strings_Join_none (a:Option Addr)(c:Nat)(sep:ByteArray)(w:World):
   Cf 114 #[.slice a 0 c,.string sep] w λe w'=>e=.returned (.string ⟨#[]⟩)/\w'=w:=Any.strings_Join_none Tryz.lays156 Tryz.Builder_Extra_156 a c sep w
open Go.RowKit in
theorem Tryz.strings_Join (bk o c:Nat)(xs:List ByteArray)(sep:ByteArray)(w:World)(hcells:∀(j:Nat) x,xs[j]? =some x->w.cell? ⟨bk,o+j,none⟩=some (.string x))(hbk:bk<w.heap.size)(hN:xs.length <=140737488355328)(hcap:xs.length <=c)(hlen:(Lib.join (xs.map (·.data.toList)) sep.data.toList).length <=140737488355328):
   Cf 114 #[.slice (some ⟨bk,o,none⟩) xs.length c,.string sep] w λe w'=>e=.returned (.string ⟨(Lib.join (xs.map (·.data.toList)) sep.data.toList).toArray⟩)/\bW w w':=Any.strings_Join Tryz.lays156 Tryz.Builder_Extra_156 bk o c xs sep w hcells hbk hN hcap hlen
open Go.RowKit in
def Tryz.lays161_ren:Go.Shelf.Ren:=⟨fun|161=>155|231=>240|227=>238|233=>241|235=>242|228=>239|197=>308|151=>309|260=>340|152=>236|137=>135|119=>305|224=>306|225=>307|217=>221|266=>293|n=>n,fun|9=>9|4=>4|3=>3|5=>5|117=>298|116=>297|0=>0|124=>303|105=>339|21=>21|119=>396|46=>323|139=>399|138=>398|n=>n,fun|3=>1|4=>2|n=>n⟩
theorem Tryz.lays161:Go.Proofs.Lays.n161 prog Tryz.lays161_ren:=by constructor <;> intros <;> kernel_rfl
open Go.RowKit in
theorem Tryz.strings_TrimLeft_one (s:ByteArray)(c:UInt8)(hc:c.toNat<128)(w:World):
   Cf 155 #[.string s,.string ⟨#[c]⟩] w λe w'=>e=.returned (.string ⟨(Lib.trimLeftB s.data.toList c).toArray⟩)/\w'=w:=Any.strings_TrimLeft_one Tryz.lays161 s c hc w
def Tryz.lays160_ren:Go.Shelf.Ren:=⟨fun|160=>235|232=>302|231=>240|227=>238|234=>303|233=>241|236=>304|235=>242|228=>239|271=>339|151=>309|197=>308|120=>372|152=>236|260=>340|137=>135|119=>305|224=>306|225=>307|217=>221|266=>293|n=>n,fun|9=>9|4=>4|3=>3|5=>5|117=>298|116=>297|0=>0|124=>303|21=>21|105=>339|46=>323|119=>396|139=>399|138=>398|n=>n,fun|3=>1|4=>2|n=>n⟩
theorem Tryz.lays160:Go.Proofs.Lays.n160 prog Tryz.lays160_ren:=by constructor <;> intros <;> kernel_rfl
open Go.RowKit in
theorem Tryz.strings_Trim_one (s:ByteArray)(c:UInt8)(hc:c.toNat<128)(w:World)(hs:s.size <=9223372036854775807):
   Cf 235 #[.string s,.string ⟨#[c]⟩] w λe w'=>e=.returned (.string ⟨(Lib.trimB s.data.toList c).toArray⟩)/\(w'=w\/w'=w.drew):=Any.strings_Trim_one Tryz.lays160 s c hc w hs
def Tryz.lays119_ren:Go.Shelf.Ren:=⟨fun|119=>305|n=>n,fun|21=>21|4=>4|n=>n,fun|n=>n⟩
theorem Tryz.lays119:Go.Proofs.Lays.n119 prog Tryz.lays119_ren:=by constructor <;> intros <;> kernel_rfl
theorem Tryz.utf8_ValidRune (r:Int)(w:World):
   Cf 305 #[.int .i32 r] w λe w'=>e=.returned (.bool (Lib.validRune r))/\w'=w:=Any.utf8_ValidRune Tryz.lays119 r w
def Tryz.lays137_ren:Go.Shelf.Ren:=⟨fun|137=>135|217=>221|266=>293|n=>n,fun|9=>9|5=>5|3=>3|n=>n,fun|n=>n⟩
theorem Tryz.lays137:Go.Proofs.Lays.n137 prog Tryz.lays137_ren:=by constructor <;> intros <;> kernel_rfl
open Go.RowKit in
theorem Tryz.strings_IndexByte (s:ByteArray)(c:Int)(w:World):
   Cf 135 #[.string s,.int .u8 c] w λe w'=>e=.returned (vI (Lib.indexByte s.data.toList c.toNat.toUInt8))/\w'=w:=Any.strings_IndexByte Tryz.lays137 s c w
open Go.RowKit in
def Tryz.lays103_ren:Go.Shelf.Ren:=⟨fun|103=>148|210=>234|206=>98|n=>n,fun|9=>9|4=>4|24=>221|3=>3|n=>n,fun|n=>n⟩
theorem Tryz.lays103:Go.Proofs.Lays.n103 prog Tryz.lays103_ren:=by constructor <;> intros <;> kernel_rfl
open Go.RowKit in
theorem Tryz.strings_CutPrefix (s p:ByteArray)(w:World):
   Cf 148 #[.string s,.string p] w λe w'=>e=.returned (.tuple #[.string ⟨(Lib.trimPrefix s.data.toList p.data.toList).toArray⟩,.bool (Lib.hasPrefix s.data.toList p.data.toList)])/\w'=w:=Any.strings_CutPrefix Tryz.lays103 s p w
open Go.RowKit in
def Tryz.lays104_ren:Go.Shelf.Ren:=⟨fun|104=>194|211=>279|207=>301|n=>n,fun|9=>9|4=>4|24=>221|3=>3|n=>n,fun|n=>n⟩
theorem Tryz.lays104:Go.Proofs.Lays.n104 prog Tryz.lays104_ren:=by constructor <;> intros <;> kernel_rfl
open Go.RowKit in
theorem Tryz.strings_CutSuffix (s p:ByteArray)(w:World)(hs:s.size <=9223372036854775807):
   Cf 194 #[.string s,.string p] w λe w'=>e=.returned (.tuple #[.string ⟨(Lib.trimSuffix s.data.toList p.data.toList).toArray⟩,.bool (Lib.hasSuffix s.data.toList p.data.toList)])/\w'=w:=Any.strings_CutSuffix Tryz.lays104 s p w hs
open Go.RowKit in
def Tryz.lays172_ren:Go.Shelf.Ren:=⟨fun|172=>380|244=>389|245=>390|247=>394|279=>395|280=>396|281=>397|282=>398|287=>400|316=>401|171=>202|205=>402|321=>403|322=>404|243=>286|246=>330|283=>364|284=>365|285=>366|286=>367|129=>354|317=>384|318=>385|319=>386|320=>387|337=>392|338=>393|n=>n,fun|9=>9|3=>3|75=>195|76=>196|4=>4|5=>5|167=>415|37=>189|0=>0|85=>416|2=>2|168=>418|53=>325|175=>423|46=>323|210=>426|127=>262|145=>430|143=>428|21=>21|171=>388|173=>390|212=>409|51=>380|20=>20|213=>410|232=>421|233=>422|80=>198|n=>n,fun|15=>6|16=>7|17=>3|18=>4|19=>5|n=>n⟩
theorem Tryz.lays172:Go.Proofs.Lays.n172 prog Tryz.lays172_ren:=by constructor <;> intros <;> kernel_rfl
open Go.RowKit in
theorem Tryz.strconv_Atoi (s:ByteArray)(n:Int)(hl:s.size <=18)(h:Lib.atoi s.data.toList=some n)(w:World):
   Cf 380 #[.string s] w λe w'=>e=.returned (.tuple #[vI n,.nilIface])/\∃t,w'=Lib.bytesWorld w 5 t:=Any.strconv_Atoi Tryz.lays172 s n hl h w
open Go.Lib in
open Go.RowKit Go.Sort Go.Lib in
def Tryz.laysM246_ren:Go.Shelf.Ren:=⟨fun|246=>330|283=>364|284=>365|285=>366|286=>367|129=>354|317=>384|318=>385|319=>386|320=>387|337=>392|338=>393|n=>n,fun|2=>2|3=>3|9=>9|4=>4|171=>388|0=>0|53=>325|37=>189|5=>5|173=>390|212=>409|51=>380|20=>20|213=>410|46=>323|232=>421|233=>422|n=>n,fun|17=>3|18=>4|19=>5|n=>n⟩
theorem Tryz.laysM246:Go.Proofs.LaysM.n246 prog Tryz.laysM246_ren:=by constructor <;> first|(intros;kernel_rfl)|(constructor <;> intros <;> kernel_rfl)
open Go.RowKit Go.Sort Go.Lib in
theorem Tryz.internal_strconv_FormatInt_10 (n:Int)(h0: -9223372036854775808 <=n)(h1:n <=9223372036854775807)(w:World)(htab:Lib.TabIs prog w "internal/strconv.uint64pow10" .u64 Lib.pow10Tab):
   Cf 330 #[vI n,vI 10] w λe w'=>e=.returned (.string ⟨(Lib.itoa n).toArray⟩)/\∃k os,w'=grow (w.drewN k) os:=Any.internal_strconv_FormatInt_10 Tryz.laysM246 n h0 h1 w htab
open Go.RowKit Go.Sort Go.Lib in
def Tryz.laysM171_ren:Go.Shelf.Ren:=⟨fun|171=>202|243=>286|246=>330|283=>364|284=>365|285=>366|286=>367|129=>354|317=>384|318=>385|319=>386|320=>387|337=>392|338=>393|n=>n,fun|3=>3|9=>9|2=>2|4=>4|171=>388|0=>0|53=>325|37=>189|5=>5|173=>390|212=>409|51=>380|20=>20|213=>410|46=>323|232=>421|233=>422|n=>n,fun|17=>3|18=>4|19=>5|n=>n⟩
theorem Tryz.laysM171:Go.Proofs.LaysM.n171 prog Tryz.laysM171_ren:=by constructor <;> first|(intros;kernel_rfl)|(constructor <;> intros <;> kernel_rfl)
open Go.RowKit Go.Sort Go.Lib in
theorem Tryz.strconv_Itoa (n:Int)(h0: -9223372036854775808 <=n)(h1:n <=9223372036854775807)(w:World)(htab:Lib.TabIs prog w "internal/strconv.uint64pow10" .u64 Lib.pow10Tab):
   Cf 202 #[vI n] w λe w'=>e=.returned (.string ⟨(Lib.itoa n).toArray⟩)/\∃k os,w'=grow (w.drewN k) os:=Any.strconv_Itoa Tryz.laysM171 n h0 h1 w htab
def Tryz.lays171_ren:Go.Shelf.Ren:=⟨fun|171=>202|243=>286|246=>330|283=>364|284=>365|285=>366|286=>367|129=>354|317=>384|318=>385|319=>386|320=>387|337=>392|338=>393|n=>n,fun|3=>3|9=>9|2=>2|4=>4|171=>388|0=>0|53=>325|37=>189|5=>5|173=>390|212=>409|51=>380|20=>20|213=>410|46=>323|232=>421|233=>422|n=>n,fun|17=>3|18=>4|19=>5|n=>n⟩
theorem Tryz.lays171:Go.Proofs.Lays.n171 prog Tryz.lays171_ren:=by constructor <;> intros <;> kernel_rfl
open Go.RowKit Go.Sort Go.Lib in
theorem Tryz.strconv_Itoa_small (i:Nat)(hi:i<100)(w:World):
   Cf 202 #[vI i] w λe w'=>e=.returned (.string ⟨(Lib.decDigits i).toArray⟩)/\w'=w:=Any.strconv_Itoa_small Tryz.lays171 i hi w
open Go.RowKit Go.Lib in
def Tryz.lays145_ren:Go.Shelf.Ren:=⟨fun|145=>176|220=>260|219=>320|217=>221|225=>307|224=>306|267=>355|266=>293|314=>379|n=>n,fun|9=>9|4=>4|59=>256|3=>3|5=>5|46=>323|146=>392|51=>380|n=>n,fun|1=>0|n=>n⟩
theorem Tryz.lays145:Go.Proofs.Lays.n145 prog Tryz.lays145_ren:=by constructor <;> intros <;> kernel_rfl
open Go.RowKit Go.Lib in
theorem Tryz.strings_Cut (s sep:ByteArray)(m:Int)(w:World)(hs:s.size<4294967281)(hm:w.cell? ⟨0,0,none⟩=some (vI m)):
   Cf 176 #[.string s,.string sep] w λe w'=>e=.returned (.tuple #[.string ⟨(Lib.cut s.data.toList sep.data.toList).1.toArray⟩,.string ⟨(Lib.cut s.data.toList sep.data.toList).2.1.toArray⟩,.bool (Lib.cut s.data.toList sep.data.toList).2.2])/\∃n,w'=w.drewN n:=Any.strings_Cut Tryz.lays145 s sep m w hs hm
open Go.RowKit Go.Lib in
def Tryz.lays190_ren:Go.Shelf.Ren:=⟨fun|190=>253|125=>317|258=>316|128=>353|129=>354|302=>344|303=>345|304=>346|305=>347|306=>348|307=>349|308=>350|309=>351|310=>352|333=>373|329=>374|330=>375|334=>376|335=>377|336=>378|344=>388|n=>n,fun|31=>43|9=>9|3=>3|46=>323|0=>0|51=>380|53=>325|4=>4|183=>374|182=>373|131=>208|5=>5|218=>400|222=>404|228=>411|229=>276|n=>n,fun|n=>n⟩
theorem Tryz.lays190:Go.Proofs.Lays.n190 prog Tryz.lays190_ren:=by constructor <;> intros <;> kernel_rfl
open Go.Sort Go.RowKit in
theorem Tryz.slices_Sort_string (blk off cap:Nat)(ss:List (List UInt8))(w:World)(hH:Holds encStr w blk off ss.toArray)(hblk:blk<w.heap.size)(hsz:ss.length<4611686018427387904):
   Cf 253 #[.slice (some ⟨blk,off,none⟩) ss.length cap] w λe w'=>
     e=.returned (.tuple #[])/\∃n os,w'=grow (putRow encStr (Sort.ahead w n) blk off (ss.mergeSort λx y=>decide (x <=y)).toArray) os:=Any.slices_Sort_string Tryz.lays190 blk off cap ss w hH hblk hsz
open Go.RowKit Go.Lib in
def Tryz.lays149_ren:Go.Shelf.Ren:=⟨fun|149=>275|222=>327|n=>n,fun|9=>9|5=>5|3=>3|4=>4|n=>n,fun|n=>n⟩
theorem Tryz.lays149:Go.Proofs.Lays.n149 prog Tryz.lays149_ren:=by constructor <;> intros <;> kernel_rfl
open Go.RowKit Go.Lib in
theorem Tryz.strings_LastIndexByte (s:ByteArray)(c:Int)(hs:s.size<4611686018427387904)(w:World):
   Cf 275 #[.string s,.int .u8 c] w λe w'=>e=.returned (vI (Lib.lastIndexByte s c))/\w'=w:=Any.strings_LastIndexByte Tryz.lays149 s c hs w
open Go.RowKit Go.Lib in
def Tryz.lays99_ren:Go.Shelf.Ren:=⟨fun|99=>52|206=>98|n=>n,fun|9=>9|4=>4|3=>3|n=>n,fun|n=>n⟩
theorem Tryz.lays99:Go.Proofs.Lays.n99 prog Tryz.lays99_ren:=by constructor <;> intros <;> kernel_rfl
open Go.RowKit Go.Lib in
theorem Tryz.strings_HasPrefix (s p:ByteArray)(w:World):
   Cf 52 #[.string s,.string p] w λe w'=>e=.returned (.bool (Lib.hasPrefix s.data.toList p.data.toList))/\w'=w:=Any.strings_HasPrefix Tryz.lays99 s p w
open Go.RowKit Go.Lib in
def Tryz.lays100_ren:Go.Shelf.Ren:=⟨fun|100=>278|207=>301|n=>n,fun|9=>9|4=>4|3=>3|n=>n,fun|n=>n⟩
theorem Tryz.lays100:Go.Proofs.Lays.n100 prog Tryz.lays100_ren:=by constructor <;> intros <;> kernel_rfl
open Go.RowKit Go.Lib in
theorem Tryz.strings_HasSuffix (s p:ByteArray)(w:World)(hs:s.size <=9223372036854775807):
   Cf 278 #[.string s,.string p] w λe w'=>e=.returned (.bool (Lib.hasSuffix s.data.toList p.data.toList))/\w'=w:=Any.strings_HasSuffix Tryz.lays100 s p w hs
open Go.RowKit Go.Lib in
def Tryz.lays101_ren:Go.Shelf.Ren:=⟨fun|101=>267|208=>325|206=>98|n=>n,fun|9=>9|4=>4|3=>3|n=>n,fun|n=>n⟩
theorem Tryz.lays101:Go.Proofs.Lays.n101 prog Tryz.lays101_ren:=by constructor <;> intros <;> kernel_rfl
open Go.RowKit Go.Lib in
theorem Tryz.strings_TrimPrefix (s p:ByteArray)(w:World):
   Cf 267 #[.string s,.string p] w λe w'=>e=.returned (.string ⟨(Lib.trimPrefix s.data.toList p.data.toList).toArray⟩)/\w'=w:=Any.strings_TrimPrefix Tryz.lays101 s p w
open Go.RowKit Go.Lib in
def Tryz.lays102_ren:Go.Shelf.Ren:=⟨fun|102=>145|209=>232|207=>301|n=>n,fun|9=>9|4=>4|3=>3|n=>n,fun|n=>n⟩
theorem Tryz.lays102:Go.Proofs.Lays.n102 prog Tryz.lays102_ren:=by constructor <;> intros <;> kernel_rfl
open Go.RowKit Go.Lib in
theorem Tryz.strings_TrimSuffix (s p:ByteArray)(w:World)(hs:s.size <=9223372036854775807):
   Cf 145 #[.string s,.string p] w λe w'=>e=.returned (.string ⟨(Lib.trimSuffix s.data.toList p.data.toList).toArray⟩)/\w'=w:=Any.strings_TrimSuffix Tryz.lays102 s p w hs
open Go.RowKit Go.Lib in
def Tryz.lays146_ren:Go.Shelf.Ren:=⟨fun|146=>231|221=>300|268=>336|138=>337|143=>338|195=>370|197=>308|218=>371|219=>320|260=>340|217=>221|225=>307|224=>306|267=>355|266=>293|314=>379|n=>n,fun|9=>9|31=>43|3=>3|4=>4|0=>0|105=>339|21=>21|5=>5|46=>323|119=>396|139=>399|138=>398|146=>392|51=>380|n=>n,fun|1=>0|3=>1|4=>2|n=>n⟩
theorem Tryz.lays146:Go.Proofs.Lays.n146 prog Tryz.lays146_ren:=by constructor <;> intros <;> kernel_rfl
open Go.RowKit Go.Lib in
theorem Tryz.strings_Split (s sep:ByteArray)(m:Int)(w:World)(hs:s.size<4294967281)(hm:w.cell? ⟨0,0,none⟩=some (vI m))(h1:1 <=sep.size):
   Cf 231 #[.string s,.string sep] w λe w'=>
     e=.returned (.slice (some ⟨w.heap.size,0,none⟩) (Lib.countB s sep+1) (Lib.countB s sep+1))/\w'=w.alloc (.cells ((Lib.splitB sep 0 (Lib.countB s sep) s).map Value.string).toArray 9):=Any.strings_Split Tryz.lays146 (by kernel_rfl) s sep m w hs hm h1
open Go.RowKit Go.Lib in
def Tryz.lays152_ren:Go.Shelf.Ren:=⟨fun|152=>236|137=>135|119=>305|224=>306|225=>307|217=>221|266=>293|n=>n,fun|9=>9|21=>21|3=>3|4=>4|5=>5|0=>0|46=>323|n=>n,fun|n=>n⟩
theorem Tryz.lays152:Go.Proofs.Lays.n152 prog Tryz.lays152_ren:=by constructor <;> intros <;> kernel_rfl
open Go.RowKit Go.Lib in
theorem Tryz.strings_IndexRune_ascii (s:ByteArray)(r:Int)(w:World)(h0:0 <=r)(h1:r<128):
   Cf 236 #[.string s,.int .i32 r] w λe w'=>e=.returned (vI (Lib.indexByte s.data.toList r.toNat.toUInt8))/\w'=w:=Any.strings_IndexRune_ascii Tryz.lays152 s r w h0 h1
open Go.RowKit Go.Lib in
def Tryz.lays226_ren:Go.Shelf.Ren:=⟨fun|226=>237|n=>n,fun|3=>3|4=>4|n=>n,fun|n=>n⟩
theorem Tryz.lays226:Go.Proofs.Lays.n226 prog Tryz.lays226_ren:=by constructor <;> intros <;> kernel_rfl
open Go.RowKit Go.Lib in
theorem Tryz.strings_shouldUseASCIISet (n:Int)(w:World):
   Cf 237 #[vI n] w λe w'=>e=.returned (.bool (decide (8<n)))/\w'=w:=Any.strings_shouldUseASCIISet Tryz.lays226 n w
def Tryz.lays153_ren:Go.Shelf.Ren:=⟨fun|153=>153|152=>236|226=>237|227=>238|228=>239|137=>135|119=>305|224=>306|225=>307|217=>221|266=>293|n=>n,fun|9=>9|3=>3|4=>4|5=>5|21=>21|117=>298|116=>297|0=>0|46=>323|124=>303|n=>n,fun|n=>n⟩
theorem Tryz.lays153:Go.Proofs.Lays.n153 prog Tryz.lays153_ren:=by constructor <;> intros <;> kernel_rfl
open Go.RowKit Go.Lib in
theorem Tryz.strings_IndexAny_long (hv116:∀w,(zeroValue 297).run prog w=.ok (.agg (Array.replicate 256 (.bool false))) w)(s chars:ByteArray)(w:World)(h2:2 <=chars.size)(h8:8<s.size)(hs:s.size<4294967281)(hcs:chars.size<4294967281)(hascii:∀(j:Nat) b,chars.data.toList[j]? =some b->b.toNat<128):
   Cf 153 #[.string s,.string chars] w λe w'=>e=.returned (vI (Lib.indexAny s.data.toList chars.data.toList))/\w'=((w.alloc (.cells (Lib.setCells chars.data.toList) 297)).alloc (.cells (Lib.setCells chars.data.toList) 297)):=Any.strings_IndexAny_long Tryz.lays153 hv116 (by kernel_rfl) s chars w h2 h8 hs hcs hascii
open Go.RowKit Go.Lib in
def Tryz.lays105_ren:Go.Shelf.Ren:=⟨fun|105=>391|212=>335|99=>52|165=>206|166=>106|170=>399|169=>107|263=>368|264=>369|206=>98|240=>182|241=>288|276=>264|277=>332|n=>n,fun|9=>9|3=>3|4=>4|20=>20|0=>0|46=>323|109=>366|5=>5|72=>191|76=>196|51=>380|146=>392|53=>325|148=>394|70=>188|37=>189|75=>195|127=>262|164=>312|80=>198|n=>n,fun|n=>n⟩
theorem Tryz.lays105:Go.Proofs.Lays.n105 prog Tryz.lays105_ren:=by constructor <;> intros <;> kernel_rfl
theorem Tryz.Builder_Extra_105:Builder.Extra prog Tryz.lays105_ren:= {
 sizeBuilder:=by kernel_rfl
 liesBuilder:=by kernel_rfl
 t5:=Tryz.underlying5
 a5:=Tryz.isAgg5
 z5:=Tryz.sizeOf5
 v5:=Tryz.zeroValue5
 infoByte:=by kernel_rfl
 cellsByte:=by kernel_rfl
 sizeByte:=by kernel_rfl
 neB5:=by decide }
open Go.RowKit Go.Lib in
theorem Tryz.strings_Repeat (s:ByteArray)(c:Nat)(w:World)(hc:c <=9223372036854775807)(hlen:s.size*c <=140737488355328):
   Cf 391 #[.string s,vI c] w λe w'=>e=.returned (.string ⟨(Lib.repeatL s.data.toList c).toArray⟩)/\bW w w':=Any.strings_Repeat Tryz.lays105 Tryz.Builder_Extra_105 s c w hc hlen
open Go.RowKit Go.Lib in
open Go.Lib in
def Tryz.lays109_ren:Go.Shelf.Ren:=⟨fun|109=>149|n=>n,fun|31=>43|9=>9|3=>3|0=>0|4=>4|n=>n,fun|n=>n⟩
theorem Tryz.lays109:Go.Proofs.Lays.n109 prog Tryz.lays109_ren:=by constructor <;> intros <;> kernel_rfl
open Go.Lib in
theorem Tryz.slices_Index_string (b off n c:Nat)(zs:List ByteArray)(x:ByteArray)(w:World)(hz:n <=zs.length)(hbig:n <=9223372036854775807)(hc:∀j,j<zs.length->w.cell? ⟨b,off+j,none⟩=some (.string (zs.getD j ByteArray.empty))):
   Cf 149 #[.slice (some ⟨b,off,none⟩) n c,.string x] w λe w'=>e=.returned (vI (Lib.idxOfS (zs.take n) x))/\w'=w:=Any.slices_Index_string Tryz.lays109 b off n c zs x w hz hbig hc
open Go.Lib in
def Tryz.lays110_ren:Go.Shelf.Ren:=⟨fun|110=>233|109=>149|n=>n,fun|31=>43|9=>9|4=>4|3=>3|0=>0|n=>n,fun|n=>n⟩
theorem Tryz.lays110:Go.Proofs.Lays.n110 prog Tryz.lays110_ren:=by constructor <;> intros <;> kernel_rfl
open Go.Lib in
theorem Tryz.slices_Contains_string (b off n c:Nat)(zs:List ByteArray)(x:ByteArray)(w:World)(hz:n <=zs.length)(hbig:n <=9223372036854775807)(hc:∀j,j<zs.length->w.cell? ⟨b,off+j,none⟩=some (.string (zs.getD j ByteArray.empty))):
   Cf 233 #[.slice (some ⟨b,off,none⟩) n c,.string x] w λe w'=>e=.returned (.bool (Lib.containsS (zs.take n) x))/\w'=w:=Any.slices_Contains_string Tryz.lays110 b off n c zs x w hz hbig hc
open Go.Lib in
theorem Tryz.slices_Contains_string_empty (a:Option Addr)(c:Nat)(x:ByteArray)(w:World):
   Cf 233 #[.slice a 0 c,.string x] w λe w'=>e=.returned (.bool false)/\w'=w:=Any.slices_Contains_string_empty Tryz.lays110 a c x w
def Tryz.laysNm216_ren:Go.Shelf.Ren:=⟨fun|16=>146|n=>n,fun|24=>43|9=>9|4=>4|n=>n,fun|n=>n⟩
theorem Tryz.laysNm216:Go.Proofs.Lays2.n16 prog Tryz.laysNm216_ren:=by constructor <;> intros <;> kernel_rfl
open Go.RowKit Go.Lib in
theorem Tryz.slices_Clone_string (b off n c:Nat)(zs:List ByteArray)(w:World)(hz:n <=zs.length)(hbig:n*16 <=140737488355328)(hc:∀j,j<zs.length->w.cell? ⟨b,off+j,none⟩=some (.string (zs.getD j ByteArray.empty))):
   Cf 146 #[.slice (some ⟨b,off,none⟩) n c] w λe w'=>∃v',e=.returned v'/\w'.ownsRow w.heap.size 9 1 v' n ((zs.take n).map (Value.string))/\v'≠.slice none 0 0/\bW w w':=Any.slices_Clone_string Tryz.laysNm216 b off n c zs w hz hbig hc
open Go.RowKit Go.Lib in
theorem Tryz.slices_Clone_string_nil (n c:Nat)(w:World):
   Cf 146 #[.slice none n c] w λe w'=>e=.returned (.slice none 0 0)/\w'=w:=Any.slices_Clone_string_nil Tryz.laysNm216 n c w
open Go.RowKit Go.Lib in
theorem Tryz.slices_Clone_string_zero (a:Addr)(c:Nat)(w:World):
   Cf 146 #[.slice (some a) 0 c] w λe w'=>∃v',e=.returned v'/\w'.ownsRow w.heap.size 9 1 v' 0 []/\v'≠.slice none 0 0/\bW w w':=Any.slices_Clone_string_zero Tryz.laysNm216 a c w
def Tryz.lays194_ren:Go.Shelf.Ren:=⟨fun|194=>161|n=>n,fun|31=>43|9=>9|3=>3|4=>4|0=>0|n=>n,fun|n=>n⟩
theorem Tryz.lays194:Go.Proofs.Lays.n194 prog Tryz.lays194_ren:=by constructor <;> intros <;> kernel_rfl
open Go.RowKit Go.Lib Go.Sort in
theorem Tryz.slices_Compact_string (blk off cap:Nat)(zs:List (List UInt8))(w:World)(hH:Holds encStr w blk off zs.toArray)(hsz:zs.length <=9223372036854775807)(hcap:zs.length <=cap):
   Cf 161 #[.slice (some ⟨blk,off,none⟩) zs.length cap] w λe w'=>e=.returned (.slice (some ⟨blk,off,none⟩) (Lib.compact zs).length cap)/\∃q,w'=putRow encStr (Sort.ahead w q) blk off (Lib.compact zs++List.replicate (zs.length-(Lib.compact zs).length) []).toArray:=Any.slices_Compact_string Tryz.lays194 blk off cap zs w hH hsz hcap
open Go.RowKit Go.Lib Go.Sort in
theorem Tryz.slices_Compact_string_empty (a:Option Addr)(cap:Nat)(w:World):
   Cf 161 #[.slice a 0 cap] w λe w'=>e=.returned (.slice a 0 cap)/\w'=w:=Any.slices_Compact_string_empty Tryz.lays194 a cap w
open Go.RowKit Go.Lib Go.Sort in
open Go.RowKit Go.Sort in
theorem Tryz.slices_Sort_string_none (p:Option Addr)(cap:Nat)(w:World):
   Cf 253 #[.slice p 0 cap] w λe w'=>e=.returned (.tuple #[])/\w'=w:=Any.slices_Sort_string_none Tryz.lays190 p cap w
open Go.RowKit Go.Lib in
open Go.RowKit in
theorem Tryz.strings_TrimLeft_laid (s cutset:ByteArray)(w:World)(hcs:cutset.size<4294967281)(hascii:∀(j:Nat) b,cutset.data.toList[j]? =some b->b.toNat<128):
   Cf 155 #[.string s,.string cutset] w λe w'=>e=.returned (.string ⟨(Lib.trimLeftS s.data.toList cutset.data.toList).toArray⟩)/\bW w w':=
 Any.strings_TrimLeft_laid Tryz.lays161 (by kernel_rfl) s cutset w hcs hascii
open Go.RowKit in
theorem Tryz.strings_Trim_laid (s cutset:ByteArray)(w:World)(hs:s.size <=9223372036854775807)(hcs:cutset.size<4294967281)(hascii:∀(j:Nat) b,cutset.data.toList[j]? =some b->b.toNat<128):
   Cf 235 #[.string s,.string cutset] w λe w'=>e=.returned (.string ⟨(Lib.trimS s.data.toList cutset.data.toList).toArray⟩)/\bW w w':=
 Any.strings_Trim_laid Tryz.lays160 (by kernel_rfl) s cutset w hs hcs hascii
end Go.Proofs
namespace Go.Pk
open Go.RowKit (Below)
open Go.Proofs
def EM (n:Int):Prop:=n=9\/(32 <=n/\n <=47)\/(59 <=n/\n <=64)\/(91 <=n/\n <=96)\/(123 <=n/\n <=126)
instance  (n:Int):Decidable (EM n):=by unfold EM;infer_instance
theorem Fz (n:Int)(w:World):Cf sg #[.int .u8 n] w (Ret λv w'=>v=.bool (decide (EM n))/\w'=w):=by
 apply DV
 repeat' (refine ae.of (λh=>?_) (λh=>?_))
 all_goals
   refine⟨?_,rfl⟩
   congr 1
   rw[Bool.eq_iff_iff]
   simp only[dTx]
   simp only[EM,beq_iff_eq,beq_eq_false_iff_ne,ge_iff_le,dTx,dFx,true_iff,false_iff,iff_true,reduceCtorEq,Bool.false_eq_true]at*
   omega
def mA (c:UInt8):Bool:=decide (48 <=c)&&decide (c <=57)
def kX (s:List UInt8):List UInt8:=s.takeWhile mA
def lI (l:List UInt8):Int:=l.foldl (λn c=>n*10+((c.toNat:Int)-48)) 0
theorem JB:∀n,n<256->([48,49,50,51,52,53,54,55,56,57]:List UInt8).contains (UInt8.ofNat n)=mA (UInt8.ofNat n):=by decide+kernel
theorem NL (c:UInt8):([48,49,50,51,52,53,54,55,56,57]:List UInt8).contains c=mA c:=by
 have:=JB c.toNat (by have:=c.toNat_lt;omega)
 rwa [UInt8.ofNat_toNat]at this
theorem RJ (s:List UInt8):Lib.trimLeftS s [48,49,50,51,52,53,54,55,56,57]=s.dropWhile mA:=by
 unfold Lib.trimLeftS
 congr 1
 funext c
 exact NL c
theorem Hu (s:List UInt8):kX s++s.dropWhile mA=s:=List.takeWhile_append_dropWhile
theorem Tb (s:List UInt8):(s.dropWhile mA).length+(kX s).length=s.length:=by
 have:=congrArg List.length (Hu s)
 rw[List.length_append]at this;omega
theorem Qv (s:List UInt8):s.take (kX s).length=kX s:=by
 have h:(kX s++s.dropWhile mA).take (kX s).length=kX s:=List.take_left' rfl
 rwa [Hu]at h
theorem KB {s:List UInt8} :∀c∈kX s,mA c=true:=λc hc=>List.all_eq_true.1 (List.all_takeWhile (p:=mA) (l:=s)) c hc
theorem pL {c:UInt8} :mA c=true ↔ 48 <=c.toNat/\c.toNat <=57:=by
 unfold mA
 rw[Bool.and_eq_true,dTx,dTx,UInt8.le_iff_toNat_le,UInt8.le_iff_toNat_le]
 exact Iff.rfl
theorem Kz:∀(l:List UInt8) (acc:Nat),(∀c∈l,mA c=true)->∃n:Nat,Lib.decFrom acc l=some n/\(n:Int)=l.foldl (λn c=>n*10+((c.toNat:Int)-48)) (acc:Int)
 | [],acc,_=>⟨acc,rfl,rfl⟩
 | c::l,acc,h=>by
   have hc:=pL.1 (h c List.mem_cons_self)
   obtain⟨n,h1,h2⟩:=Kz l (acc*10+(c.toNat-48)) λx hx=>h x (List.mem_cons_of_mem _ hx)
   refine⟨n,?_,?_⟩
   · unfold Lib.decFrom Lib.digitVal
     rw[if_pos hc];exact h1
   · rw[h2,List.foldl_cons]
     congr 1
     omega
theorem PZ {l:List UInt8}(hne:l≠[])(h:∀c∈l,mA c=true):Lib.atoi l=some (lI l):=by
 match l,hne with
 | c::r,_=>
   have hc:=pL.1 (h c List.mem_cons_self)
   unfold Lib.atoi
   have h1:(c==45)=false:=by rw[beq_eq_false_iff_ne];intro e;subst e;simp at hc
   have h2:(c==43)=false:=by rw[beq_eq_false_iff_ne];intro e;subst e;simp at hc
   obtain⟨n,e1,e2⟩:=Kz (c::r) 0 h
   simp only[h1,h2,Bool.false_eq_true,if_false]
   unfold Lib.decNat
   simp only[List.isEmpty_cons,Bool.false_eq_true,if_false,e1,Option.map_some]
   rw[e2];rfl
def OJ (s:List UInt8)(least most:Int):Value:=if least <=((kX s).length:Int)/\((kX s).length:Int) <=most then .tuple #[vI (lI (kX s)),vS (s.drop (kX s).length),.bool true]else .tuple #[vI 0,vS s,.bool false]
theorem Jk (w:World)(e:TypeId)(s:ByteArray):bW w (Lib.bytesWorld w e s):=by
 unfold Lib.bytesWorld
 refine qL rfl rfl rfl (by simp[World.freeze]) λk hk=>?_
 simp only[World.freeze,if_neg (show ¬ (1:Nat)=0 by decide),Array.getElem?_modify]
 rw[if_neg (show ¬ w.heap.size=k by omega)]
 exact(Below.refl w.drew.heap.size w.drew |>.alloc (Nat.le_refl _) _).block k hk
theorem oG (s:List UInt8)(least most:Int)(h1:1 <=least)(h2:most <=18)(hs:s.length <=9223372036854775807)(w:World):
   Cf jI #[vS s,vI least,vI most] w (Ret λv w'=>v=OJ s least most/\bW w w'):=by
 apply CG
 refine(Tryz.strings_TrimLeft_laid (mkS s) (mkS [48,49,50,51,52,53,54,55,56,57]) w (by decide) (ascii_of_all (by decide))).mono ?_
 rintro _ w1 ⟨rfl,hb1⟩
 have e:(mkS s).data.toList=s:=rfl
 have e2:(mkS [48,49,50,51,52,53,54,55,56,57]).data.toList=[48,49,50,51,52,53,54,55,56,57]:=rfl
 rw[e,e2,RJ]
 refine⟨s.dropWhile mA,rfl,?_⟩
 have hl:=Tb s
 have ew:i64.wrap ((s.length:Int)-((s.dropWhile mA).length:Int))=((kX s).length:Int):=by rw[wrap_i64 (by omega) (by omega)];omega
 try dsimp only
 rw[ew]
 refine⟨λw'=>w'=w1/\least <=((kX s).length:Int)/\((kX s).length:Int) <=most,?_,?_⟩
 · refine ae.of (λh=>?_) (λh=>?_) <;> simp only[dTx,dFx]at h
   · exact⟨by unfold OJ;rw[if_neg (by omega)],hb1⟩
   · refine ae.of (λh3=>?_) (λh3=>?_) <;> simp only[gt_iff_lt,dTx,dFx]at h3
     · exact⟨by unfold OJ;rw[if_neg (by omega)],hb1⟩
     · exact⟨rfl,by omega,by omega⟩
 · refine aN.of ?_ _
   rintro w1 ⟨rfl,h3,h4⟩
   refine⟨⟨by omega,by omega⟩,?_⟩
   rintro _ rfl
   simp only[Int.toNat_natCast]
   rw[Qv]
   have hne:kX s≠[]:=λe=>by rw[e]at h3;simp at h3;omega
   refine(Tryz.strconv_Atoi (mkS (kX s)) (lI (kX s)) (by show(kX s).length <=18;omega) (PZ hne KB) w1).mono ?_
   rintro _ _ ⟨rfl,t,rfl⟩
   refine⟨_,_,rfl,⟨by omega,by omega⟩,?_⟩
   rintro _ rfl wq hq
   have hb2:=Jk w1 5 t
   refine⟨by unfold OJ;rw[if_pos ⟨h3,h4⟩],ab (ab hb1 hb2 hb1.size) hq (ab hb1 hb2 hb1.size).size⟩
def JV:List UInt8:=[74,97,110,70,101,98,77,97,114,65,112,114,77,97,121,74,117,110,74,117,108,65,117,103,83,101,112,79,99,116,78,111,118,68,101,99]
def OA (k:Nat):List UInt8:=eH ((JV.take (3*k+3)).drop (3*k))
def je (s:List UInt8):Nat->Nat->Int
 | 0,_=>0
 | f+1,k=>if 3 <=s.length/\eH (s.take 3)=OA k then(k:Int)+1 else je s f (k+1)
def nq (s:List UInt8):Int:=je s 12 0
theorem sB {s:List UInt8}(h: ¬ 3 <=s.length):∀f k,je s f k=0
 | 0,_=>rfl
 | f+1,k=>by unfold je;rw[if_neg (λe=>h e.1)];exact sB h f (k+1)
theorem Fy (s:List UInt8)(hs:s.length <=9223372036854775800)(w:World):Cf sf #[vS s] w (Ret λv w'=>v=vI (nq s)/\bW w w'):=by
 apply DU
 refine⟨λm i w'=>∃k:Nat,k <=12/\i=(k:Int)/\m=12-k/\nq s=je s (12-k) k/\bW w w',⟨_,0,by omega,rfl,rfl,rfl,Below.refl _ _⟩,?_⟩
 intro m i
 refine aN.of ?_ _
 rintro w1 ⟨k,hk,rfl,rfl,hv,hb⟩
 refine⟨λw'=>w'=w1/\k<12/\3 <=s.length,?_,?_⟩
 · refine ae.of (λh=>?_) (λh=>?_) <;> simp only[dTx,dFx]at h
   · refine ae.of (λh2=>?_) (λh2=>?_) <;> simp only[ge_iff_le,dTx,dFx]at h2
     · exact⟨rfl,by omega,by omega⟩
     · exact⟨by rw[hv,sB (by omega)],hb⟩
   · have:k=12:=by omega
     subst this
     exact⟨by rw[hv];rfl,hb⟩
 · refine aN.of ?_ _
   rintro w1 ⟨rfl,h1,h2⟩
   rw[wrap_i64 (n:=3*(k:Int)) (by omega) (by omega),wrap_i64 (n:=3*(k:Int)+3) (by omega) (by omega)]
   refine⟨⟨by omega,by omega⟩,?_⟩
   rintro _ rfl
   refine⟨⟨⟨by omega,by simp;omega⟩,by omega,by omega⟩,?_⟩
   rintro _ rfl
   have e1:Int.toNat (3*(k:Int))=3*k:=by omega
   have e2:Int.toNat (3*(k:Int)+3)=3*k+3:=by omega
   have e3:Int.toNat (3:Int)=3:=rfl
   rw[e1,e2,e3]
   refine⟨eH (s.take 3)==OA k,λu hu=>?_,?_⟩
   · refine(qM (s.take 3) ((JV.take (3*k+3)).drop (3*k)) (by simp;omega) (by simp[JV];omega) u).mono ?_
     rintro _ w2 ⟨_,rfl,rfl,hb2⟩
     exact⟨rfl,hb2.mono hu.size⟩
   · intro wq hq
     have ef:12-k=(12-(k+1))+1:=by omega
     rw[ef]at hv
     unfold je at hv
     have ew:i64.wrap ((k:Int)+1)=(k:Int)+1:=by rw[wrap_i64 (by omega) (by omega)]
     refine ae.of (λh=>?_) (λh=>?_)
     · rw[beq_iff_eq]at h
       rw[if_pos ⟨h2,h⟩]at hv
       exact⟨by rw[ew,hv],ab hb hq hb.size⟩
     · rw[beq_eq_false_iff_ne]at h
       rw[if_neg (λe=>h e.2)]at hv
       exact⟨12-(k+1),by omega,k+1,by omega,by rw[ew];omega,rfl,hv,ab hb hq hb.size⟩
def LK (i:Nat)(s:List UInt8):Option (List UInt8):=if i=0 then some s else if s.head?=some 58 then some (s.drop 1)else none
def Ka (i:Nat)(s:List UInt8):Option (Int×List UInt8):=(LK i s).bind λt=>if 1 <=(kX t).length/\(kX t).length <=2 then some (lI (kX t),t.drop (kX t).length)else none
def i6:Nat->Nat->List UInt8->Option (List Int)
 | 0,_,_=>some []
 | f+1,i,s=>(Ka i s).bind λp=>(i6 f (i+1) p.2).map (p.1:: ·)
def px (s:List UInt8):Option (List Int):=i6 3 0 s
theorem NG (s:List UInt8):Lib.hasPrefix s [58]=decide (s.head?=some 58)/\(s.head?=some 58->Lib.trimPrefix s [58]=s.drop 1):=by
 cases s with
 | nil=>exact⟨by decide,λh=>by cases h⟩
 | cons c s=>
   have ht:Lib.hasPrefix (58::s) [58]=true:=rfl
   by_cases h:c=58
   · subst h
     refine⟨by rw[ht];simp,λ_=>?_⟩
     unfold Lib.trimPrefix;rw[ht];rfl
   · have hf:Lib.hasPrefix (c::s) [58]=false:=by
       show((58==c)&&_)=false
       rw[beq_eq_false_iff_ne.2 (Ne.symm h)];rfl
     refine⟨by rw[hf];simp[h],λe=>absurd (by simpa using e) h⟩
theorem Fo (l:List Int):∀c∈(Value.agg (l.map λn=>vI n).toArray).cells.toList,c.oneCell'=true:=by
 intro c hc
 obtain⟨n,_,rfl⟩:∃n,n∈l/\vI n=c:=by simpa[Value.cells]using hc
 rfl
theorem Ho (s:List UInt8)(w:World):Cf cI #[vS s,vS [58]] w (Ret λv w'=>v=.tuple #[vS (if s.head?=some 58 then s.drop 1 else s),.bool (decide (s.head?=some 58))]/\w'=w):=by
 refine(Tryz.strings_CutPrefix (mkS s) (mkS [58]) w).mono ?_
 rintro _ _ ⟨rfl,rfl⟩
 refine⟨_,rfl,?_,rfl⟩
 have h:=NG s
 have e:(mkS s).data.toList=s:=rfl
 have e2:(mkS [58]).data.toList=[58]:=rfl
 rw[e,e2,h.1]
 by_cases hc:s.head?=some 58
 · rw[if_pos hc,h.2 hc];rfl
 · rw[if_neg hc]
   have:Lib.trimPrefix s [58]=s:=by unfold Lib.trimPrefix;rw[if_neg (by rw[h.1];simpa using hc)]
   rw[this];rfl
def Bo (l:List Int):List Value:=l.map λn=>vI n
def Bc (s:List UInt8)(w:World)(v:Value)(w':World):Prop:=
 (∃a b c b',v=.tuple #[.agg #[vI a,vI b,vI c],.bool b']/\(px s=none/\b'=false\/px s=some [a,b,c]/\b'=true))/\bW w w'
theorem three {α:Type}{l:List α}(h:l.length=3):∃a b c,l=[a,b,c]:=by
 match l,h with
 | [a,b,c],_=>exact⟨a,b,c,rfl⟩
theorem He {w w':World}{k2 k4:Nat}{out us:List Int}{K:Value->World->Prop}{bo:Bool}(h2:ai w' k2 bp (Bo us))(h4:ai w' k4 bp (Bo out))(hl:out.length=3)(hu:us.length=3)
   (hb:bW w w') (hk2:w.heap.size <=k2)
   (hK:∀a b c wx,out=[a,b,c]->bW w wx->K (.tuple #[.agg #[vI a,vI b,vI c],.bool bo]) wx):
   ∃(n0:Int) (n1:Int) (n2:Int),(Instr.loadAt bp (.pointer (some ⟨k4,0,none⟩))).run prog w'=.ok (.agg #[vI n0,vI n1,vI n2]) w'/\
     ∃(wx:World),(Instr.storeAt bp (.pointer (some ⟨k2,0,none⟩)) (.agg #[vI n0,vI n1,vI n2])).run prog w'=.ok () wx/\
     ∃(r0:Int) (r1:Int) (r2:Int),(aV bp (.pointer (some ⟨k2,0,none⟩))).run prog wx=.ok (.agg #[vI r0,vI r1,vI r2]) wx/\
     K (.tuple #[.agg #[vI r0,vI r1,vI r2],.bool bo]) wx:=by
 obtain⟨a,b,c,rfl⟩:=three hl
 obtain⟨d,e,f,rfl⟩:=three hu
 obtain⟨ti,hti,hsz,_,_⟩:=nB.info
 refine⟨a,b,c,h4.loadA vQ rfl hti (us:=Bo [a,b,c]) (i:=0) (by rw[hsz];rfl) (λj hj=>by rw[Nat.zero_add]),?_⟩
 obtain⟨wx,hs,h2',hg⟩:=h2.store (P:=prog) nB (i:=0) (v:=.agg #[vI a,vI b,vI c]) rfl (by simp[Bo]) (Fo [a,b,c])
 refine⟨wx,hs,a,b,c,?_,hK a b c wx rfl (hb.grown hg hb.size (λx e=>by cases e;exact hk2))⟩
 exact ai.res (ai.loadA vQ rfl hti h2' (us:=Bo [a,b,c]) (i:=0) (by rw[hsz];rfl) (λj hj=>by simp[Bo,Value.cells]))
theorem Cv (n:Int):∀c∈(vI n).cells.toList,c.oneCell'=true:=by
 intro c hc
 have:c=vI n:=by simpa[Value.cells]using hc
 subst this;rfl
theorem Fx (s:List UInt8)(hs:s.length <=9223372036854775000)(w:World):Cf se #[vS s] w (Ret (Bc s w)):=by
 apply DT
 intro k2 w2 hk2 hw2 k4 w4 hk4 hw4
 have hB2:bW w w2:=hw2▸ah _ _
 have hB4:bW w2 w4:=hw4▸ah _ _
 have hBB:bW w w4:=ab hB2 hB4 hB2.size
 have ha2:ai w4 k2 bp (Bo [0,0,0]):=(ai.new (vs:=Bo [0,0,0]) hk2 hw2).below hB4
 have ha4:ai w4 k4 bp (Bo [0,0,0]):=ai.new hk4 hw4
 have hs2:w2.heap.size=w.heap.size+1:=by rw[hw2];simp
 have hne:k2≠k4:=by omega
 have hge2:w.heap.size <=k2:=by omega
 have hge4:w.heap.size <=k4:=by omega
 refine⟨λm t i w'=>∃(k:Nat) (out:List Int),k <=3/\i=(k:Int)/\m=3-k/\out.length=3/\t.length <=s.length/\px s=(i6 (3-k) k t).map (out.take k++ ·)/\
     ai w' k2 bp (Bo [0,0,0])/\ai w' k4 bp (Bo out)/\bW w w',
   ⟨_,0,[0,0,0],by omega,rfl,rfl,rfl,Nat.le_refl _,by unfold px;cases i6 3 0 s <;> rfl,ha2,ha4,hBB⟩,?_⟩
 intro m t i
 refine aN.of ?_ _
 rintro w1 ⟨k,out,hk,rfl,rfl,hlen,htl,hv,h2,h4,hb⟩
 refine ae.of (λh=>?_) (λh=>?_) <;> simp only[dTx,dFx]at h
 · have ef:3-k=(3-(k+1))+1:=by omega
   rw[ef]at hv
   unfold i6 at hv
   have bad:∀{w':World},Ka k t=none->ai w' k2 bp (Bo [0,0,0])->ai w' k4 bp (Bo out)->bW w w'->_:=fun{w'} he h2 h4 hb=>
     He (K:=Bc s w) (bo:=false) h2 h4 hlen rfl hb hge2 (λa b c wx _ hbx=>⟨⟨a,b,c,false,rfl,.inl ⟨by rw[hv,he];rfl,rfl⟩⟩,hbx⟩)
   refine⟨λu w'=>w'=w1/\LK k t=some u/\u.length <=s.length,?_,?_⟩
   · refine ae.of (λh5=>?_) (λh5=>?_) <;> simp only[gt_iff_lt,dTx,dFx]at h5
     · refine aB (Ho t w1) ?_
       rintro _ w1 ⟨rfl,rfl⟩
       refine⟨_,_,rfl,?_⟩
       refine ae.of (λh6=>?_) (λh6=>?_) <;> simp only[Bool.not_eq_true',Bool.not_eq_false',dTx,dFx]at h6
       · exact bad (by unfold Ka LK;rw[if_neg (by omega),if_neg h6];rfl) h2 h4 hb
       · exact⟨rfl,by unfold LK;rw[if_neg (by omega),if_pos h6,if_pos h6],by rw[if_pos h6];simp;omega⟩
     · exact⟨rfl,by unfold LK;rw[if_pos (by omega)],htl⟩
   · intro u
     refine aN.of ?_ _
     rintro w1 ⟨rfl,hc,hul⟩
     have hst:Ka k t=if 1 <=(kX u).length/\(kX u).length <=2 then some (lI (kX u),u.drop (kX u).length)else none:=by unfold Ka;rw[hc];rfl
     refine aB (oG u 1 2 (by omega) (by omega) (by omega) w1) ?_
     rintro _ w5 ⟨rfl,hb5⟩
     have h2':=h2.below hb5
     have h4':=h4.below hb5
     have hb':=ab hb hb5 hb.size
     unfold OJ
     by_cases hd:1 <=(kX u).length/\(kX u).length <=2
     · rw[if_pos (by omega)]
       rw[if_pos hd]at hst
       refine⟨_,_,_,rfl,ae.no rfl ?_⟩
       refine⟨⟨⟨by omega,by omega⟩,rfl⟩,?_⟩
       rw[jG,Nat.zero_add,Nat.mul_one,Int.toNat_natCast]
       obtain⟨w6,hs6,h6,hg6⟩:=h4'.store (P:=prog) (n:=1) (bytes:=8) (z:=vI 0) fV (i:=k) (v:=vI (lI (kX u))) rfl (by simp[Bo,hlen];omega) (Cv _)
       refine⟨w6,hs6,3-(k+1),by omega,k+1,out.set k (lI (kX u)),by omega,?_,rfl,by simpa using hlen,by simp;omega,?_,h2'.grown hg6 (λe=>hne (Option.some.inj e)),?_,hb'.grown hg6 hb'.size (λx e=>by cases e;exact hge4)⟩
       · rw[wrap_i64 (by omega) (by omega)];omega
       · rw[hv,hst]
         have e1:(out.set k (lI (kX u))).take (k+1)=out.take k++[lI (kX u)]:=by
           rw[List.take_succ_eq_append_getElem (by simp;omega),List.getElem_set_self,List.take_set_of_le (Nat.le_refl _)]
         rw[e1]
         show((i6 (3-(k+1)) (k+1) (u.drop (kX u).length)).map _).map _=_
         rw[Option.map_map]
         congr 1
         funext x
         simp
       · have e2:Bo (out.set k (lI (kX u)))=(Bo out).take k++[vI (lI (kX u))]++(Bo out).drop (k+1):=by
           unfold Bo
           rw[List.map_set,List.set_eq_take_append_cons_drop,if_pos (by simp;omega)]
           simp
         rw[e2];exact h6
     · rw[if_neg (by omega)]
       rw[if_neg hd]at hst
       refine⟨_,_,_,rfl,ae.yes rfl ?_⟩
       exact bad hst h2' h4' hb'
 · have:k=3:=by omega
   subst this
   exact He (K:=Bc s w) (bo:=true) h2 h4 hlen rfl hb hge2 (λa b c wx e hbx=>⟨⟨a,b,c,true,rfl,.inr ⟨by rw[hv,e];rfl,rfl⟩⟩,hbx⟩)
structure Fnd where
 time:Bool
 day:Bool
 month:Bool
 year:Bool
 s0:Int
 s1:Int
 s2:Int
 y:Int
 m:Int
 d:Int
def Fnd.cells (f:Fnd):List Value:=[.bool f.time,.bool f.day,.bool f.month,.bool f.year,vI f.s0,vI f.s1,vI f.s2,vI f.y,vI f.m,vI f.d]
def lO (s:List UInt8)(least most:Int):Bool:=decide (least <=((kX s).length:Int)/\((kX s).length:Int) <=most)
def I7 (f:Fnd)(s:List UInt8):Fnd:=
 match px s,f.time with
 | some [a,b,c],false=> { f with s0:=a,s1:=b,s2:=c,time:=true }
 | _,_=>if lO s 1 2=true/\f.day=false then{ f with d:=lI (kX s),day:=true }
   else if 0<nq s/\f.month=false then{ f with m:=nq s,month:=true }
   else if lO s 2 4=true/\f.year=false then{ f with y:=lI (kX s),year:=true } else f
theorem LU (w:World)(r:Option Nat):w.grownBy w r:=⟨rfl,rfl,rfl,Nat.le_refl _,λ_ _ _=>rfl⟩
theorem bZ {a b c:World}{r:Option Nat}(h:a.grownBy b r)(k:b.grownBy c r):a.grownBy c r:=
 ⟨k.os.trans h.os,k.tape.trans h.tape,k.output.trans h.output,Nat.le_trans h.size k.size,λq hq hne=>(k.block q (Nat.lt_of_lt_of_le hq h.size) hne).trans (h.block q hq hne)⟩
theorem dK {a b:World}(h:bW a b)(r:Option Nat):a.grownBy b r:=⟨h.os,h.tape,h.output,h.size,λq hq _=>h.block q hq⟩
theorem Bg (k o:Nat):Option.map (fun(x:Addr)=>x.add o) (some ⟨k,0,none⟩)=some ⟨k,o,none⟩:=by
 simp[gw]
theorem AG (b:Bool):∀c∈(Value.bool b).cells.toList,c.oneCell'=true:=by
 intro c hc
 have:c=.bool b:=by simpa[Value.cells]using hc
 subst this;rfl
def SA (k:Nat)(f:Fnd)(s:List UInt8)(w:World)(v:Value)(w':World):Prop:=v=.tuple #[]/\ai w' k dy (I7 f s).cells/\w.grownBy w' (some k)
theorem OK {s:List UInt8}{l m:Int}(h:lO s l m=true):OJ s l m=.tuple #[vI (lI (kX s)),vS (s.drop (kX s).length),.bool true]:=by
 unfold lO at h;unfold OJ;rw[if_pos (by simpa using h)]
theorem K3 {s:List UInt8}{l m:Int}(h:lO s l m=false):OJ s l m=.tuple #[vI 0,vS s,.bool false]:=by
 unfold lO at h;unfold OJ;rw[if_neg (by simpa using h)]
theorem Pc {f:Fnd}{s:List UInt8}{a b c:Int}(h:px s=some [a,b,c])(ht:f.time=false):I7 f s= { f with s0:=a,s1:=b,s2:=c,time:=true } :=by
 unfold I7;rw[h,ht]
theorem Pb {f:Fnd}{s:List UInt8}(h:px s=none\/f.time=true):I7 f s=if lO s 1 2=true/\f.day=false then{ f with d:=lI (kX s),day:=true }
   else if 0<nq s/\f.month=false then{ f with m:=nq s,month:=true }
   else if lO s 2 4=true/\f.year=false then{ f with y:=lI (kX s),year:=true } else f:=by
 unfold I7
 rcases h with h|h
 · rw[h]
 · rw[h]
   split
   · rename_i h1 h2;cases h2
   · rfl
theorem FA (k:Nat)(f:Fnd)(s:List UInt8)(hs:s.length <=9223372036854775000)(w:World)(hf:ai w k dy f.cells):
   Cf jH #[.pointer (some ⟨k,0,none⟩),vS s] w (Ret (SA k f s w)):=by
 apply uh
 simp only[Bg]
 have h0:Option.isSome (some (⟨k,0,none⟩:Addr))=true:=rfl
 obtain⟨ti,hti,hsz,_,_⟩:=nB.info
 refine⟨λw'=>w.grownBy w' (some k)/\ai w' k dy f.cells/\(px s=none\/f.time=true),?_,?_⟩
 · refine aB (Fx s hs w) ?_
   rintro _ w1 ⟨⟨a,b,c,bo,rfl,hcl⟩,hb1⟩
   refine⟨a,b,c,bo,rfl,?_⟩
   intro k4 w4 hk4 hw4
   have hB4:bW w w4:=ab hb1 (hw4▸ah _ _) hb1.size
   have h4:ai w4 k4 bp (Bo [0,0,0]):=ai.new hk4 hw4
   have hlt:=hf.lt
   have hne:k4≠k:=by have:=hb1.size;omega
   obtain⟨w5,hs5,h5,hg5⟩:=h4.store (P:=prog) nB (i:=0) (v:=.agg #[vI a,vI b,vI c]) rfl (by simp[Bo]) (Fo [a,b,c])
   have hB5:bW w w5:=hB4.grown hg5 hB4.size (λx e=>by cases e;have:=hb1.size;omega)
   have hf5:=hf.below hB5
   have h5':ai w5 k4 bp (Bo [a,b,c]):=by simpa[Bo,Value.cells]using h5
   refine⟨w5,hs5,λb' w'=>w'=w5/\b'=(bo && !f.time),?_,?_⟩
   · refine ae.of (λh=>?_) (λh=>?_)
     · refine⟨h0,h0,f.time,hf5.load1 dp rfl rfl,rfl,by rw[h];rfl⟩
     · exact⟨rfl,by rw[h];rfl⟩
   · intro b'
     refine aN.of ?_ _
     rintro w5 ⟨rfl,rfl⟩
     refine ae.of (λh=>?_) (λh=>?_)
     · rw[Bool.and_eq_true,Bool.not_eq_true']at h
       have hcl':px s=some [a,b,c]:=by
         rcases hcl with⟨_,e⟩|⟨e,_⟩
         · rw[e]at h;cases h.1
         · exact e
       refine⟨a,b,c,h5'.loadA vQ rfl hti (us:=Bo [a,b,c]) (i:=0) (by rw[hsz];rfl) (λj hj=>by rw[Nat.zero_add]),h0,h0,?_⟩
       obtain⟨w6,hs6,h6,hg6⟩:=hf5.store (P:=prog) nB (i:=4) (v:=.agg #[vI a,vI b,vI c]) rfl (by simp[Fnd.cells]) (Fo [a,b,c])
       refine⟨w6,hs6,h0,h0,?_⟩
       obtain⟨w7,hs7,h7,hg7⟩:=h6.store (P:=prog) kU (i:=0) (v:=.bool true) rfl (by simp[Fnd.cells,Value.cells]) (AG true)
       refine⟨w7,hs7,rfl,?_,bZ (bZ (dK hB5 _) hg6) hg7⟩
       rw[Pc hcl' h.2]
       simpa[Fnd.cells,Value.cells]using h7
     · refine⟨dK hB5 _,hf5,?_⟩
       rcases hcl with⟨e,_⟩|⟨_,e⟩
       · exact .inl e
       · rw[e]at h;right;simpa using h
 · refine aN.of ?_ _
   rintro w1 ⟨hg1,hf1,hr1⟩
   have htok:=Pb hr1
   refine⟨λw'=>w.grownBy w' (some k)/\ai w' k dy f.cells/\ ¬ (lO s 1 2=true/\f.day=false),?_,?_⟩
   · refine aB (oG s 1 2 (by omega) (by omega) (by omega) w1) ?_
     rintro _ w2 ⟨rfl,hb2⟩
     have hf2:=hf1.below hb2
     have hg2:=bZ hg1 (dK hb2 (some k))
     have hnum:∃(n:Int) (r:List UInt8),OJ s 1 2=.tuple #[vI n,vS r,.bool (lO s 1 2)]/\(lO s 1 2=true->n=lI (kX s)):=by
       cases hn:lO s 1 2
       · exact⟨_,_,K3 hn,λe=>by cases e⟩
       · exact⟨_,_,OK hn,λ_=>rfl⟩
     obtain⟨n,r,hne,hnv⟩:=hnum
     refine⟨n,r,lO s 1 2,by rw[hne],λb' w'=>w'=w2/\b'=(lO s 1 2 && !f.day),?_,?_⟩
     · refine ae.of (λh=>?_) (λh=>?_)
       · exact⟨h0,h0,f.day,hf2.load1 dp rfl rfl,rfl,by rw[h];rfl⟩
       · exact⟨rfl,by rw[h];rfl⟩
     · intro b'
       refine aN.of ?_ _
       rintro w2 ⟨rfl,rfl⟩
       refine ae.of (λh=>?_) (λh=>?_)
       · rw[Bool.and_eq_true,Bool.not_eq_true']at h
         refine⟨h0,h0,?_⟩
         obtain⟨w6,hs6,h6,hg6⟩:=hf2.store (P:=prog) fV (i:=9) (v:=vI n) rfl (by simp[Fnd.cells]) (Cv n)
         refine⟨w6,hs6,h0,h0,?_⟩
         obtain⟨w7,hs7,h7,hg7⟩:=h6.store (P:=prog) kU (i:=1) (v:=.bool true) rfl (by simp[Fnd.cells,Value.cells]) (AG true)
         refine⟨w7,hs7,rfl,?_,bZ (bZ hg2 hg6) hg7⟩
         rw[htok,if_pos h,<- hnv h.1]
         simpa[Fnd.cells,Value.cells]using h7
       · refine⟨hg2,hf2,λhc=>?_⟩
         rw[hc.1,hc.2]at h;cases h
   · refine aN.of ?_ _
     rintro w2 ⟨hg2,hf2,hr2⟩
     rw[if_neg hr2]at htok
     refine⟨λw'=>w.grownBy w' (some k)/\ai w' k dy f.cells/\ ¬ (0<nq s/\f.month=false),?_,?_⟩
     · refine aB (Fy s (by omega) w2) ?_
       rintro _ w3 ⟨rfl,hb3⟩
       have hf3:=hf2.below hb3
       have hg3:=bZ hg2 (dK hb3 (some k))
       refine⟨_,rfl,λb' w'=>w'=w3/\b'=(decide (0<nq s) && !f.month),?_,?_⟩
       · refine ae.of (λh=>?_) (λh=>?_)
         · exact⟨h0,h0,f.month,hf3.load1 dp rfl rfl,rfl,by rw[show decide (0<nq s)=true from h];rfl⟩
         · exact⟨rfl,by rw[show decide (0<nq s)=false from h];rfl⟩
       · intro b'
         refine aN.of ?_ _
         rintro w3 ⟨rfl,rfl⟩
         refine ae.of (λh=>?_) (λh=>?_)
         · rw[Bool.and_eq_true,Bool.not_eq_true',dTx]at h
           refine⟨h0,h0,?_⟩
           obtain⟨w6,hs6,h6,hg6⟩:=hf3.store (P:=prog) fV (i:=8) (v:=vI (nq s)) rfl (by simp[Fnd.cells]) (Cv _)
           refine⟨w6,hs6,h0,h0,?_⟩
           obtain⟨w7,hs7,h7,hg7⟩:=h6.store (P:=prog) kU (i:=2) (v:=.bool true) rfl (by simp[Fnd.cells,Value.cells]) (AG true)
           refine⟨w7,hs7,rfl,?_,bZ (bZ hg3 hg6) hg7⟩
           rw[htok,if_pos h]
           simpa[Fnd.cells,Value.cells]using h7
         · refine⟨hg3,hf3,λhc=>?_⟩
           rw[decide_eq_true hc.1,hc.2]at h;cases h
     · refine aN.of ?_ _
       rintro w3 ⟨hg3,hf3,hr3⟩
       rw[if_neg hr3]at htok
       refine aB (oG s 2 4 (by omega) (by omega) (by omega) w3) ?_
       rintro _ w4 ⟨rfl,hb4⟩
       have hf4:=hf3.below hb4
       have hg4:=bZ hg3 (dK hb4 (some k))
       have hnum:∃(n:Int) (r:List UInt8),OJ s 2 4=.tuple #[vI n,vS r,.bool (lO s 2 4)]/\(lO s 2 4=true->n=lI (kX s)):=by
         cases hn:lO s 2 4
         · exact⟨_,_,K3 hn,λe=>by cases e⟩
         · exact⟨_,_,OK hn,λ_=>rfl⟩
       obtain⟨n,r,hne,hnv⟩:=hnum
       refine⟨n,r,lO s 2 4,by rw[hne],λb' w'=>w'=w4/\b'=(lO s 2 4 && !f.year),?_,?_⟩
       · refine ae.of (λh=>?_) (λh=>?_)
         · exact⟨h0,h0,f.year,hf4.load1 dp rfl rfl,rfl,by rw[h];rfl⟩
         · exact⟨rfl,by rw[h];rfl⟩
       · intro b'
         refine aN.of ?_ _
         rintro w4 ⟨rfl,rfl⟩
         refine ae.of (λh=>?_) (λh=>?_)
         · rw[Bool.and_eq_true,Bool.not_eq_true']at h
           refine⟨h0,h0,?_⟩
           obtain⟨w6,hs6,h6,hg6⟩:=hf4.store (P:=prog) fV (i:=7) (v:=vI n) rfl (by simp[Fnd.cells]) (Cv n)
           refine⟨w6,hs6,h0,h0,?_⟩
           obtain⟨w7,hs7,h7,hg7⟩:=h6.store (P:=prog) kU (i:=3) (v:=.bool true) rfl (by simp[Fnd.cells,Value.cells]) (AG true)
           refine⟨w7,hs7,rfl,?_,bZ (bZ hg4 hg6) hg7⟩
           rw[htok,if_pos h,<- hnv h.1]
           simpa[Fnd.cells,Value.cells]using h7
         · refine⟨rfl,?_,hg4⟩
           rw[htok,if_neg (λhc=>by rw[hc.1,hc.2]at h;cases h)]
           exact hf4
def zg (c:UInt8):Bool:=decide (EM (c.toNat:Int))
def ML:List UInt8->List UInt8->List (List UInt8)
 | cur,[]=>[cur]
 | cur,c::r=>if zg c then cur::ML [] r else ML (cur++[c]) r
def V9:Fnd:=⟨false,false,false,false,0,0,0,0,0,0⟩
def Ek (s:List UInt8):Fnd:=(ML [] s).foldl I7 V9
def rG (y:Int):Int:=if 70 <=y/\y <=99 then y+1900 else if y<70 then y+2000 else y
def Hi (f:Fnd):Prop:=fu (rG f.y) f.m f.d/\f.time=true/\f.year=true/\f.s0 <=23/\f.s1 <=59/\f.s2 <=59
instance  (f:Fnd):Decidable (Hi f):=by unfold Hi;infer_instance
def Nx (f:Fnd):Int:=eh (rG f.y) f.m f.d*86400+f.s0*3600+f.s1*60+f.s2
def Ny (f:Fnd):Value:=if Hi f then .tuple #[vI (Nx f),.bool true]else .tuple #[vI 0,.bool false]
structure MS (f:Fnd):Prop where
 s0:0 <=f.s0/\f.s0 <=99
 s1:0 <=f.s1/\f.s1 <=99
 s2:0 <=f.s2/\f.s2 <=99
 y:0 <=f.y/\f.y <=9999
 d:0 <=f.d/\f.d <=99
 m:0 <=f.m/\f.m <=12
 m0:f.month=false ↔ f.m=0
 d0:f.day=false->f.d=0
 y0:f.year=false->f.y=0
theorem py:∀(l:List UInt8) (acc:Int),0 <=acc->(∀c∈l,mA c=true)->0 <=l.foldl (λn c=>n*10+((c.toNat:Int)-48)) acc/\l.foldl (λn c=>n*10+((c.toNat:Int)-48)) acc<(acc+1)*10 ^ l.length
 | [],acc,h,_=>by simp;omega
 | c::l,acc,h,hd=>by
   have hc:=pL.1 (hd c List.mem_cons_self)
   obtain⟨h1,h2⟩:=py l (acc*10+((c.toNat:Int)-48)) (by omega) λx hx=>hd x (List.mem_cons_of_mem _ hx)
   rw[List.foldl_cons]
   refine⟨h1,Int.lt_of_lt_of_le h2 ?_⟩
   rw[List.length_cons,Int.pow_succ,Int.mul_comm (10 ^ l.length) 10,<- Int.mul_assoc]
   exact Int.mul_le_mul_of_nonneg_right (by omega) (Int.pow_nonneg (by decide))
theorem F8 {a b:Nat}(h:a <=b):(10:Int) ^ a <=10 ^ b:=by
 have:=Nat.pow_le_pow_right (n:=10) (by decide) h
 have e:∀k:Nat,((10 ^ k:Nat):Int)=10 ^ k:=λk=>by simp
 rw[<- e,<- e];omega
theorem Jz {s:List UInt8}(k:Nat)(h:(kX s).length <=k):0 <=lI (kX s)/\lI (kX s)<10 ^ k:=by
 obtain⟨h1,h2⟩:=py (kX s) 0 (by decide) KB
 refine⟨h1,Int.lt_of_lt_of_le h2 ?_⟩
 rw[Int.zero_add,Int.one_mul]
 exact F8 h
theorem rV:∀(f i:Nat) (s:List UInt8) (l:List Int),i6 f i s=some l->l.length=f/\∀x∈l,0 <=x/\x <=99
 | 0,i,s,l,h=>by simp[i6]at h;subst h;simp
 | f+1,i,s,l,h=>by
   unfold i6 at h
   cases hs:Ka i s with
   | none=>rw[hs]at h;cases h
   | some p=>
     rw[hs]at h
     simp only[Option.bind_some]at h
     cases hr:i6 f (i+1) p.2 with
     | none=>rw[hr]at h;cases h
     | some r=>
       rw[hr]at h
       simp only[Option.map_some,Option.some.injEq]at h
       subst h
       obtain⟨h1,h2⟩:=rV f (i+1) p.2 r hr
       refine⟨by simp[h1],λx hx=>?_⟩
       rcases List.mem_cons.1 hx with rfl|hx
       · unfold Ka at hs
         cases hc:LK i s with
         | none=>rw[hc]at hs;cases hs
         | some t=>
           rw[hc]at hs
           simp only[Option.bind_some]at hs
           split at hs
           · rename_i hd
             simp only[Option.some.injEq]at hs
             subst hs
             have:=Jz 2 hd.2
             simp only;omega
           · cases hs
       · exact h2 x hx
theorem zj (s:List UInt8):∀(f k:Nat),0 <=je s f k/\je s f k <=(k:Int)+f
 | 0,k=>by simp[je]
 | f+1,k=>by
   unfold je
   have:=zj s f (k+1)
   split <;> omega
theorem EY (f:Fnd)(s:List UInt8):(∃a b c,px s=some [a,b,c]/\f.time=false/\I7 f s= { f with s0:=a,s1:=b,s2:=c,time:=true })\/
   (px s=none\/f.time=true)/\I7 f s=if lO s 1 2=true/\f.day=false then{ f with d:=lI (kX s),day:=true }
   else if 0<nq s/\f.month=false then{ f with m:=nq s,month:=true }
   else if lO s 2 4=true/\f.year=false then{ f with y:=lI (kX s),year:=true } else f:=by
 cases hc:px s with
 | none=>right;refine⟨.inl rfl,?_⟩;unfold I7;rw[hc]
 | some l=>
   obtain⟨hl,_⟩:=rV 3 0 s l hc
   match l,hl with
   | [a,b,c],_=>
     cases ht:f.time with
     | false=>left;refine⟨a,b,c,rfl,rfl,?_⟩;unfold I7;rw[hc,ht]
     | true=>
       right;refine⟨.inr rfl,?_⟩;unfold I7;rw[hc,ht]
theorem Ur {f:Fnd}(h:MS f)(s:List UInt8):MS (I7 f s):=by
 rcases EY f s with⟨a,b,c,hc,ht,e⟩|⟨_,e⟩
 · rw[e]
   obtain⟨_,hr⟩:=rV 3 0 s _ hc
   exact⟨hr a (by simp),hr b (by simp),hr c (by simp),h.y,h.d,h.m,h.m0,h.d0,h.y0⟩
 · rw[e]
   split
   · rename_i h1
     have hn:(kX s).length <=2:=by have:=h1.1;unfold lO at this;simp at this;omega
     have:=Jz 2 hn
     exact⟨h.s0,h.s1,h.s2,h.y,⟨this.1,by simp only;omega⟩,h.m,h.m0,(λe=>by cases e),h.y0⟩
   · split
     · rename_i h1
       have:=zj s 12 0
       have h2:=h1.1
       unfold nq at h2 ⊢
       refine⟨h.s0,h.s1,h.s2,h.y,h.d,⟨by simp only;omega,by simp only;omega⟩,⟨(λe=>by cases e),λe=>?_⟩,h.d0,h.y0⟩
       simp only at e;omega
     · split
       · rename_i h1
         have hn:(kX s).length <=4:=by have:=h1.1;unfold lO at this;simp at this;omega
         have:=Jz 4 hn
         exact⟨h.s0,h.s1,h.s2,⟨this.1,by simp only;omega⟩,h.d,h.m,h.m0,h.d0,λe=>by cases e⟩
       · exact h
theorem Tj:MS V9:=⟨by decide,by decide,by decide,by decide,by decide,by decide,by decide,by decide,by decide⟩
theorem RD (f:Fnd):I7 f []=f:=by
 rcases EY f []with⟨a,b,c,hc,_⟩|⟨_,e⟩
 · have:px []=none:=by decide
   rw[this]at hc;cases hc
 · rw[e,if_neg (λh=>by have:lO [] 1 2=false:=(by decide);rw[this]at h;cases h.1),
     if_neg (λh=>by have:nq []=0:=(by decide);rw[this]at h;exact absurd h.1 (by decide)),
     if_neg (λh=>by have:lO [] 2 4=false:=(by decide);rw[this]at h;cases h.1)]
theorem Nz {f:Fnd}(h:fu (rG f.y) f.m f.d): -134774 <=eh (rG f.y) f.m f.d/\eh (rG f.y) f.m f.d <=2932896:=by
 have hh:=Kw h
 obtain⟨h1,h2,h3,h4,h5,h6⟩:=h
 have e1:=qm (a:=1601) (b:=rG f.y) (by omega) h1
 have e2:=qm (a:=rG f.y+1) (b:=10000) (by omega) (by omega)
 have e3:dY 1601=584388:=by decide
 have e4:dY 10000=3652059:=by decide
 omega
theorem R5 {n:Int}(h1: -134774 <=n)(h2:n <=2932896):∃y m d,fu y m d/\eh y m d=n:=by
 have h:=Fu h1 h2 _ _ _ _ _ _ rfl rfl rfl rfl rfl rfl
 exact⟨_,_,_,h.2.2.2.2.2.2.2.2.2.2.2.2⟩
def WF (n:Int):UInt8:=UInt8.ofNat (48+n.toNat%10)
def El (n:Int):List UInt8:=[WF (n/10),WF n]
def Xk:List (List UInt8):=[[84,104,117],[70,114,105],[83,97,116],[83,117,110],[77,111,110],[84,117,101],[87,101,100]]
def W0:List (List UInt8):=[[74,97,110],[70,101,98],[77,97,114],[65,112,114],[77,97,121],[74,117,110],[74,117,108],[65,117,103],[83,101,112],[79,99,116],[78,111,118],[68,101,99]]
def Pw (k:Int):List UInt8:=Xk[k.toNat]?.getD []
def Vv (m:Int):List UInt8:=W0[(m-1).toNat]?.getD []
def Nu (s:Int):List UInt8:=El (s/3600)++[58]++El (s/60%60)++[58]++El (s%60)
def RB (n y m d s:Int):List UInt8:=Pw (n%7)++[44,32]++El d++[32]++Vv m++[32]++(El (y/100)++El (y%100))++[32]++Nu s++[32,71,77,84]
open Classical in
noncomputable def GF (t:Int):List UInt8:=if h:∃p:Int×Int×Int,fu p.1 p.2.1 p.2.2/\eh p.1 p.2.1 p.2.2=t/86400 then
 RB (t/86400) (Classical.choose h).1 (Classical.choose h).2.1 (Classical.choose h).2.2 (t%86400)else[]
theorem Li {t y m d:Int}(h:fu y m d)(e:eh y m d=t/86400):GF t=RB (t/86400) y m d (t%86400):=by
 have hex:∃p:Int×Int×Int,fu p.1 p.2.1 p.2.2/\eh p.1 p.2.1 p.2.2=t/86400:=⟨(y,m,d),h,e⟩
 unfold GF
 rw[dif_pos hex]
 obtain⟨h1,h2⟩:=Classical.choose_spec hex
 obtain⟨e1,e2,e3⟩:=Kx h1 h (h2.trans e.symm)
 rw[e1,e2,e3]
theorem EW {t:Int}(h:t/86400 < -134774\/2932896<t/86400):GF t=[]:=by
 unfold GF
 rw[dif_neg]
 rintro⟨p,h1,h2⟩
 have:=Hr h1
 omega
theorem HT:∀n,n<100->10 <=n->Lib.decDigits n=El (n:Int):=by decide+kernel
theorem Ol:∀n,n<10->(48:UInt8)::Lib.decDigits n=El (n:Int):=by decide+kernel
theorem Qs:∀n,n<10->(Lib.decDigits n).length=1:=by decide+kernel
theorem KA (u:Nat)(h:10 <=u):Lib.decDigits u=Lib.decDigits (u/10)++[UInt8.ofNat (48+u%10)]:=by
 rw[Lib.decDigits,dif_neg (by omega)]
theorem WV {y:Int}(h1:1000 <=y)(h2:y <=9999):Lib.itoa y=El (y/100)++El (y%100):=by
 obtain⟨n,rfl⟩:∃n:Nat,y=(n:Int):=⟨y.toNat,by omega⟩
 rw[Lib.itoa_nonneg,KA n (by omega),KA (n/10) (by omega),show n/10/10=n/100 by omega,HT (n/100) (by omega) (by omega)]
 unfold El WF
 rw[show(((n/100:Nat):Int))=(n:Int)/100 by omega]
 have e1:((n:Int)%100/10).toNat%10=n/10%10:=by omega
 have e2:((n:Int)%100).toNat%10=n%10:=by omega
 rw[e1,e2];rfl
theorem j3 (n:Int):(El n).length=2:=rfl
theorem RA {P:Program}{name:String}{k:IntKind}{zs:List Int}{w w':World}(h:Lib.TabIs P w name k zs)(hb:∀b,b<w.heap.size->P.globalNamed name=some b->w'.heap[b]? =w.heap[b]?):Lib.TabIs P w' name k zs:=by
 unfold Lib.TabIs World.var? at h ⊢
 cases hg:P.globalNamed name with
 | none=>rw[hg]at h;cases h
 | some g=>
   rw[hg]at h
   simp only[Option.bind_some]at h ⊢
   have hlt:g<w.heap.size:=by
     cases hh:w.heap[g]? with
     | none=>rw[hh]at h;cases h
     | some o=>exact(Array.getElem?_eq_some_iff.1 hh).1
   rw[hb g hlt hg];exact h
theorem Lf {P:Program}{name:String}{k:IntKind}{zs:List Int}{w w':World}(h:Lib.TabIs P w name k zs)(hb:bW w w'):Lib.TabIs P w' name k zs:=
 RA h λb hlt _=>hb.block b hlt
theorem NI (l:List UInt8)(c:UInt8):lI (l++[c])=lI l*10+((c.toNat:Int)-48):=by unfold lI;rw[List.foldl_append];rfl
theorem LN:∀(s cur:List UInt8) (k:Nat) (h:k<s.length),ML cur (s.drop k)=if zg s[k]then cur::ML [] (s.drop (k+1))else ML (cur++[s[k]]) (s.drop (k+1)):=λs cur k h=>by
 rw[List.drop_eq_getElem_cons h];rfl
theorem Q6 {s:List UInt8}{k:Nat}(h:k<s.length):decide (EM (eF s (k:Int)))=zg s[k]:=by
 unfold zg;rw[Eu (i:=(k:Int)) (by simpa using h)];simp only[Int.toNat_natCast]
theorem QE (f:Fnd):f.cells[7]? =some (vI f.y):=rfl
theorem Dv (s:List UInt8)(hs:s.length <=10000000)(w:World):Cf qq #[vS s] w (Ret λv w'=>v=Ny (Ek s)/\bW w w'):=by
 apply CE
 intro k4 w4 hk4 hw4
 have hB4:bW w w4:=hw4▸ah _ _
 have hf4:ai w4 k4 dy V9.cells:=ai.new hk4 hw4
 have htr:true=true:=rfl
 have hk4w:∀x,some k4=some x->w.heap.size <=x:=λx e=>by cases e;omega
 refine⟨λm fr i w'=>∃(k j:Nat) (f:Fnd),k <=s.length+1/\i=(k:Int)/\fr=(j:Int)/\j <=k/\m=s.length+1-k/\MS f/\
     Ek s=(if k <=s.length then(ML ((s.take k).drop j) (s.drop k)).foldl I7 f else f)/\ai w' k4 dy f.cells/\bW w w',
   ⟨_,0,0,V9,by omega,rfl,rfl,Nat.le_refl _,rfl,Tj,by rw[if_pos (Nat.zero_le _)];rfl,hf4,hB4⟩,?_⟩
 intro m fr i
 refine aN.of ?_ _
 rintro w1 ⟨k,j,f,hk,rfl,rfl,hj,rfl,hok,htold,hf1,hb1⟩
 have ew:k <=s.length->i64.wrap ((k:Int)+1)=((k+1:Nat):Int):=λhle=>by rw[wrap_i64 (by omega) (by omega)];omega
 refine ae.of (λh=>?_) (λh=>?_) <;> simp only[dTx,dFx]at h
 · have hle:k <=s.length:=by omega
   rw[if_pos hle]at htold
   rw[ew hle]
   refine nK (w:=w1) (decide (k=s.length\/∃h:k<s.length,zg s[k]=true)) ?_ ?_
   · refine ae.of (λh2=>?_) (λh2=>?_)
     · rw[beq_iff_eq]at h2
       exact⟨rfl,(decide_eq_true (.inl (by omega))).symm⟩
     · rw[beq_eq_false_iff_ne]at h2
       have hlt:k<s.length:=by omega
       refine⟨⟨by omega,by omega⟩,?_⟩
       refine aB (Fz _ w1) ?_
       rintro _ w1 ⟨rfl,rfl⟩
       refine⟨_,rfl,rfl,?_⟩
       rw[Q6 hlt]
       cases hp:zg s[k]
       · exact(decide_eq_false (by rintro(e|⟨_,e⟩) <;> first|omega|(rw[hp]at e;cases e))).symm
       · exact(decide_eq_true (.inr ⟨hlt,hp⟩)).symm
   · have hcut:(ML ((s.take k).drop j) (s.drop k))=if(k=s.length\/∃h:k<s.length,zg s[k]=true)then(s.take k).drop j::(if k<s.length then ML [] (s.drop (k+1))else[])else ML ((s.take (k+1)).drop j) (s.drop (k+1)):=by
       by_cases hlt:k<s.length
       · rw[LN s _ k hlt]
         cases hp:zg s[k]
         · rw[if_neg (by decide),if_neg (by rintro(e|⟨_,e⟩) <;> first|omega|(rw[hp]at e;cases e))]
           rw[List.take_succ_eq_append_getElem hlt,List.drop_append_of_le_length (by rw[List.length_take];omega)]
         · rw[if_pos rfl,if_pos (.inr ⟨hlt,hp⟩),if_pos hlt]
       · have:k=s.length:=by omega
         subst this
         rw[if_pos (.inl rfl),if_neg hlt]
         simp[ML]
     refine ae.of (λh2=>?_) (λh2=>?_) <;> simp only[dTx,dFx]at h2
     · rw[if_pos h2]at hcut
       rw[hcut,List.foldl_cons]at htold
       have fin:∀{f':Fnd} {w':World},f'=I7 f ((s.take k).drop j)->ai w' k4 dy f'.cells->bW w w'->
           ∃q:Nat,q<s.length+1-k/\∃(k2 j:Nat) (f:Fnd),k2 <=s.length+1/\((k+1:Nat):Int)=(k2:Int)/\((k+1:Nat):Int)=(j:Int)/\j <=k2/\q=s.length+1-k2/\MS f/\
             Ek s=(if k2 <=s.length then(ML ((s.take k2).drop j) (s.drop k2)).foldl I7 f else f)/\ai w' k4 dy f.cells/\bW w w':=by
         rintro f' w' rfl ha hb'
         refine⟨s.length+1-(k+1),by omega,k+1,k+1,_,by omega,rfl,rfl,Nat.le_refl _,rfl,Ur hok _,?_,ha,hb'⟩
         rw[htold]
         by_cases hlt:k<s.length
         · rw[if_pos hlt,if_pos (show k+1 <=s.length from hlt)]
           congr 2
           rw[List.drop_eq_nil_of_le (by rw[List.length_take];omega)]
         · rw[if_neg hlt,if_neg (by omega)];rfl
       refine ae.of (λh3=>?_) (λh3=>?_) <;> simp only[gt_iff_lt,dTx,dFx]at h3
       · refine⟨⟨⟨by omega,by omega⟩,by omega,by omega⟩,?_⟩
         rintro _ rfl
         simp only[Int.toNat_natCast]
         refine aB (FA k4 f _ (by simp;omega) w1 hf1) ?_
         rintro _ w5 ⟨rfl,hf5,hg5⟩
         exact⟨rfl,fin rfl hf5 (hb1.grown hg5 hb1.size hk4w)⟩
       · refine fin ?_ hf1 hb1
         have:(s.take k).drop j=[]:=List.drop_eq_nil_of_le (by rw[List.length_take];omega)
         rw[this,RD]
     · rw[if_neg h2]at hcut
       have hlt:k<s.length:=by
         by_cases e:k=s.length
         · exact absurd (.inl e) h2
         · omega
       refine⟨s.length+1-(k+1),by omega,k+1,j,f,by omega,rfl,rfl,by omega,rfl,hok,?_,hf1,hb1⟩
       rw[if_pos (show k+1 <=s.length from hlt),htold,hcut]
 · rw[if_neg (by omega)]at htold
   subst htold
   generalize Ek s=f at*
   have hy:=hok.y
   have l7:=hf1.load1 (P:=prog) (i:=7) cD rfl (QE f)
   have bad:∀{w':World},¬ Hi f->bW w w'->(.tuple #[vI 0,.bool false]:Value)=Ny f/\bW w w':=λhn hb'=>⟨by unfold Ny;rw[if_neg hn],hb'⟩
   refine j8 (λw'=>ai w' k4 dy ({ f with y:=rG f.y } :Fnd).cells/\bW w w') ?_ ?_
   · refine nK (w:=w1) (decide (70 <=f.y/\f.y <=99)) ?_ ?_
     · refine⟨htr,_,l7,?_⟩
       refine ae.of (λh2=>?_) (λh2=>?_) <;> simp only[ge_iff_le,dTx,dFx]at h2
       · refine⟨htr,_,l7,rfl,?_⟩
         simp[h2]
       · refine⟨rfl,?_⟩
         simp[h2]
     · have st:∀n:Int,n=rG f.y->∃wx:World,(Instr.storeAt aP (.pointer (some ⟨k4,7,none⟩)) (vI n)).run prog w1=.ok () wx/\ai wx k4 dy ({ f with y:=rG f.y } :Fnd).cells/\bW w wx:=by
         rintro _ rfl
         obtain⟨w7,hs7,h7,hg7⟩:=hf1.store (P:=prog) fV (i:=7) (v:=vI (rG f.y)) rfl (by simp[Fnd.cells]) (Cv _)
         exact⟨w7,hs7,by simpa[Fnd.cells,Value.cells]using h7,hb1.grown hg7 hb1.size hk4w⟩
       refine ae.of (λh2=>?_) (λh2=>?_) <;> simp only[dTx,dFx]at h2
       · exact⟨htr,_,l7,htr,st _ (by unfold rG;rw[if_pos h2,wrap_i64 (by omega) (by omega)])⟩
       · refine⟨htr,_,l7,?_⟩
         refine ae.of (λh3=>?_) (λh3=>?_) <;> simp only[dTx,dFx]at h3
         · exact⟨htr,_,l7,htr,st _ (by unfold rG;rw[if_neg h2,if_pos h3,wrap_i64 (by omega) (by omega)])⟩
         · have:rG f.y=f.y:=by unfold rG;rw[if_neg h2,if_neg h3]
           rw[this];exact⟨hf1,hb1⟩
   · rintro w2 ⟨hf2,hb2⟩
     refine⟨htr,_,hf2.load1 cD rfl rfl,htr,_,hf2.load1 cD rfl rfl,htr,_,hf2.load1 cD rfl rfl,?_⟩
     have hd9:=hok.d
     refine aB (rX _ _ _ (by simp only;omega) w2) ?_
     rintro _ w3 ⟨rfl,hb3⟩
     refine⟨_,_,rfl,?_⟩
     have hf3:=hf2.below hb3
     have hb23:=ab hb2 hb3 hb2.size
     have tr3:∀i:Int,0 <=i->i<3->((0 <=i/\i<((3:Nat):Int))/\true=true):=λi h1 h2=>⟨⟨h1,h2⟩,rfl⟩
     have l4:(Instr.loadAt aP (.pointer (am (some ⟨k4,4,none⟩) (0:Int) 1))).run prog w3=.ok (vI f.s0) w3:=by rw[jG];exact hf3.load1 cD rfl rfl
     have l5:(Instr.loadAt aP (.pointer (am (some ⟨k4,4,none⟩) (1:Int) 1))).run prog w3=.ok (vI f.s1) w3:=by rw[jG];exact hf3.load1 cD rfl rfl
     have l6:(Instr.loadAt aP (.pointer (am (some ⟨k4,4,none⟩) (2:Int) 1))).run prog w3=.ok (vI f.s2) w3:=by rw[jG];exact hf3.load1 cD rfl rfl
     refine wu (w:=w3) (Hi f) ?_ ?_
     · refine ae.of (λh3=>?_) (λh3=>?_) <;> simp only[Bool.not_eq_true',Bool.not_eq_false',dTx,dFx]at h3
       · exact bad (λhc=>h3 hc.1) hb23
       refine⟨htr,_,hf3.load1 dp rfl rfl,?_⟩
       refine ae.of (λh4=>?_) (λh4=>?_) <;> simp only[Bool.not_eq_true',Bool.not_eq_false']at h4
       · exact bad (λhc=>by rw[hc.2.1]at h4;cases h4) hb23
       refine⟨htr,_,hf3.load1 dp rfl rfl,?_⟩
       refine ae.of (λh5=>?_) (λh5=>?_) <;> simp only[Bool.not_eq_true',Bool.not_eq_false']at h5
       · exact bad (λhc=>by rw[hc.2.2.1]at h5;cases h5) hb23
       refine⟨htr,tr3 0 (by decide) (by decide),_,l4,?_⟩
       refine ae.of (λh6=>?_) (λh6=>?_) <;> simp only[gt_iff_lt,dTx,dFx]at h6
       · exact bad (λhc=>by have:=hc.2.2.2.1;omega) hb23
       refine⟨htr,tr3 1 (by decide) (by decide),_,l5,?_⟩
       refine ae.of (λh7=>?_) (λh7=>?_) <;> simp only[gt_iff_lt,dTx,dFx]at h7
       · exact bad (λhc=>by have:=hc.2.2.2.2.1;omega) hb23
       refine⟨htr,tr3 2 (by decide) (by decide),_,l6,?_⟩
       refine ae.of (λh8=>?_) (λh8=>?_) <;> simp only[gt_iff_lt,dTx,dFx]at h8
       · exact bad (λhc=>by have:=hc.2.2.2.2.2;omega) hb23
       exact⟨rfl,h3,h4,h5,by omega,by omega,by omega⟩
     · intro hc
       refine⟨htr,tr3 0 (by decide) (by decide),_,l4,htr,tr3 1 (by decide) (by decide),_,l5,htr,tr3 2 (by decide) (by decide),_,l6,?_,hb23⟩
       have hr:=Nz hc.1
       have h0:=hok.s0;have h1:=hok.s1;have h2:=hok.s2
       unfold Ny
       rw[if_pos hc,if_pos hc.1]
       unfold Nx
       rw[wrap_i64 (n:=eh (rG f.y) f.m f.d*86400) (by omega) (by omega),wrap_i64 (n:=f.s0*3600) (by omega) (by omega),wrap_i64 (n:=f.s1*60) (by omega) (by omega),wrap_i64 (n:=eh (rG f.y) f.m f.d*86400+f.s0*3600) (by omega) (by omega),
         wrap_i64 (n:=eh (rG f.y) f.m f.d*86400+f.s0*3600+f.s1*60) (by omega) (by omega),wrap_i64 (by omega) (by omega)]
end Go.Pk
