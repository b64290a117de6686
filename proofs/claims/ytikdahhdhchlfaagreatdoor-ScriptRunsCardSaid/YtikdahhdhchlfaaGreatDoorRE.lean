/- What the laws lean on: Env, DateP, DateA, DateB, DateC, DateQ, DateD, OctA, Shelf, DateE, DateF, DateG, DateH, DateI, DateJ, DateK, DateL, DateM, DateN; what is used. Its conditions: none. -/
import Derived.Test.YtikdahhdhchlfaaGreatDoorRD
import Derived.Lib.ItoaMem
import Init
import Derived.Shelf.Strings.SlTrimAscii
import Derived.Shelf.Strings.Builder1
import Derived.Shelf.Strings.Builder2
import Derived.Shelf.Strings.OnBuilder
import Derived.Shelf.Strings.Trim
import Derived.Shelf.Small.Utf8
import Derived.Shelf.Small.Bits
import Derived.Shelf.Small.Strs
import Derived.Shelf.Small.Wraps
import Derived.Shelf.Strings.BuilderF
import Derived.Shelf.Strings.BuilderK
import Derived.Shelf.Utf8.RuneCount
import Derived.Shelf.Strings.Builder2Cap
import Derived.Shelf.Strconv.Atoi
import Derived.Shelf.Strconv.Itoa0
import Derived.Shelf.Strconv.Itoa1
import Derived.Shelf.LaysM
import Derived.Shelf.Strconv.Itoa2
import Derived.Shelf.Strconv.Itoa3
import Derived.Shelf.Strconv.Itoa4
import Derived.Shelf.Strconv.AtoiErrFast
import Derived.Shelf.Strconv.ParseIntEmpty
import Derived.Shelf.Strconv.AtoiFail
import Derived.Shelf.Strconv.Clone
import Derived.Shelf.Strconv.SyntaxError
import Derived.Shelf.LaysC
import Derived.Shelf.Strconv.ToError
import Derived.Shelf.Strconv.AtoiErr
import Derived.Shelf.Strconv.Lower
import Derived.Shelf.Strconv.ParseUint10
import Derived.Shelf.Strconv.ParseUint10Empty
import Derived.Shelf.Strconv.ParseUint10Any
import Derived.Shelf.Strconv.RangeError
import Derived.Shelf.Strconv.ToErrorRange
import Derived.Shelf.Strconv.ParseUintEmpty
import Derived.Shelf.Strconv.ParseUint10b64
import Derived.Shelf.Strconv.ParseUint10b32
import Derived.Shelf.Strconv.ParseUint10b16
import Derived.Shelf.Strconv.ParseUint10b8
import Derived.Shelf.Strconv.ParseUint10At
import Derived.Shelf.Strings.Search1
import Derived.Shelf.Strings.Search2
import Derived.Shelf.Strings.Search3
import Derived.Shelf.Strings.Cut
import Derived.Shelf.Strings.Count
import Derived.Shelf.Strings.Shaped
import Derived.Shelf.Strings.LastIndex
import Derived.Shelf.Strings.Prefix
import Derived.Shelf.Strings.Split
import Derived.Shelf.Strings.SplitShaped
import Derived.Shelf.Unicode.Decode
import Derived.Shelf.Strings.Runes
import Derived.Shelf.Strings.RuneCount
import Derived.Shelf.Strings.IndexAny
import Derived.Shelf.Strings.AsciiSet
import Derived.Shelf.Strings.IndexAnyAll
import Derived.Shelf.Strings.Explode
import Derived.Shelf.Bits.Mul64
import Derived.Shelf.Strings.Repeat
import Derived.Shelf.Unicode.DecodeSlow
import Derived.Shelf.Unicode.DecodeAny
import Derived.Shelf.Unicode.DecodeLast
import Derived.Shelf.Strings.BuilderCap
import Derived.Shelf.Slices.Turned
import Derived.Ground.Names2Prog
import Derived.Shelf.Slices.Clone
import Derived.Ground.SlgnProg
import Derived.Shelf.SlicesE.Clone
import Derived.Ground.PaProg
import Derived.Shelf.Path.Small
set_option linter.unusedVariables false
set_option linter.unusedSimpArgs false
set_option linter.unusedSectionVars false
set_option maxRecDepth 100000
open List (append_assoc drop_eq_getElem_cons foldl_append foldl_cons getElem_mem length length_append length_cons length_take map_append mem_cons_of_mem mem_cons_self mem_of_mem_take replicate take_length take_succ_eq_append_getElem)
open Option (map_some)
variable {a b:Int}{w:Go.World}{n m k:Nat}{s:List UInt8}
open Go.IntKind (i64)
open Go.Proofs.Tryz
namespace Go.Pk
open Go.RowKit (Below)
open Go.Proofs
theorem TG {P:Program}{name:String}{k:IntKind}{zs:List Int}{w w':World}(h:Lib.TabIs P w name k zs)(D:∀b,b<w.heap.size->w'.heap[b]? =w.heap[b]?):Lib.TabIs P w' name k zs:=by
 unfold Lib.TabIs World.var? at h ⊢;cases e:P.globalNamed name with
 |none=>rw[e]at h;cases h
 |some g=>
  rw[e]at h;simp only[Option.bind_some]at h ⊢;have E:g<w.heap.size:=by
   cases q:w.heap[g]? with
   |none=>rw[q]at h;cases h
   |some o=>exact(Array.getElem?_eq_some_iff.1 q).1
  rw[D g E];exact h
structure Env (w:World):Prop where
 tab:Lib.TabIs prog w "internal/strconv.uint64pow10" .u64 Lib.pow10Tab
 max:∃m:Int,w.cell? ⟨0,0,none⟩=some (vI m)
 tz:w.cell? ⟨5,15,none⟩=some (.int .u8 4)
theorem Q6 {b o:Nat}{v:Value}(h:w.cell? ⟨b,o,none⟩=some v):b<w.heap.size:=by
 cases e:w.heap[b]? with
 |none=>simp[World.cell?,e]at h
 |some x=>exact(Array.getElem?_eq_some_iff.1 e).1
theorem Env.same {w w':World}(h:Env w)(e:∀b,b<w.heap.size->w'.heap[b]? =w.heap[b]?):Env w':=by
 obtain⟨m,q⟩:=h.max;exact⟨TG h.tab e,⟨m,by rw[DL (e _ (Q6 q))];exact q⟩,by rw[DL (e _ (Q6 h.tz))];exact h.tz⟩
theorem Env.step {w w':World}(h:Env w)(e:bW w w'):Env w':=h.same λb q=>e.block b q
theorem Env.grown {w0 w w':World}{row:Option Nat}(q:Env w0)(h:Env w)(D:w.grownBy w' row)(E:∀x,row=some x->w0.heap.size <=x)(e:bW w0 w):Env w':=
 q.step (e.grown D e.size E)
def sg (y:Int):Bool:=(decide (Int.tmod y 4=0)&&decide (Int.tmod y 100≠0)) || decide (Int.tmod y 400=0)
def GG (y m:Int):Int:=if m=2 then(if sg y then 29 else 28)else if m=4\/m=6\/m=9\/m=11 then 30 else 31
def QI (y:Int):Int:=if sg y then 366 else 365
theorem cY (h:0 <=a):Int.tmod a b=a%b:=Int.tmod_eq_emod_of_nonneg h
theorem cD (h:0 <=a):Int.tdiv a b=a/b:=Int.tdiv_eq_ediv_of_nonneg h
theorem LH {y:Int}(h:0 <=y):sg y=true↔(y%4=0/\y%100≠0)\/y%400=0:=by
 unfold sg;rw[cY h,cY h,cY h];simp
theorem O7 {y:Int}(h:1 <=y):∃a b c e:Int,y=400*a+100*b+4*c+e+1/\0 <=a/\0 <=b/\b <=3/\0 <=c/\c <=24/\0 <=e/\e <=3:=
 ⟨(y-1)/400,(y-1)%400/100,(y-1)%100/4,(y-1)%4,by omega,by omega,by omega,by omega,by omega,by omega,by omega,by omega⟩
theorem Im {a b c e:Int}(E:0 <=a)(G:0 <=b)(H:b <=3)(I:0 <=c)(M:c <=24)(O:0 <=e)(U:e <=3):sg (400*a+100*b+4*c+e+1)=true↔e=3/\(c≠24\/b=3):=by
 rw[LH (by omega)];have h1:(400*a+100*b+4*c+e+1)%4=0↔e=3:=by omega
 have q:(400*a+100*b+4*c+e+1)%100=0↔e=3/\c=24:=by omega
 have D:(400*a+100*b+4*c+e+1)%400=0↔e=3/\c=24/\b=3:=by omega
 rw[h1,D,ne_eq,q];omega
def dY (y:Int):Int:=365*(y-1)+(y-1)/4-(y-1)/100+(y-1)/400
theorem ue {a b c e:Int}(E:0 <=a)(G:0 <=b)(H:b <=3)(I:0 <=c)(M:c <=24)(O:0 <=e)(U:e <=3):dY (400*a+100*b+4*c+e+1)=365*(400*a+100*b+4*c+e)+(97*a+24*b+c):=by
 unfold dY;have h1:(400*a+100*b+4*c+e+1-1)/4=100*a+25*b+c:=by omega
 have q:(400*a+100*b+4*c+e+1-1)/100=4*a+b:=by omega
 have D:(400*a+100*b+4*c+e+1-1)/400=a:=by omega
 rw[h1,q,D];omega
theorem zW {y:Int}(h:1 <=y):dY (y+1)=dY y+QI y:=by
 obtain⟨a,b,c,q,rfl,E,G,H,I,M,O,U⟩:=O7 h;have e:=Im E G H I M O U;rw[ue E G H I M O U];unfold QI;by_cases V:q=3
 ·subst V;by_cases D:c=24
  ·subst D;by_cases X:b=3
   ·subst X;rw[if_pos (e.2 ⟨rfl,.inr rfl⟩)];rw[show 400*a+100*3+4*24+3+1+1=400*(a+1)+100*0+4*0+0+1 by omega,ue (by omega) (by omega) (by omega) (by omega) (by omega) (by omega) (by omega)];omega
   ·rw[if_neg (λh=>by have:=e.1 h;omega)];rw[show 400*a+100*b+4*24+3+1+1=400*a+100*(b+1)+4*0+0+1 by omega,ue (by omega) (by omega) (by omega) (by omega) (by omega) (by omega) (by omega)];omega
  ·rw[if_pos (e.2 ⟨rfl,.inl D⟩)];rw[show 400*a+100*b+4*c+3+1+1=400*a+100*b+4*(c+1)+0+1 by omega,ue (by omega) (by omega) (by omega) (by omega) (by omega) (by omega) (by omega)];omega
 ·rw[if_neg (λh=>by have:=e.1 h;omega)];rw[show 400*a+100*b+4*c+q+1+1=400*a+100*b+4*c+(q+1)+1 by omega,ue (by omega) (by omega) (by omega) (by omega) (by omega) (by omega) (by omega)];omega
def cM (y m:Int):Int:=if m=1 then 0 else if m=2 then 31 else(if sg y then 1 else 0)+
 (if m=3 then 59 else if m=4 then 90 else if m=5 then 120 else if m=6 then 151 else if m=7 then 181 else if m=8 then 212 else if m=9 then 243 else if m=10 then 273 else if m=11 then 304 else if m=12 then 334 else 365)
theorem SH {m:Int}(h1:1 <=m)(e:m <=12):m=1\/m=2\/m=3\/m=4\/m=5\/m=6\/m=7\/m=8\/m=9\/m=10\/m=11\/m=12:=by omega
theorem DK {y m:Int}(h1:1 <=m)(e:m <=12):cM y (m+1)=cM y m+GG y m:=by
 unfold cM GG;rcases SH h1 e with rfl|rfl|rfl|rfl|rfl|rfl|rfl|rfl|rfl|rfl|rfl|rfl<;>cases sg y<;>simp
theorem Q2 (y:Int):cM y 13=QI y:=by unfold cM QI;cases sg y<;>simp
theorem si (y m:Int):28 <=GG y m/\GG y m <=31:=by unfold GG;split<;>(try split)<;>omega
theorem Q3 {y m:Int}(h1:1 <=m)(e:m <=12):0 <=cM y m/\cM y m <=335:=by
 unfold cM;rcases SH h1 e with rfl|rfl|rfl|rfl|rfl|rfl|rfl|rfl|rfl|rfl|rfl|rfl<;>cases sg y<;>simp
def cQ (y m d:Int):Prop:=1601 <=y/\y <=9999/\1 <=m/\m <=12/\1 <=d/\d <=GG y m
instance  (y m d:Int):Decidable (cQ y m d):=by unfold cQ;infer_instance
def cZ (y m d:Int):Int:=dY y-719162+cM y m+d-1
theorem WD:dY 1970=719162:=by decide
theorem JF (y:Int):365 <=QI y/\QI y <=366:=by unfold QI;split<;>omega
theorem VM (h:1 <=a):∀k:Nat,dY a <=dY (a+k)
 |0=>by simp
 |k+1=>by
  have h1:=VM h k;have e:=zW (y:=a+k) (by omega);have q:=JF (a+k);rw[show a+((k+1:Nat):Int)=a+k+1 by omega];omega
theorem pB (h1:1 <=a)(h:a <=b):dY a <=dY b:=by
 have:=VM h1 (b-a).toNat
 rwa [show a+((b-a).toNat:Int)=b by omega]at this
theorem M8 {y:Int}(h1:1601 <=y)(e:y <=10000):584388 <=dY y/\dY y <=3652059:=by
 have q:=pB (a:=1601) (b:=y) (by omega) h1;have D:=pB (a:=y) (b:=10000) (by omega) e;have E:dY 1601=584388:=by decide
 have G:dY 10000=3652059:=by decide
 omega
theorem VJ {y a:Int}(h:1 <=a):∀k:Nat,a+k <=13->cM y a <=cM y (a+k)
 |0,_=>by simp
 |k+1,D=>by
  have h1:=VJ (y:=y) h k (by omega);have e:=DK (y:=y) (m:=a+k) (by omega) (by omega);have q:=si y (a+k);rw[show a+((k+1:Nat):Int)=a+k+1 by omega];omega
theorem I1 {y a b:Int}(h1:1 <=a)(h:a <=b)(e:b <=13):cM y a <=cM y b:=by
 have:=VJ (y:=y) h1 (b-a).toNat (by omega)
 rwa [show a+((b-a).toNat:Int)=b by omega]at this
theorem Yw {y m d:Int}(a8:1 <=y)(h1:1 <=m)(a0:m <=12)(H O:Int)(hY:H=if m-3<0 then y-1 else y)(I:O=if m-3<0 then m+9 else m-3):
 H/400*146097+H%400*365+H%400/4-H%400/100+(153*O+2)/5+d-1-719468=cZ y m d:=by
 obtain⟨a,b,c,e,rfl,V,X,Y,Z,ac,ad,ag⟩:=O7 (y:=y) (by omega);have M:=Im V X Y Z ac ad ag;unfold cZ;rw[ue V X Y Z ac ad ag];by_cases aj:m-3<0
 ·rw[if_pos aj]at hY I;subst hY;have q:(400*a+100*b+4*c+e+1-1)/400=a:=by omega
  have D:(400*a+100*b+4*c+e+1-1)%400=100*b+4*c+e:=by omega
  have E:(100*b+4*c+e)/4=25*b+c:=by omega
  have G:(100*b+4*c+e)/100=b:=by omega
  rw[q,D,E,G];have:m=1\/m=2:=by omega
  rcases this with rfl|rfl<;>subst I<;>unfold cM<;>simp<;>omega
 ·rw[if_neg aj]at hY I;subst hY;have ar:cM (400*a+100*b+4*c+e+1) m=(if sg (400*a+100*b+4*c+e+1)=true then 1 else 0)+59+(153*O+2)/5:=by
   have:m=3\/m=4\/m=5\/m=6\/m=7\/m=8\/m=9\/m=10\/m=11\/m=12:=by omega
   rcases this with rfl|rfl|rfl|rfl|rfl|rfl|rfl|rfl|rfl|rfl<;>subst I<;>unfold cM<;>simp<;>omega
  rw[ar];have key:(400*a+100*b+4*c+e+1)/400*146097+(400*a+100*b+4*c+e+1)%400*365+(400*a+100*b+4*c+e+1)%400/4-(400*a+100*b+4*c+e+1)%400/100=
   365*(400*a+100*b+4*c+e+1)+(97*a+24*b+c)+(if sg (400*a+100*b+4*c+e+1)=true then 1 else 0):=by
   by_cases al:e=3
   ·subst al;by_cases U:c=24
    ·subst U;by_cases an:b=3
     ·subst an;rw[if_pos (M.2 ⟨rfl,.inr rfl⟩)];have q:(400*a+100*3+4*24+3+1)/400=a+1:=by omega
      have D:(400*a+100*3+4*24+3+1)%400=0:=by omega
      rw[q,D];omega
     ·rw[if_neg (λh=>by have:=M.1 h;omega)];have q:(400*a+100*b+4*24+3+1)/400=a:=by omega
      have D:(400*a+100*b+4*24+3+1)%400=100*(b+1):=by omega
      have E:(100*(b+1))/4=25*(b+1):=by omega
      have G:(100*(b+1))/100=b+1:=by omega
      rw[q,D,E,G];omega
    ·rw[if_pos (M.2 ⟨rfl,.inl U⟩)];have q:(400*a+100*b+4*c+3+1)/400=a:=by omega
     have D:(400*a+100*b+4*c+3+1)%400=100*b+4*(c+1):=by omega
     have E:(100*b+4*(c+1))/4=25*b+c+1:=by omega
     have G:(100*b+4*(c+1))/100=b:=by omega
     rw[q,D,E,G];omega
   ·rw[if_neg (λh=>by have:=M.1 h;omega)];have q:(400*a+100*b+4*c+e+1)/400=a:=by omega
    have D:(400*a+100*b+4*c+e+1)%400=100*b+4*c+e+1:=by omega
    have E:(100*b+4*c+e+1)/4=25*b+c:=by omega
    have G:(100*b+4*c+e+1)/100=b:=by omega
    rw[q,D,E,G];omega
  omega
theorem Ox {y m d:Int}(h:cQ y m d):dY y <=cZ y m d+719162/\cZ y m d+719162<dY (y+1)/\cM y m <=cZ y m d+719162-dY y/\cZ y m d+719162-dY y<cM y (m+1):=by
 obtain⟨h1,M,e,q,O,U⟩:=h;have D:=Q3 (y:=y) e (by omega);have E:=DK (y:=y) e q;have G:=I1 (y:=y) (a:=m+1) (b:=13) (by omega) (by omega) (by omega);have H:=zW (y:=y) (by omega);have I:=Q2 y;unfold cZ;omega
theorem Oy {y m d a b c:Int}(h:cQ y m d)(k:cQ a b c)(e:cZ y m d=cZ a b c):y=a/\m=b/\d=c:=by
 have G:=h.1;have E:=k.1;have h1:=Ox h;have H:=Ox k;rw[e]at h1;have D:y=a:=by
  rcases Int.lt_trichotomy y a with c|c|c
  ·have:=pB (show 1 <=y+1 by omega) (show y+1 <=a by omega);omega
  ·exact c
  ·have:=pB (show 1 <=a+1 by omega) (show a+1 <=y by omega);omega
 subst D;obtain⟨_,_,I,M,_,_⟩:=h;obtain⟨_,_,O,U,_,_⟩:=k;have q:m=b:=by
  rcases Int.lt_trichotomy m b with c|c|c
  ·have:=I1 (y:=y) (a:=m+1) (b:=b) (by omega) (by omega) (by omega);omega
  ·exact c
  ·have:=I1 (y:=y) (a:=b+1) (b:=m) (by omega) (by omega) (by omega);omega
 subst q;refine⟨rfl,rfl,?_⟩;unfold cZ at e;omega
theorem Lc (y:Int)(w:World):Cf wL #[vI y] w (Ret λv w'=>v=.bool (sg y)/\w'=w):=by
 apply Kh;unfold Bo sg;refine⟨by decide,?_⟩;rintro _ rfl;refine af.of (λh=>?_) (λh=>?_)<;>simp at h
 ·refine⟨by decide,?_⟩;rintro _ rfl;refine af.of (λe=>?_) (λe=>?_)<;>simp at e
  ·exact⟨by simp[h,e],rfl⟩
  ·refine⟨by decide,?_⟩;rintro _ rfl;refine⟨?_,rfl⟩;congr 1;rw[Bool.eq_iff_iff];simp[h,e]
 ·refine⟨by decide,?_⟩;rintro _ rfl;refine⟨?_,rfl⟩;congr 1;rw[Bool.eq_iff_iff];simp[h]
theorem yr (y:Int)(w:World):Cf nE #[vI y] w (Ret λv w'=>v=.bool (sg y)/\w'=w):=by
 apply Hu;unfold zu sg;refine⟨by decide,?_⟩;rintro _ rfl;refine af.of (λh=>?_) (λh=>?_)<;>simp at h
 ·exact⟨by simp[h],rfl⟩
 ·refine⟨by decide,?_⟩;rintro _ rfl;refine af.of (λe=>?_) (λe=>?_)<;>simp at e
  ·refine⟨by decide,?_⟩;rintro _ rfl;refine⟨?_,rfl⟩;congr 1;rw[Bool.eq_iff_iff];simp[h,e]
  ·exact⟨by simp[h,e],rfl⟩
theorem jL (y m:Int)(w:World):Cf gv #[vI y,vI m] w (Ret λv w'=>v=vI (GG y m)/\w'=w):=by
 apply CJ;refine⟨λb w'=>w'=w/\b=decide (m=4\/m=6\/m=9\/m=11),?_,?_⟩
 ·refine af.of (λh=>?_) (λh=>?_)<;>simp at h
  ·exact⟨rfl,by simp[h]⟩
  ·refine af.of (λe=>?_) (λe=>?_)<;>simp at e
   ·exact⟨rfl,by simp[e]⟩
   ·refine af.of (λq=>?_) (λq=>?_)<;>simp at q
    ·exact⟨rfl,by simp[q]⟩
    ·refine⟨rfl,?_⟩;rw[Bool.eq_iff_iff];simp[h,e,q]
 ·intro b;refine aQ.of ?_ _;rintro _ ⟨rfl,rfl⟩;refine af.of (λh=>?_) (λh=>?_)<;>simp only[dTx,dFx]at h
  ·refine⟨?_,rfl⟩;unfold GG;rw[if_neg (by omega),if_pos h]
  ·refine af.of (λe=>?_) (λe=>?_)<;>simp at e
   ·refine aA (yr y _) ?_;rintro _ w' ⟨rfl,rfl⟩;refine⟨_,rfl,?_⟩;refine af.of (λq=>?_) (λq=>?_)
    ·refine⟨?_,rfl⟩;unfold GG;rw[if_pos e,if_pos q]
    ·refine⟨?_,rfl⟩;unfold GG;rw[if_pos e,if_neg (by simp[q])]
   ·refine⟨?_,rfl⟩;unfold GG;rw[if_neg e,if_neg h]
theorem mc (y:Int)(w:World):Cf jc #[vI y] w (Ret λv w'=>v=vI (QI y)/\w'=w):=by
 apply Hw;refine aA (yr y w) ?_;rintro _ w' ⟨rfl,rfl⟩;refine⟨_,rfl,?_⟩;refine af.of (λe=>?_) (λe=>?_)
 ·refine⟨?_,rfl⟩;unfold QI;rw[if_pos e]
 ·refine⟨?_,rfl⟩;unfold QI;rw[if_neg (by simp[e])]
theorem EE (y m d:Int)(w:World):Cf uh #[vI y,vI m,vI d] w (Ret λv w'=>v=.bool (decide (cQ y m d))/\w'=w):=by
 apply Mf;refine af.of (λh1=>?_) (λh1=>?_)<;>simp at h1
 ·refine af.of (λe=>?_) (λe=>?_)<;>simp at e
  ·refine af.of (λq=>?_) (λq=>?_)<;>simp at q
   ·refine af.of (λD=>?_) (λD=>?_)<;>simp at D
    ·refine af.of (λE=>?_) (λE=>?_)<;>simp at E
     ·refine aA (jL y m w) ?_;rintro _ w' ⟨rfl,rfl⟩;refine⟨_,rfl,?_,rfl⟩;congr 1;rw[Bool.eq_iff_iff];simp[cQ,h1,e,q,D,E]
     ·refine⟨?_,rfl⟩;congr 1;symm;rw[dFx];unfold cQ;omega
    ·refine⟨?_,rfl⟩;congr 1;symm;rw[dFx];unfold cQ;omega
   ·refine⟨?_,rfl⟩;congr 1;symm;rw[dFx];unfold cQ;omega
  ·refine⟨?_,rfl⟩;congr 1;symm;rw[dFx];unfold cQ;omega
 ·refine⟨?_,rfl⟩;congr 1;symm;rw[dFx];unfold cQ;omega
def M9 (y m d:Int):Value:=.tuple #[vI (if cQ y m d then cZ y m d else 0),.bool (decide (cQ y m d))]
theorem qu (y m d:Int)(w:World):Cf kK #[vI y,vI m,vI d] w (Ret λv w'=>v=M9 y m d/\w'=w):=by
 apply Hs;refine aA (EE y m d w) ?_;rintro _ w ⟨rfl,rfl⟩;refine⟨_,rfl,?_⟩;refine af.of (λh=>?_) (λh=>?_)<;>simp only[Bool.not_eq_true',Bool.not_eq_false',dTx,dFx]at h
 ·refine⟨?_,rfl⟩;unfold M9;rw[if_neg h];simp[h]
 ·have G:=h;obtain⟨h1,ac,U,ad,ag,aj⟩:=h;have a9:=si y m;refine⟨λe n k w'=>w'=w/\1 <=k/\k <=m/\n=d-1+cM y k/\e=(m-k).toNat,⟨_,rfl,by omega,U,?_,rfl⟩,?_⟩
  ·rw[wrJ];simp[cM]
  intro e n k;refine aQ.of ?_ _;rintro w ⟨rfl,q,al,rfl,rfl⟩;refine af.of (λh=>?_) (λh=>?_)<;>simp only[dTx,dFx]at h
  ·refine aA (jL y k _) ?_;rintro _ w ⟨rfl,rfl⟩;have H:=Q3 (y:=y) q (by omega);have X:=si y k;refine⟨_,rfl,(m-(k+1)).toNat,by omega,rfl,?_,?_,?_,?_⟩
   ·rw[wrJ];omega
   ·rw[wrJ];omega
   ·rw[wrJ,wrJ,DK q (by omega)];omega
   ·rw[wrJ]
  ·have V:k=m:=by omega
   subst V;have H:=Q3 (y:=y) q (by omega);refine⟨λe n k' D=>D=w/\1970 <=k'/\(k' <=y\/k'=1970)/\n=d-1+cM y k+(dY k'-719162)/\e=(y-k').toNat,⟨_,rfl,by omega,.inr rfl,by rw[WD];omega,rfl⟩,?_⟩;intro e n k';refine aQ.of ?_ _;rintro w ⟨rfl,an,ar,rfl,rfl⟩;refine af.of (λh=>?_) (λh=>?_)<;>simp only[dTx,dFx]at h
   ·refine aA (mc k' _) ?_;rintro _ w ⟨rfl,rfl⟩;have I:=M8 (y:=k') (by omega) (by omega);have M:=JF k';refine⟨_,rfl,(y-(k'+1)).toNat,by omega,rfl,?_,.inl ?_,?_,?_⟩
    ·rw[wrJ];omega
    ·rw[wrJ];omega
    ·rw[wrJ,wrJ,zW (by omega)];omega
    ·rw[wrJ]
   ·refine⟨λe n k'' D=>D=w/\y <=k''/\(k'' <=1970\/k''=y)/\n=d-1+cM y k+(dY k'-719162)-(dY k''-dY y)/\e=(1970-k'').toNat,⟨_,rfl,by omega,.inr rfl,by omega,rfl⟩,?_⟩;intro e n k'';refine aQ.of ?_ _;rintro w ⟨rfl,a0,a8,rfl,rfl⟩;have I:=M8 (y:=k') (by omega) (by omega);have M:=M8 (y:=k'') (by omega) (by omega);have Y:=M8 (y:=y) (by omega) (by omega);have Z:=JF k'';refine af.of (λE=>?_) (λE=>?_)<;>simp only[dTx,dFx]at E
    ·refine aA (mc k'' _) ?_;rintro _ w ⟨rfl,rfl⟩;refine⟨_,rfl,(1970-(k''+1)).toNat,by omega,rfl,?_,.inl ?_,?_,?_⟩
     ·rw[wrJ];omega
     ·rw[wrJ];omega
     ·rw[wrJ,wrJ,zW (by omega)];omega
     ·rw[wrJ]
    ·refine⟨?_,rfl⟩;unfold M9;rw[if_pos G];have:decide (cQ y k d)=true:=by simp[G]
     rw[this];have O:k'=k'':=by omega
     have e8:d-1+cM y k+(dY k'-719162)-(dY k''-dY y)=cZ y k d:=by rw[<- O];unfold cZ;omega
     rw[e8]
def OV:List Int:=[31,28,31,30,31,30,31,31,30,31,30,31]
theorem Xs:∀c∈(Value.agg (OV.map λn=>vI n).toArray).cells.toList,c.oneCell'=true:=by
 intro c e;obtain⟨n,_,rfl⟩:∃n,n∈OV/\vI n=c:=by simpa[Value.cells]using e
 rfl
theorem Gw (y m:Int)(h1:1 <=m)(I:m <=12)(w:World):Cf pJ #[vI y,vI m] w (Ret λv w'=>v=vI (GG y m)/\bW w w'):=by
 apply EK;intro k w1 V H;have E:bW w w1:=H▸ao _ _;have M:au w1 k pw (replicate 12 (vI 0)):=au.new V H;obtain⟨e,Y,O,U⟩:=M.store (P:=prog) Mx (i:=0) (v:=.agg (OV.map λn=>vI n).toArray) rfl (by decide) Xs;refine⟨e,Y,?_⟩;have G:=E.grown U E.size (λx q=>by cases q;omega);refine⟨λw'=>w'=e/\(m=2->sg y=false),?_,?_⟩
 ·refine af.of (λh=>?_) (λh=>?_)<;>simp at h
  ·refine aA (Lc y _) ?_;rintro _ e ⟨rfl,rfl⟩;refine⟨_,rfl,?_⟩;refine af.of (λD=>?_) (λD=>?_)
   ·refine⟨?_,G⟩;unfold GG;rw[if_pos h,if_pos D]
   ·exact⟨rfl,λ_=>D⟩
  ·exact⟨rfl,λq=>absurd q h⟩
 ·refine aQ.of ?_ _;rintro e ⟨rfl,X⟩;rw[wrJ];refine⟨⟨⟨by omega,by omega⟩,rfl⟩,?_⟩;refine⟨GG y m,?_,rfl,G⟩;rw[j3,Nat.zero_add,Nat.mul_one];refine O.load1 bC rfl ?_;unfold GG;rcases SH h1 I with rfl|rfl|rfl|rfl|rfl|rfl|rfl|rfl|rfl|rfl|rfl|rfl<;>simp[OV,Value.cells]
  simp[X]
theorem rz (y m d:Int)(bc: -9223372036854775808 <=d/\d <=9223372036854775807)(w:World):Cf mw #[vI y,vI m,vI d] w (Ret λv w'=>v=M9 y m d/\bW w w'):=by
 apply Kf;have D:∀w',bW w w'-> ¬ cQ y m d->(Value.tuple #[vI 0,.bool false]=M9 y m d/\bW w w'):=λw' H h=>by
  refine⟨?_,H⟩;unfold M9;rw[if_neg h];simp[h]
 refine⟨λw'=>cQ y m d/\bW w w',?_,?_⟩
 ·refine af.of (λh1=>?_) (λh1=>?_)<;>simp at h1
  ·exact D _ (Below.refl _ _) (by unfold cQ;omega)
  refine af.of (λO=>?_) (λO=>?_)<;>simp at O
  ·exact D _ (Below.refl _ _) (by unfold cQ;omega)
  refine af.of (λE=>?_) (λE=>?_)<;>simp at E
  ·exact D _ (Below.refl _ _) (by unfold cQ;omega)
  refine af.of (λG=>?_) (λG=>?_)<;>simp at G
  ·exact D _ (Below.refl _ _) (by unfold cQ;omega)
  refine af.of (λU=>?_) (λU=>?_)<;>simp at U
  ·exact D _ (Below.refl _ _) (by unfold cQ;omega)
  refine aA (Gw y m E G w) ?_;rintro _ ac ⟨rfl,H⟩;refine⟨_,rfl,?_⟩;refine af.of (λV=>?_) (λV=>?_)<;>simp at V
  ·exact D _ H (by unfold cQ;omega)
  ·exact⟨⟨by omega,by omega,by omega,by omega,by omega,by omega⟩,H⟩
 ·refine aQ.of ?_ _;rintro ac ⟨ar,H⟩;obtain⟨h1,O,E,G,U,V⟩:=ar;have bj:=si y m;refine⟨λI e w'=>w'=ac/\I=(if m-3<0 then y-1 else y)/\e=(if m-3<0 then m+9 else m-3),?_,?_⟩
  ·rw[wrJ (n:=m-3)];refine af.of (λh=>?_) (λh=>?_)<;>simp only[dTx,dFx]at h
   ·refine⟨rfl,?_,?_⟩
    ·rw[if_pos h,wrJ]
    ·rw[if_pos h,wrJ];omega
   ·exact⟨rfl,by rw[if_neg h],by rw[if_neg h]⟩
  ·intro I e;refine aQ.of ?_ _;rintro ac ⟨rfl,hY,Y⟩;have a0:=Yw (y:=y) (m:=m) (d:=d) (by omega) E G I e hY Y;have bb:1600 <=I/\I <=9999:=by rw[hY];split<;>omega
   have a9:0 <=e/\e <=11:=by rw[Y];split<;>omega
   clear hY Y;rw[cY (by omega),cD (by omega)];refine⟨by decide,?_⟩;intro of a8;refine⟨by decide,?_⟩;intro q ag;rw[cD (by omega),cD (by omega)];refine⟨by decide,?_⟩;intro M aj;refine⟨by decide,?_⟩;intro X al;refine⟨by decide,?_⟩;intro Z an;rw[wrJ]at ag aj al;rw[wrJ (n:=153*e),wrJ (n:=153*e+2),cD (by omega),wrJ]at an;rw[wrJ (n:=q*146097),wrJ (n:=of*365),wrJ (n:=q*146097+of*365),wrJ (n:=q*146097+of*365+M),
    wrJ (n:=q*146097+of*365+M-X),wrJ (n:=q*146097+of*365+M-X+Z),wrJ (n:=q*146097+of*365+M-X+Z+d),
    wrJ (n:=q*146097+of*365+M-X+Z+d-1),wrJ]
   refine⟨?_,H⟩;have ad:cQ y m d:=⟨h1,O,E,G,U,V⟩
   unfold M9;rw[if_pos ad,<- a0,ag,aj,al,an,a8];simp[ad]
open Classical in
noncomputable def XQ (n:Int):Value:=if h:∃p:Int×Int×Int,cQ p.1 p.2.1 p.2.2/\cZ p.1 p.2.1 p.2.2=n then
 .tuple #[vI (Classical.choose h).1,vI (Classical.choose h).2.1,vI (Classical.choose h).2.2,.bool true]else .tuple #[vI 0,vI 0,vI 0,.bool false]
theorem DN {y m d:Int}(h:cQ y m d):XQ (cZ y m d)=.tuple #[vI y,vI m,vI d,.bool true]:=by
 have e:∃p:Int×Int×Int,cQ p.1 p.2.1 p.2.2/\cZ p.1 p.2.1 p.2.2=cZ y m d:=⟨(y,m,d),h,rfl⟩
 unfold XQ;rw[dif_pos e];obtain⟨h1,G⟩:=Classical.choose_spec e;obtain⟨q,D,E⟩:=Oy h1 h G;rw[q,D,E]
theorem DT {y m d:Int}(h:cQ y m d): -134774 <=cZ y m d/\cZ y m d <=2932896:=by
 have h1:=Ox h;have e:=M8 (y:=y) h.1 (by have:=h.2.1;omega);have q:=M8 (y:=y+1) (by have:=h.1;omega) (by have:=h.2.1;omega);have D:=pB (a:=y+1) (b:=10000) (by have:=h.1;omega) (by have:=h.2.1;omega);omega
theorem oP {n:Int}(h:n < -134774\/2932896<n):XQ n=.tuple #[vI 0,vI 0,vI 0,.bool false]:=by
 unfold XQ;rw[dif_neg];rintro⟨p,h1,h2⟩;have:=DT h1;omega
theorem JO:cQ 1601 1 1/\cZ 1601 1 1= -134774:=by decide
theorem C9:cQ 9999 12 31/\cZ 9999 12 31=2932896:=by decide
theorem GT (n:Int)(w:World)(an: -9223372036854775808 <=n/\n <=9223372036854775807):Cf qc #[vI n] w (Ret λv w'=>v=XQ n/\w'=w):=by
 apply Fl;refine aA (qu _ _ _ w) ?_;rintro _ w ⟨rfl,rfl⟩;refine⟨_,_,rfl,?_⟩;refine aA (qu _ _ _ w) ?_;rintro _ w ⟨rfl,rfl⟩;refine⟨_,_,rfl,?_⟩;rw[if_pos JO.1,if_pos C9.1,JO.2,C9.2];refine⟨λw'=>w'=w/\ -134774 <=n/\n <=2932896,?_,?_⟩
 ·refine af.of (λh=>?_) (λh=>?_)<;>simp only[dTx,dFx]at h
  ·exact⟨(oP (.inl h)).symm,rfl⟩
  ·refine af.of (λq=>?_) (λq=>?_)<;>simp only[dTx,dFx]at q
   ·exact⟨(oP (.inr q)).symm,rfl⟩
   ·exact⟨rfl,by omega,by omega⟩
 ·refine aQ.of ?_ _;rintro w ⟨rfl,h1,q⟩;have ad:dY 1601=584388:=by decide
  have ac:dY 10000=3652059:=by decide
  refine⟨λm y r w'=>w'=w/\1601 <=y/\y <=9999/\r=n+719162-dY y/\0 <=r/\m=r.toNat,⟨_,rfl,by omega,by omega,by rw[wrJ];omega,by rw[wrJ];omega,rfl⟩,?_⟩;intro H y r;refine aQ.of ?_ _;rintro w ⟨rfl,M,Z,ar,Y,rfl⟩;have bc:=JF y;have bb:=M8 (y:=y) M (by omega);refine aA (mc y _) ?_;rintro _ w ⟨rfl,rfl⟩;refine⟨_,rfl,?_⟩;refine af.of (λh=>?_) (λh=>?_)<;>simp only[ge_iff_le,dTx,dFx]at h
  ·refine aA (mc y _) ?_;rintro _ w ⟨rfl,rfl⟩;have G:=zW (y:=y) (by omega);have a9:y+1 <=9999:=by
    apply Int.le_of_not_gt;intro U;have:y=9999:=by omega
    subst this;have O:dY (9999+1)=3652059:=by decide
    omega
   refine⟨_,rfl,(r-QI y).toNat,by omega,rfl,?_,?_,?_,?_,?_⟩
   ·rw[wrJ];omega
   ·rw[wrJ];omega
   ·rw[wrJ,wrJ,G];omega
   ·rw[wrJ];omega
   ·rw[wrJ]
  ·refine⟨λH e m w'=>w'=w/\1 <=m/\m <=12/\e=r-cM y m/\0 <=e/\H=e.toNat,⟨_,rfl,by omega,by omega,by simp[cM],Y,rfl⟩,?_⟩;intro H e m;refine aQ.of ?_ _;rintro w ⟨rfl,D,E,a0,a8,rfl⟩;have al:=si y m;have aj:=Q3 (y:=y) D E;refine aA (jL y m _) ?_;rintro _ w ⟨rfl,rfl⟩;refine⟨_,rfl,?_⟩;refine af.of (λI=>?_) (λI=>?_)<;>simp only[ge_iff_le,dTx,dFx]at I
   ·refine aA (jL y m _) ?_;rintro _ w ⟨rfl,rfl⟩;have G:=DK (y:=y) D E;have ag:m+1 <=12:=by
     apply Int.le_of_not_gt;intro U;have:m=12:=by omega
     subst this;have O:cM y (12+1)=QI y:=Q2 y;omega
    refine⟨_,rfl,(e-GG y m).toNat,by omega,rfl,?_,?_,?_,?_,?_⟩
    ·rw[wrJ];omega
    ·rw[wrJ];omega
    ·rw[wrJ,wrJ,G];omega
    ·rw[wrJ];omega
    ·rw[wrJ]
   ·refine⟨?_,rfl⟩;have X:cQ y m (e+1):=⟨M,Z,D,E,by omega,by omega⟩
    have V:cZ y m (e+1)=n:=by unfold cZ;omega
    rw[wrJ,<- V,DN X]
def sN (k:Nat):Nat:=if k=400 then 146097 else 365*k+k/4-k/100
def gN (n:Nat):Nat:=n-n/1460+n/36524-n/146096
theorem Ym {a:Nat}(h:a<146096):gN a <=gN (a+1):=by unfold gN;omega
theorem RL {a:Nat} :∀k:Nat,a+k <=146096->gN a <=gN (a+k)
 |0,_=>Nat.le_refl _
 |k+1,h=>Nat.le_trans (RL k (by omega)) (Ym (a:=a+k) (by omega))
theorem Zr:∀k,k<400->gN (sN k)/365=k/\gN (sN (k+1)-1)/365=k:=by decide+kernel
theorem YJ:∀k,k<400->sN (k+1)=sN k+(if(k+1)%4=0/\((k+1)%100≠0\/k+1=400)then 366 else 365)/\0<sN (k+1)/\sN (k+1) <=146097:=by decide+kernel
theorem VY:∀j,j <=400->n<sN j->∃k,k<j/\sN k <=n/\n<sN (k+1)
 |0,_,h=>by simp[sN]at h
 |j+1,D,h=>by
  by_cases c:n<sN j
  ·obtain⟨k,h1,e,q⟩:=VY j (by omega) c;exact⟨k,by omega,e,q⟩
  ·exact⟨j,by omega,by omega,h⟩
theorem XL (h:n<146097):∃k,k<400/\gN n/365=k/\sN k <=n/\n<sN (k+1):=by
 obtain⟨k,h1,D,E⟩:=VY (n:=n) 400 (Nat.le_refl _) (by simpa[sN]using h);obtain⟨I,M⟩:=Zr k h1;obtain⟨_,O,U⟩:=YJ k h1;refine⟨k,h1,?_,D,E⟩;have e:=RL (a:=sN k) (n-sN k) (by omega);have q:=RL (a:=n) (sN (k+1)-1-n) (by omega);rw[show sN k+(n-sN k)=n by omega]at e;rw[show n+(sN (k+1)-1-n)=sN (k+1)-1 by omega]at q;have G:=Nat.div_le_div_right (c:=365) e;have H:=Nat.div_le_div_right (c:=365) q;omega
def XV (mp:Nat):Nat:=[31,30,31,30,31,31,30,31,30,31,31,29][mp]?.getD 0
theorem U3:∀e,e<366->(5*e+2)/153 <=11/\(153*((5*e+2)/153)+2)/5 <=e/\e-(153*((5*e+2)/153)+2)/5+1 <=XV ((5*e+2)/153)/\
 ((5*e+2)/153=11->e-(153*((5*e+2)/153)+2)/5+1=29->e=365):=by decide+kernel
theorem UT {y:Int}(h:n <=9):GG y ((n:Int)+3)=XV n:=by
 have:n=0\/n=1\/n=2\/n=3\/n=4\/n=5\/n=6\/n=7\/n=8\/n=9:=by omega
 rcases this with rfl|rfl|rfl|rfl|rfl|rfl|rfl|rfl|rfl|rfl<;>simp[GG,XV]
theorem Ri {y n:Int}(I:1 <=y)(h1:dY y <=n+719162)(E:n+719162<dY (y+1))(G: -134774 <=n)(H:n <=2932896):1601 <=y/\y <=9999:=by
 have q:dY 1601=584388:=by decide
 have D:dY 10000=3652059:=by decide
 constructor
 ·apply Int.le_of_not_gt;intro e;have:=pB (a:=y+1) (b:=1601) (by omega) (by omega);omega
 ·apply Int.le_of_not_gt;intro e;have:=pB (a:=10000) (b:=y) (by omega) (by omega);omega
theorem SD {y m d:Int}(G:1 <=y)(h1:1 <=m)(D:m <=12)(e q:Int)(hY:e=if m-3<0 then y-1 else y)(E:q=if m-3<0 then m+9 else m-3):
 e/400*146097+e%400*365+e%400/4-e%400/100+(153*q+2)/5+d-1-719468=cZ y m d:=Yw G h1 D e q hY E
theorem I3 {n:Int}(h1: -134774 <=n)(an:n <=2932896)(of yoe E q day era:Int)(cj:of=(n+719468)%146097)(ca:era=(n+719468)/146097)
 (ac:yoe=(of-of/1460+of/36524-of/146096)/365) (bb:E=of-(365*yoe+yoe/4-yoe/100)) (ce:q=(5*E+2)/153) (b8:day=E-(153*q+2)/5+1):
 0 <=of/\of <=146096/\4 <=era/\era <=24/\0 <=yoe/\yoe <=399/\0 <=E/\E <=365/\0 <=q/\q <=11/\1 <=day/\day <=31/\
 cQ (if q+3>12 then yoe+era*400+1 else yoe+era*400) (if q+3>12 then q+3-12 else q+3) day/\
 cZ (if q+3>12 then yoe+era*400+1 else yoe+era*400) (if q+3>12 then q+3-12 else q+3) day=n:=by
 obtain⟨N,O⟩:∃N:Nat,of=(N:Int):=⟨of.toNat,by omega⟩
 have a8:N<146097:=by omega
 have cb:4 <=era/\era <=24:=by omega
 obtain⟨k,bj,V,ck,cl⟩:=XL a8;have ag:yoe=(k:Int):=by rw[ac,O,<- V];unfold gN;omega
 clear V ac;rw[ag,O]at bb;obtain⟨X,_,_⟩:=YJ k bj;have cn:sN k=365*k+k/4-k/100:=by unfold sN;rw[if_neg (by omega)]
 obtain⟨D,b6⟩:∃D:Nat,E=(D:Int):=⟨E.toNat,by omega⟩
 have b7:D=N-sN k:=by omega
 have ar:D<366:=by split at X<;>omega
 obtain⟨bq,bs,M,aj⟩:=U3 D ar;obtain⟨e,a0⟩:∃e:Nat,e=(5*D+2)/153:=⟨_,rfl⟩
 rw[<- a0]at bq bs M aj;have ch:q=(e:Int):=by omega
 have b9:day=((D-(153*e+2)/5+1:Nat):Int):=by omega
 have cf:XV e <=31:=by
  have:e=0\/e=1\/e=2\/e=3\/e=4\/e=5\/e=6\/e=7\/e=8\/e=9\/e=10\/e=11:=by omega
  rcases this with h|h|h|h|h|h|h|h|h|h|h|h<;>rw[h]<;>decide
 refine⟨by omega,by omega,by omega,by omega,by omega,by omega,by omega,by omega,by omega,by omega,by omega,by omega,?_⟩;obtain⟨y,m,ey,em,hm1,hm2,hY,hMM⟩:∃y m:Int,y=(if q+3>12 then yoe+era*400+1 else yoe+era*400)/\m=(if q+3>12 then q+3-12 else q+3)/\1 <=m/\m <=12/\
  yoe+era*400=(if m-3<0 then y-1 else y)/\q=(if m-3<0 then m+9 else m-3):=by
  refine⟨_,_,rfl,rfl,?_⟩;by_cases c:q+3>12
  ·rw[if_pos c,if_pos c,if_pos (by omega),if_pos (by omega)];omega
  ·rw[if_neg c,if_neg c,if_neg (by omega),if_neg (by omega)];omega
 rw[<- ey,<- em];have ad:1 <=y:=by rw[ey];split<;>omega
 have bc:1 <=day:=by omega
 have bk:day <=GG y m:=by
  by_cases c:q+3>12
  ·rw[if_pos c]at ey em;have:e=10\/e=11:=by omega
   rcases this with rfl|rfl
   ·have:m=1:=by omega
    subst this;have G:XV 10=31:=by decide
    rw[G]at M;unfold GG;simp;omega
   ·have:m=2:=by omega
    subst this;have G:XV 11=29:=by decide
    rw[G]at M;unfold GG;rw[if_pos rfl];by_cases al:D-(153*11+2)/5+1=29
    ·have b5:=aj rfl al;have cc:(k+1)%4=0/\((k+1)%100≠0\/k+1=400):=by
      apply Classical.byContradiction;intro a9;rw[if_neg a9]at X;omega
     have:sg y=true:=(LH (by omega)).2 (by omega);rw[if_pos this];omega
    ·split<;>omega
  ·rw[if_neg c]at ey em;have:m=(e:Int)+3:=by omega
   rw[this,UT (by omega)];omega
 have I:=SD (d:=day) ad hm1 hm2 _ _ hY hMM;have Y:(yoe+era*400)/400=era:=by omega
 have Z:(yoe+era*400)%400=yoe:=by omega
 rw[Y,Z]at I;have H:cZ y m day=n:=by
  rw[<- I,ag];clear hY hMM I Y Z;omega
 refine⟨?_,H⟩;have b0:=Q3 (y:=y) hm1 hm2;have b1:=DK (y:=y) hm1 hm2;have b2:=I1 (y:=y) (a:=m+1) (b:=13) (by omega) (by omega) (by omega);have b3:=zW (y:=y) (by omega);have b4:=Q2 y;have U:=Ri (n:=n) ad (by unfold cZ at H;omega) (by unfold cZ at H;omega) h1 an;exact⟨U.1,U.2,hm1,hm2,bc,bk⟩
theorem I9 (n:Int)(w:World)(ce: -9223372036854775808 <=n/\n <=9223372036854775807):Cf rE #[vI n] w (Ret λv w'=>v=XQ n/\bW w w'):=by
 apply G5;refine aA (rz _ _ _ (by omega) w) ?_;rintro _ b1 ⟨rfl,al⟩;refine⟨_,_,rfl,?_⟩;refine aA (rz _ _ _ (by omega) b1) ?_;rintro _ bq ⟨rfl,bs⟩;have hB:=ae al bs al.size;refine⟨_,_,rfl,?_⟩;rw[if_pos JO.1,if_pos C9.1,JO.2,C9.2];refine⟨λw'=>w'=bq/\ -134774 <=n/\n <=2932896,?_,?_⟩
 ·refine af.of (λh=>?_) (λh=>?_)<;>simp only[dTx,dFx]at h
  ·exact⟨(oP (.inl h)).symm,hB⟩
  ·refine af.of (λD=>?_) (λD=>?_)<;>simp only[gt_iff_lt,dTx,dFx]at D
   ·exact⟨(oP (.inr D)).symm,hB⟩
   ·exact⟨rfl,by omega,by omega⟩
 ·refine aQ.of ?_ _;rintro bq ⟨rfl,h1,D⟩;rw[wrJ (n:=n+719468),cY (by omega)];refine⟨by decide,?_⟩;intro of a8;have U:0 <=of/\of <=146096:=by omega
  refine⟨by decide,?_⟩;rintro ad V;rw[cD U.1,wrJ]at V;refine⟨by decide,?_⟩;rintro bk X;rw[cD U.1,wrJ]at X;refine⟨by decide,?_⟩;rintro b0 Y;rw[cD U.1,wrJ]at Y;refine⟨by decide,?_⟩;rintro e ac;rw[wrJ (n:=of-ad),wrJ (n:=of-ad+bk),wrJ (n:=of-ad+bk-b0),cD (by omega),wrJ]at ac;have bj:0 <=e/\e <=400:=by omega
  refine⟨by decide,?_⟩;rintro I a9;rw[cD bj.1,wrJ]at a9;refine⟨by decide,?_⟩;rintro ag bb;rw[cD bj.1,wrJ]at bb;rw[wrJ (n:=365*e),wrJ (n:=365*e+I),wrJ (n:=365*e+I-ag),wrJ (n:=of-(365*e+I-ag))];obtain⟨q,an⟩:∃q,q=of-(365*e+I-ag):=⟨_,rfl⟩
  rw[<- an];have Z:e=(of-of/1460+of/36524-of/146096)/365:=by rw[ac,V,X,Y]
  have O:q=of-(365*e+e/4-e/100):=by rw[an,a9,bb]
  obtain⟨_,_,_,_,b7,b8,b9,ca,_⟩:=I3 h1 D of e q _ _ _ a8 rfl Z O rfl rfl;refine⟨by decide,?_⟩;rintro E a0;rw[wrJ (n:=5*q),wrJ (n:=5*q+2),cD (by omega),wrJ]at a0;refine⟨by decide,?_⟩;rintro aj bc;have cc:0 <=E/\E <=12:=by omega
  rw[wrJ (n:=153*E),wrJ (n:=153*E+2),cD (by omega),wrJ]at bc;refine⟨by decide,?_⟩;rintro M ar;rw[cD (by omega),wrJ]at ar;obtain⟨_,_,b5,b6,_,_,_,_,cb,b2,b3,b4,H,G⟩:=I3 h1 D of e q E (q-aj+1) M a8 ar Z O a0 (by rw[bc]);clear Z O V X Y ac;rw[wrJ (n:=E+3),wrJ (n:=q-aj),wrJ (n:=q-aj+1),wrJ (n:=M*400),wrJ (n:=e+M*400)];refine af.of (λh=>?_) (λh=>?_)<;>simp only[gt_iff_lt,dTx,dFx]at h
  ·rw[if_pos h,if_pos h]at H G;rw[wrJ,wrJ];exact⟨by rw[<- G,DN H],hB⟩
  ·rw[if_neg h,if_neg h]at H G;exact⟨by rw[<- G,DN H],hB⟩
def zP (c:UInt8):UInt8:=if 65 <=c/\c <=90 then c+32 else c
def cv (s:lU):lU:=s.map zP
theorem UY:∀n,n<256->((zP (UInt8.ofNat n)).toNat:Int)=if 65 <=(n:Int)/\(n:Int) <=90 then(n:Int)+32 else(n:Int):=by decide+kernel
theorem OW (c:UInt8):((zP c).toNat:Int)=if 65 <=(c.toNat:Int)/\(c.toNat:Int) <=90 then(c.toNat:Int)+32 else(c.toNat:Int):=by
 have:=UY c.toNat (by have:=c.toNat_lt;omega)
 rwa [UInt8.ofNat_toNat]at this
theorem eA (s:lU)(b2:s.length <=9223372036854775800)(w:World):Cf ep #[vS s] w (Ret λv w'=>v=vS (cv s)/\bW w w'):=by
 apply EW;obtain⟨aj,a,n,c,bb,Y,O,a8⟩:=pz ax bX cE w s (by omega) NoB;have a9:=Y.len;subst a9;refine⟨aj,a,_,c,bb,?_⟩;refine⟨λm i w'=>∃k:Nat,k <=s.length/\i=(k:Int)/\m=s.length-k/\Ow tU8 bp w' NoB a s.length c (cv (s.take k)++s.drop k)/\aj.grownBy w' (eP a),
  ⟨_,0,by omega,rfl,rfl,by simpa[cv]using Y,⟨rfl,rfl,rfl,Nat.le_refl _,λ_ _ _=>rfl⟩⟩,?_⟩
 intro m i;refine aQ.of ?_ _;rintro w' ⟨k,b0,rfl,rfl,E,q⟩;have H:(cv (s.take k)++s.drop k).length=s.length:=by simp[cv];omega
 refine af.of (λh=>?_) (λh=>?_)<;>simp at h
 ·have G:(cv (s.take k)).length=k:=by simp[cv];omega
  have ac:=E.all;obtain⟨v,ad,bc⟩:=ac.load1 (i:=(k:Int)) cE rfl rfl (by rw[H];simpa using h);have:=FY bc;subst this;have ar:(cv (s.take k)++s.drop k)[(k:Int).toNat]'(by rw[H];simpa using h)=s[k]:=by
   simp only[Int.toNat_natCast];rw[List.getElem_append_right (by rw[G];exact Nat.le_refl _)];simp[G]
  rw[ar]at ad;have U:(0 <=(k:Int)/\(k:Int)<((s.length:Nat):Int))/\Option.isSome a=true:=⟨⟨by omega,by omega⟩,ac.isSome (i:=k) (by rw[H];exact h)⟩
  have b1:=pa s[k];have I:=OW s[k];have al:i64.wrap ((k:Int)+1)=((k+1:Nat):Int):=by rw[wrJ];omega
  try dsimp only
  rw[al];have bk:∀x,(cv (s.take k)++s.drop k).set k x=cv (s.take k)++x::s.drop (k+1):=λx=>by
   rw[List.set_append_right _ _ (by rw[G];exact Nat.le_refl _),G,Nat.sub_self,drop_eq_getElem_cons h];rfl
  have X:cv (s.take (k+1))++s.drop (k+1)=cv (s.take k)++zP s[k]::s.drop (k+1):=by
   unfold cv;rw[take_succ_eq_append_getElem h,map_append,append_assoc];rfl
  refine⟨U,_,ad,λb bq=>bq=w'/\b=decide (65 <=(s[k].toNat:Int)/\(s[k].toNat:Int) <=90),?_,?_⟩
  ·refine af.of (λe=>?_) (λe=>?_)<;>simp only[ge_iff_le,dTx,dFx]at e
   ·exact⟨rfl,by simp[e]⟩
   ·exact⟨rfl,by simp[e]⟩
  ·intro b;refine aQ.of ?_ _;rintro w' ⟨rfl,rfl⟩;refine af.of (λe=>?_) (λe=>?_)<;>simp only[dTx,dFx]at e
   ·rw[if_pos e]at I;rw[wrap_u8 (n:=(s[k].toNat:Int)-65) (by omega) (by omega),wrap_u8 (by omega) (by omega)];obtain⟨bs,bj,M,D⟩:=E.store (P:=prog) (bytes:=1) (z:=u0) ik (λ_ _ h=>h) (i:=(k:Int)) (by rw[H];simpa using h) (k:=1) rfl (v:=.int .u8 ((s[k].toNat:Int)-65+97)) (x:=zP s[k]) (qJ (by rw[I];omega));simp only[Int.toNat_natCast]at M;rw[bk,<- X]at M;exact⟨U,bs,bj,s.length-(k+1),by omega,k+1,by omega,rfl,rfl,M,⟨D.os.trans q.os,D.tape.trans q.tape,D.output.trans q.output,Nat.le_trans q.size D.size,λag Z V=>(D.block ag (Nat.lt_of_lt_of_le Z q.size) V).trans (q.block ag Z V)⟩⟩
   ·rw[if_neg e]at I;have a0:zP s[k]=s[k]:=Be I;refine⟨s.length-(k+1),by omega,k+1,by omega,rfl,rfl,?_,q⟩;rw[X,a0,<- drop_eq_getElem_cons h];exact E
 ·have:k=s.length:=by omega
  subst this;have an:cv (s.take s.length)++s.drop s.length=cv s:=by simp
  rw[an]at E;exact⟨_,oM bX ax cE E.all,rfl,O.grown q O.size a8⟩
theorem qq (s t:lU)(D:s.length <=9223372036854775800)(E:t.length <=9223372036854775800)(w:World):Cf kI #[vS s,vS t] w (Ret λv w'=>v=.bool (cv s==cv t)/\bW w w'):=by
 apply Hf;refine aA (eA s D w) ?_;rintro _ G ⟨rfl,e⟩;refine⟨_,rfl,?_⟩;refine aA (eA t E G) ?_;rintro _ H ⟨rfl,q⟩;exact⟨_,rfl,rfl,ae e q e.size⟩
end Go.Pk
namespace Go.Proofs
open Go.Pk (Cf vS vI bW)
open Go.Shelf
open Go.RowKit in
def Tryz.lays156_ren:Go.Shelf.Ren:=⟨fun|156=>37|165=>88|166=>36|169=>40|240=>87|241=>170|276=>169|277=>247|n=>n,fun|31=>36|9=>9|3=>3|4=>4|0=>0|20=>20|72=>86|76=>89|70=>83|37=>84|75=>88|127=>168|164=>233|5=>5|80=>94|n=>n,fun|n=>n⟩
theorem Tryz.lays156:Go.Proofs.Lays.n156 prog Tryz.lays156_ren:=by constructor <;> intros <;> kernel_rfl
theorem Tryz.Builder_Extra_156:Builder.Extra prog Tryz.lays156_ren:= {
 sizeBuilder:=by kernel_rfl
 liesBuilder:=by kernel_rfl
 t5:=Tryz.underlying5
 a5:=Tryz.isAgg5
 z5:=Tryz.sizeOf5
 v5:=Tryz.zeroValue5
 infoByte:=by kernel_rfl
 cellsByte:=by kernel_rfl
 sizeByte:=by kernel_rfl
 neB5:=by decide }
open Go.RowKit in
theorem Tryz.strings_Join_none (a:Option Addr)(c:Nat)(sep:ByteArray)(w:World):
 Cf 37 #[.slice a 0 c,.string sep] w λe w'=>e=.returned (.string ⟨#[]⟩)/\w'=w:=Any.strings_Join_none Tryz.lays156 Tryz.Builder_Extra_156 a c sep w
open Go.RowKit in
theorem Tryz.strings_Join (e o c:Nat)(xs:List ByteArray)(sep:ByteArray)(w:World)(H:∀(j:Nat) x,xs[j]? =some x->w.cell? ⟨e,o+j,none⟩=some (.string x))(E:e<w.heap.size)(D:xs.length <=140737488355328)(G:xs.length <=c)(I:(Lib.join (xs.map (·.data.toList)) sep.data.toList).length <=140737488355328):
 Cf 37 #[.slice (some ⟨e,o,none⟩) xs.length c,.string sep] w λq w'=>q=.returned (.string ⟨(Lib.join (xs.map (·.data.toList)) sep.data.toList).toArray⟩)/\bW w w':=Any.strings_Join Tryz.lays156 Tryz.Builder_Extra_156 e o c xs sep w H E D G I
open Go.RowKit in
def Tryz.lays161_ren:Go.Shelf.Ren:=⟨fun|161=>267|231=>213|227=>145|233=>215|235=>217|228=>146|197=>276|151=>277|260=>315|152=>143|137=>219|119=>220|224=>221|225=>222|217=>279|266=>317|n=>n,fun|9=>9|4=>4|3=>3|5=>5|117=>211|116=>210|0=>0|124=>266|105=>308|21=>21|119=>340|46=>139|139=>343|138=>342|n=>n,fun|3=>2|4=>3|n=>n⟩
theorem Tryz.lays161:Go.Proofs.Lays.n161 prog Tryz.lays161_ren:=by constructor <;> intros <;> kernel_rfl
open Go.RowKit in
theorem Tryz.strings_TrimLeft_one (s:ByteArray)(c:UInt8)(q:c.toNat<128)(w:World):
 Cf 267 #[.string s,.string ⟨#[c]⟩] w λe w'=>e=.returned (.string ⟨(Lib.trimLeftB s.data.toList c).toArray⟩)/\w'=w:=Any.strings_TrimLeft_one Tryz.lays161 s c q w
def Tryz.lays160_ren:Go.Shelf.Ren:=⟨fun|160=>141|232=>214|231=>213|227=>145|234=>216|233=>215|236=>218|235=>217|228=>146|271=>278|151=>277|197=>276|120=>316|152=>143|260=>315|137=>219|119=>220|224=>221|225=>222|217=>279|266=>317|n=>n,fun|9=>9|4=>4|3=>3|5=>5|117=>211|116=>210|0=>0|124=>266|21=>21|105=>308|46=>139|119=>340|139=>343|138=>342|n=>n,fun|3=>2|4=>3|n=>n⟩
theorem Tryz.lays160:Go.Proofs.Lays.n160 prog Tryz.lays160_ren:=by constructor <;> intros <;> kernel_rfl
open Go.RowKit in
theorem Tryz.strings_Trim_one (s:ByteArray)(c:UInt8)(q:c.toNat<128)(w:World)(D:s.size <=9223372036854775807):
 Cf 141 #[.string s,.string ⟨#[c]⟩] w λe w'=>e=.returned (.string ⟨(Lib.trimB s.data.toList c).toArray⟩)/\(w'=w\/w'=w.drew):=Any.strings_Trim_one Tryz.lays160 s c q w D
def Tryz.lays119_ren:Go.Shelf.Ren:=⟨fun|119=>220|n=>n,fun|21=>21|4=>4|n=>n,fun|n=>n⟩
theorem Tryz.lays119:Go.Proofs.Lays.n119 prog Tryz.lays119_ren:=by constructor <;> intros <;> kernel_rfl
theorem Tryz.utf8_ValidRune (r:Int)(w:World):
 Cf 220 #[.int .i32 r] w λe w'=>e=.returned (.bool (Lib.validRune r))/\w'=w:=Any.utf8_ValidRune Tryz.lays119 r w
def Tryz.lays137_ren:Go.Shelf.Ren:=⟨fun|137=>219|217=>279|266=>317|n=>n,fun|9=>9|5=>5|3=>3|n=>n,fun|n=>n⟩
theorem Tryz.lays137:Go.Proofs.Lays.n137 prog Tryz.lays137_ren:=by constructor <;> intros <;> kernel_rfl
open Go.RowKit in
theorem Tryz.strings_IndexByte (s:ByteArray)(c:Int)(w:World):
 Cf 219 #[.string s,.int .u8 c] w λe w'=>e=.returned (vI (Lib.indexByte s.data.toList c.toNat.toUInt8))/\w'=w:=Any.strings_IndexByte Tryz.lays137 s c w
open Go.RowKit in
def Tryz.lays103_ren:Go.Shelf.Ren:=⟨fun|103=>147|210=>223|206=>142|n=>n,fun|9=>9|4=>4|24=>110|3=>3|n=>n,fun|n=>n⟩
theorem Tryz.lays103:Go.Proofs.Lays.n103 prog Tryz.lays103_ren:=by constructor <;> intros <;> kernel_rfl
open Go.RowKit in
theorem Tryz.strings_CutPrefix (s p:ByteArray)(w:World):
 Cf 147 #[.string s,.string p] w λe w'=>e=.returned (.tuple #[.string ⟨(Lib.trimPrefix s.data.toList p.data.toList).toArray⟩,.bool (Lib.hasPrefix s.data.toList p.data.toList)])/\w'=w:=Any.strings_CutPrefix Tryz.lays103 s p w
open Go.RowKit in
def Tryz.lays104_ren:Go.Shelf.Ren:=⟨fun|104=>148|211=>224|207=>176|n=>n,fun|9=>9|4=>4|24=>110|3=>3|n=>n,fun|n=>n⟩
theorem Tryz.lays104:Go.Proofs.Lays.n104 prog Tryz.lays104_ren:=by constructor <;> intros <;> kernel_rfl
open Go.RowKit in
theorem Tryz.strings_CutSuffix (s p:ByteArray)(w:World)(q:s.size <=9223372036854775807):
 Cf 148 #[.string s,.string p] w λe w'=>e=.returned (.tuple #[.string ⟨(Lib.trimSuffix s.data.toList p.data.toList).toArray⟩,.bool (Lib.hasSuffix s.data.toList p.data.toList)])/\w'=w:=Any.strings_CutSuffix Tryz.lays104 s p w q
open Go.RowKit in
def Tryz.lays172_ren:Go.Shelf.Ren:=⟨fun|172=>327|244=>335|245=>336|247=>339|279=>340|280=>341|281=>342|282=>343|287=>345|316=>346|171=>59|205=>347|321=>350|322=>351|243=>113|246=>174|283=>251|284=>252|285=>253|286=>254|129=>212|317=>299|318=>300|319=>301|320=>302|337=>324|338=>325|n=>n,fun|9=>9|3=>3|75=>88|76=>89|4=>4|5=>5|167=>352|37=>84|0=>0|85=>353|2=>2|168=>355|53=>263|175=>360|46=>139|210=>363|127=>168|145=>370|143=>368|21=>21|171=>287|173=>289|212=>321|51=>261|20=>20|213=>322|232=>346|233=>347|80=>94|n=>n,fun|15=>6|16=>7|17=>1|18=>4|19=>5|n=>n⟩
theorem Tryz.lays172:Go.Proofs.Lays.n172 prog Tryz.lays172_ren:=by constructor <;> intros <;> kernel_rfl
open Go.RowKit in
theorem Tryz.strconv_Atoi (s:ByteArray)(n:Int)(q:s.size <=18)(h:Lib.atoi s.data.toList=some n)(w:World):
 Cf 327 #[.string s] w λe w'=>e=.returned (.tuple #[vI n,.nilIface])/\∃t,w'=Lib.bytesWorld w 5 t:=Any.strconv_Atoi Tryz.lays172 s n q h w
open Go.Lib in
open Go.RowKit Go.Sort Go.Lib in
def Tryz.laysM246_ren:Go.Shelf.Ren:=⟨fun|246=>174|283=>251|284=>252|285=>253|286=>254|129=>212|317=>299|318=>300|319=>301|320=>302|337=>324|338=>325|n=>n,fun|2=>2|3=>3|9=>9|4=>4|171=>287|0=>0|53=>263|37=>84|5=>5|173=>289|212=>321|51=>261|20=>20|213=>322|46=>139|232=>346|233=>347|n=>n,fun|17=>1|18=>4|19=>5|n=>n⟩
theorem Tryz.laysM246:Go.Proofs.LaysM.n246 prog Tryz.laysM246_ren:=by constructor <;> first|(intros;kernel_rfl)|(constructor <;> intros <;> kernel_rfl)
open Go.RowKit Go.Sort Go.Lib in
theorem Tryz.internal_strconv_FormatInt_10 (n:Int)(q: -9223372036854775808 <=n)(h1:n <=9223372036854775807)(w:World)(D:Lib.TabIs prog w "internal/strconv.uint64pow10" .u64 Lib.pow10Tab):
 Cf 174 #[vI n,vI 10] w λe w'=>e=.returned (.string ⟨(Lib.itoa n).toArray⟩)/\∃k os,w'=grow (w.drewN k) os:=Any.internal_strconv_FormatInt_10 Tryz.laysM246 n q h1 w D
open Go.RowKit Go.Sort Go.Lib in
def Tryz.laysM171_ren:Go.Shelf.Ren:=⟨fun|171=>59|243=>113|246=>174|283=>251|284=>252|285=>253|286=>254|129=>212|317=>299|318=>300|319=>301|320=>302|337=>324|338=>325|n=>n,fun|3=>3|9=>9|2=>2|4=>4|171=>287|0=>0|53=>263|37=>84|5=>5|173=>289|212=>321|51=>261|20=>20|213=>322|46=>139|232=>346|233=>347|n=>n,fun|17=>1|18=>4|19=>5|n=>n⟩
theorem Tryz.laysM171:Go.Proofs.LaysM.n171 prog Tryz.laysM171_ren:=by constructor <;> first|(intros;kernel_rfl)|(constructor <;> intros <;> kernel_rfl)
open Go.RowKit Go.Sort Go.Lib in
theorem Tryz.strconv_Itoa (n:Int)(q: -9223372036854775808 <=n)(h1:n <=9223372036854775807)(w:World)(D:Lib.TabIs prog w "internal/strconv.uint64pow10" .u64 Lib.pow10Tab):
 Cf 59 #[vI n] w λe w'=>e=.returned (.string ⟨(Lib.itoa n).toArray⟩)/\∃k os,w'=grow (w.drewN k) os:=Any.strconv_Itoa Tryz.laysM171 n q h1 w D
def Tryz.lays171_ren:Go.Shelf.Ren:=⟨fun|171=>59|243=>113|246=>174|283=>251|284=>252|285=>253|286=>254|129=>212|317=>299|318=>300|319=>301|320=>302|337=>324|338=>325|n=>n,fun|3=>3|9=>9|2=>2|4=>4|171=>287|0=>0|53=>263|37=>84|5=>5|173=>289|212=>321|51=>261|20=>20|213=>322|46=>139|232=>346|233=>347|n=>n,fun|17=>1|18=>4|19=>5|n=>n⟩
theorem Tryz.lays171:Go.Proofs.Lays.n171 prog Tryz.lays171_ren:=by constructor <;> intros <;> kernel_rfl
open Go.RowKit Go.Sort Go.Lib in
theorem Tryz.strconv_Itoa_small (i:Nat)(q:i<100)(w:World):
 Cf 59 #[vI i] w λe w'=>e=.returned (.string ⟨(Lib.decDigits i).toArray⟩)/\w'=w:=Any.strconv_Itoa_small Tryz.lays171 i q w
open Go.RowKit Go.Sort Go.Lib in
open Go.RowKit in
open Go.RowKit Go.Lib in
def Tryz.lays145_ren:Go.Shelf.Ren:=⟨fun|145=>185|220=>263|219=>305|217=>279|225=>222|224=>221|267=>326|266=>317|314=>334|n=>n,fun|9=>9|4=>4|59=>178|3=>3|5=>5|46=>139|146=>348|51=>261|n=>n,fun|1=>0|n=>n⟩
theorem Tryz.lays145:Go.Proofs.Lays.n145 prog Tryz.lays145_ren:=by constructor <;> intros <;> kernel_rfl
open Go.RowKit Go.Lib in
theorem Tryz.strings_Cut (s sep:ByteArray)(m:Int)(w:World)(D:s.size<4294967281)(q:w.cell? ⟨0,0,none⟩=some (vI m)):
 Cf 185 #[.string s,.string sep] w λe w'=>e=.returned (.tuple #[.string ⟨(Lib.cut s.data.toList sep.data.toList).1.toArray⟩,.string ⟨(Lib.cut s.data.toList sep.data.toList).2.1.toArray⟩,.bool (Lib.cut s.data.toList sep.data.toList).2.2])/\∃n,w'=w.drewN n:=Any.strings_Cut Tryz.lays145 s sep m w D q
open Go.RowKit Go.Lib in
def Tryz.lays149_ren:Go.Shelf.Ren:=⟨fun|149=>194|222=>270|n=>n,fun|9=>9|5=>5|3=>3|4=>4|n=>n,fun|n=>n⟩
theorem Tryz.lays149:Go.Proofs.Lays.n149 prog Tryz.lays149_ren:=by constructor <;> intros <;> kernel_rfl
open Go.RowKit Go.Lib in
theorem Tryz.strings_LastIndexByte (s:ByteArray)(c:Int)(q:s.size<4611686018427387904)(w:World):
 Cf 194 #[.string s,.int .u8 c] w λe w'=>e=.returned (vI (Lib.lastIndexByte s c))/\w'=w:=Any.strings_LastIndexByte Tryz.lays149 s c q w
open Go.RowKit Go.Lib in
def Tryz.lays99_ren:Go.Shelf.Ren:=⟨fun|99=>77|206=>142|n=>n,fun|9=>9|4=>4|3=>3|n=>n,fun|n=>n⟩
theorem Tryz.lays99:Go.Proofs.Lays.n99 prog Tryz.lays99_ren:=by constructor <;> intros <;> kernel_rfl
open Go.RowKit Go.Lib in
theorem Tryz.strings_HasPrefix (s p:ByteArray)(w:World):
 Cf 77 #[.string s,.string p] w λe w'=>e=.returned (.bool (Lib.hasPrefix s.data.toList p.data.toList))/\w'=w:=Any.strings_HasPrefix Tryz.lays99 s p w
open Go.RowKit Go.Lib in
def Tryz.lays100_ren:Go.Shelf.Ren:=⟨fun|100=>196|207=>176|n=>n,fun|9=>9|4=>4|3=>3|n=>n,fun|n=>n⟩
theorem Tryz.lays100:Go.Proofs.Lays.n100 prog Tryz.lays100_ren:=by constructor <;> intros <;> kernel_rfl
open Go.RowKit Go.Lib in
theorem Tryz.strings_HasSuffix (s p:ByteArray)(w:World)(q:s.size <=9223372036854775807):
 Cf 196 #[.string s,.string p] w λe w'=>e=.returned (.bool (Lib.hasSuffix s.data.toList p.data.toList))/\w'=w:=Any.strings_HasSuffix Tryz.lays100 s p w q
open Go.RowKit Go.Lib in
def Tryz.lays101_ren:Go.Shelf.Ren:=⟨fun|101=>188|208=>268|206=>142|n=>n,fun|9=>9|4=>4|3=>3|n=>n,fun|n=>n⟩
theorem Tryz.lays101:Go.Proofs.Lays.n101 prog Tryz.lays101_ren:=by constructor <;> intros <;> kernel_rfl
open Go.RowKit Go.Lib in
theorem Tryz.strings_TrimPrefix (s p:ByteArray)(w:World):
 Cf 188 #[.string s,.string p] w λe w'=>e=.returned (.string ⟨(Lib.trimPrefix s.data.toList p.data.toList).toArray⟩)/\w'=w:=Any.strings_TrimPrefix Tryz.lays101 s p w
open Go.RowKit Go.Lib in
def Tryz.lays102_ren:Go.Shelf.Ren:=⟨fun|102=>45|209=>95|207=>176|n=>n,fun|9=>9|4=>4|3=>3|n=>n,fun|n=>n⟩
theorem Tryz.lays102:Go.Proofs.Lays.n102 prog Tryz.lays102_ren:=by constructor <;> intros <;> kernel_rfl
open Go.RowKit Go.Lib in
theorem Tryz.strings_TrimSuffix (s p:ByteArray)(w:World)(q:s.size <=9223372036854775807):
 Cf 45 #[.string s,.string p] w λe w'=>e=.returned (.string ⟨(Lib.trimSuffix s.data.toList p.data.toList).toArray⟩)/\w'=w:=Any.strings_TrimSuffix Tryz.lays102 s p w q
open Go.RowKit Go.Lib in
def Tryz.lays146_ren:Go.Shelf.Ren:=⟨fun|146=>94|221=>175|268=>255|138=>256|143=>257|195=>303|197=>276|218=>304|219=>305|260=>315|217=>279|225=>222|224=>221|267=>326|266=>317|314=>334|n=>n,fun|9=>9|31=>36|3=>3|4=>4|0=>0|105=>308|21=>21|5=>5|46=>139|119=>340|139=>343|138=>342|146=>348|51=>261|n=>n,fun|1=>0|3=>2|4=>3|n=>n⟩
theorem Tryz.lays146:Go.Proofs.Lays.n146 prog Tryz.lays146_ren:=by constructor <;> intros <;> kernel_rfl
open Go.RowKit Go.Lib in
theorem Tryz.strings_Split (s sep:ByteArray)(m:Int)(w:World)(D:s.size<4294967281)(q:w.cell? ⟨0,0,none⟩=some (vI m))(h1:1 <=sep.size):
 Cf 94 #[.string s,.string sep] w λe w'=>
  e=.returned (.slice (some ⟨w.heap.size,0,none⟩) (Lib.countB s sep+1) (Lib.countB s sep+1))/\w'=w.alloc (.cells ((Lib.splitB sep 0 (Lib.countB s sep) s).map Value.string).toArray 9):=Any.strings_Split Tryz.lays146 (by kernel_rfl) s sep m w D q h1
open Go.RowKit Go.Lib in
def Tryz.lays152_ren:Go.Shelf.Ren:=⟨fun|152=>143|137=>219|119=>220|224=>221|225=>222|217=>279|266=>317|n=>n,fun|9=>9|21=>21|3=>3|4=>4|5=>5|0=>0|46=>139|n=>n,fun|n=>n⟩
theorem Tryz.lays152:Go.Proofs.Lays.n152 prog Tryz.lays152_ren:=by constructor <;> intros <;> kernel_rfl
open Go.RowKit Go.Lib in
theorem Tryz.strings_IndexRune_ascii (s:ByteArray)(r:Int)(w:World)(q:0 <=r)(h1:r<128):
 Cf 143 #[.string s,.int .i32 r] w λe w'=>e=.returned (vI (Lib.indexByte s.data.toList r.toNat.toUInt8))/\w'=w:=Any.strings_IndexRune_ascii Tryz.lays152 s r w q h1
open Go.RowKit Go.Lib in
def Tryz.lays226_ren:Go.Shelf.Ren:=⟨fun|226=>144|n=>n,fun|3=>3|4=>4|n=>n,fun|n=>n⟩
theorem Tryz.lays226:Go.Proofs.Lays.n226 prog Tryz.lays226_ren:=by constructor <;> intros <;> kernel_rfl
open Go.RowKit Go.Lib in
theorem Tryz.strings_shouldUseASCIISet (n:Int)(w:World):
 Cf 144 #[vI n] w λe w'=>e=.returned (.bool (decide (8<n)))/\w'=w:=Any.strings_shouldUseASCIISet Tryz.lays226 n w
def Tryz.lays153_ren:Go.Shelf.Ren:=⟨fun|153=>78|152=>143|226=>144|227=>145|228=>146|137=>219|119=>220|224=>221|225=>222|217=>279|266=>317|n=>n,fun|9=>9|3=>3|4=>4|5=>5|21=>21|117=>211|116=>210|0=>0|46=>139|124=>266|n=>n,fun|n=>n⟩
theorem Tryz.lays153:Go.Proofs.Lays.n153 prog Tryz.lays153_ren:=by constructor <;> intros <;> kernel_rfl
open Go.RowKit Go.Lib in
theorem Tryz.strings_IndexAny_long (M:∀w,(zeroValue 210).run prog w=.ok (.agg (Array.replicate 256 (.bool false))) w)(s e:ByteArray)(w:World)(D:2 <=e.size)(E:8<s.size)(I:s.size<4294967281)(H:e.size<4294967281)(G:∀(j:Nat) b,e.data.toList[j]? =some b->b.toNat<128):
 Cf 78 #[.string s,.string e] w λq w'=>q=.returned (vI (Lib.indexAny s.data.toList e.data.toList))/\w'=((w.alloc (.cells (Lib.setCells e.data.toList) 210)).alloc (.cells (Lib.setCells e.data.toList) 210)):=Any.strings_IndexAny_long Tryz.lays153 M (by kernel_rfl) s e w D E I H G
open Go.RowKit Go.Lib in
def Tryz.lays105_ren:Go.Shelf.Ren:=⟨fun|105=>337|212=>344|99=>77|165=>88|166=>36|170=>39|169=>40|263=>348|264=>349|206=>142|240=>87|241=>170|276=>169|277=>247|n=>n,fun|9=>9|3=>3|4=>4|20=>20|0=>0|46=>139|109=>358|5=>5|72=>86|76=>89|51=>261|146=>348|53=>263|148=>366|70=>83|37=>84|75=>88|127=>168|164=>233|80=>94|n=>n,fun|n=>n⟩
theorem Tryz.lays105:Go.Proofs.Lays.n105 prog Tryz.lays105_ren:=by constructor <;> intros <;> kernel_rfl
theorem Tryz.Builder_Extra_105:Builder.Extra prog Tryz.lays105_ren:= {
 sizeBuilder:=by kernel_rfl
 liesBuilder:=by kernel_rfl
 t5:=Tryz.underlying5
 a5:=Tryz.isAgg5
 z5:=Tryz.sizeOf5
 v5:=Tryz.zeroValue5
 infoByte:=by kernel_rfl
 cellsByte:=by kernel_rfl
 sizeByte:=by kernel_rfl
 neB5:=by decide }
open Go.RowKit Go.Lib in
theorem Tryz.strings_Repeat (s:ByteArray)(c:Nat)(w:World)(q:c <=9223372036854775807)(D:s.size*c <=140737488355328):
 Cf 337 #[.string s,vI c] w λe w'=>e=.returned (.string ⟨(Lib.repeatL s.data.toList c).toArray⟩)/\bW w w':=Any.strings_Repeat Tryz.lays105 Tryz.Builder_Extra_105 s c w q D
open Go.RowKit Go.Lib in
def Tryz.lays109_ren:Go.Shelf.Ren:=⟨fun|109=>177|n=>n,fun|31=>36|9=>9|3=>3|0=>0|4=>4|n=>n,fun|n=>n⟩
theorem Tryz.lays109:Go.Proofs.Lays.n109 prog Tryz.lays109_ren:=by constructor <;> intros <;> kernel_rfl
open Go.Lib in
theorem Tryz.slices_Index_string (b off n c:Nat)(zs:List ByteArray)(x:ByteArray)(w:World)(E:n <=zs.length)(q:n <=9223372036854775807)(D:∀j,j<zs.length->w.cell? ⟨b,off+j,none⟩=some (.string (zs.getD j ByteArray.empty))):
 Cf 177 #[.slice (some ⟨b,off,none⟩) n c,.string x] w λe w'=>e=.returned (vI (Lib.idxOfS (zs.take n) x))/\w'=w:=Any.slices_Index_string Tryz.lays109 b off n c zs x w E q D
open Go.Lib in
def Tryz.lays110_ren:Go.Shelf.Ren:=⟨fun|110=>96|109=>177|n=>n,fun|31=>36|9=>9|4=>4|3=>3|0=>0|n=>n,fun|n=>n⟩
theorem Tryz.lays110:Go.Proofs.Lays.n110 prog Tryz.lays110_ren:=by constructor <;> intros <;> kernel_rfl
open Go.Lib in
theorem Tryz.slices_Contains_string (b off n c:Nat)(zs:List ByteArray)(x:ByteArray)(w:World)(E:n <=zs.length)(q:n <=9223372036854775807)(D:∀j,j<zs.length->w.cell? ⟨b,off+j,none⟩=some (.string (zs.getD j ByteArray.empty))):
 Cf 96 #[.slice (some ⟨b,off,none⟩) n c,.string x] w λe w'=>e=.returned (.bool (Lib.containsS (zs.take n) x))/\w'=w:=Any.slices_Contains_string Tryz.lays110 b off n c zs x w E q D
open Go.Lib in
theorem Tryz.slices_Contains_string_empty (a:Option Addr)(c:Nat)(x:ByteArray)(w:World):
 Cf 96 #[.slice a 0 c,.string x] w λe w'=>e=.returned (.bool false)/\w'=w:=Any.slices_Contains_string_empty Tryz.lays110 a c x w
def Tryz.laysNm216_ren:Go.Shelf.Ren:=⟨fun|16=>46|n=>n,fun|24=>36|9=>9|4=>4|n=>n,fun|n=>n⟩
theorem Tryz.laysNm216:Go.Proofs.Lays2.n16 prog Tryz.laysNm216_ren:=by constructor <;> intros <;> kernel_rfl
open Go.RowKit Go.Lib in
theorem Tryz.slices_Clone_string (b off n c:Nat)(zs:List ByteArray)(w:World)(G:n <=zs.length)(D:n*16 <=140737488355328)(E:∀j,j<zs.length->w.cell? ⟨b,off+j,none⟩=some (.string (zs.getD j ByteArray.empty))):
 Cf 46 #[.slice (some ⟨b,off,none⟩) n c] w λq w'=>∃e,q=.returned e/\w'.ownsRow w.heap.size 9 1 e n ((zs.take n).map (Value.string))/\e≠.slice none 0 0/\bW w w':=Any.slices_Clone_string Tryz.laysNm216 b off n c zs w G D E
open Go.RowKit Go.Lib in
theorem Tryz.slices_Clone_string_nil (n c:Nat)(w:World):
 Cf 46 #[.slice none n c] w λe w'=>e=.returned (.slice none 0 0)/\w'=w:=Any.slices_Clone_string_nil Tryz.laysNm216 n c w
open Go.RowKit Go.Lib in
theorem Tryz.slices_Clone_string_zero (a:Addr)(c:Nat)(w:World):
 Cf 46 #[.slice (some a) 0 c] w λq w'=>∃e,q=.returned e/\w'.ownsRow w.heap.size 9 1 e 0 []/\e≠.slice none 0 0/\bW w w':=Any.slices_Clone_string_zero Tryz.laysNm216 a c w
open Go.RowKit Go.Lib in
open Go.RowKit in
theorem Tryz.strings_TrimLeft_laid (s e:ByteArray)(w:World)(E:e.size<4294967281)(D:∀(j:Nat) b,e.data.toList[j]? =some b->b.toNat<128):
 Cf 267 #[.string s,.string e] w λq w'=>q=.returned (.string ⟨(Lib.trimLeftS s.data.toList e.data.toList).toArray⟩)/\bW w w':=
 Any.strings_TrimLeft_laid Tryz.lays161 (by kernel_rfl) s e w E D
open Go.RowKit in
theorem Tryz.strings_Trim_laid (s e:ByteArray)(w:World)(G:s.size <=9223372036854775807)(E:e.size<4294967281)(D:∀(j:Nat) b,e.data.toList[j]? =some b->b.toNat<128):
 Cf 141 #[.string s,.string e] w λq w'=>q=.returned (.string ⟨(Lib.trimS s.data.toList e.data.toList).toArray⟩)/\bW w w':=
 Any.strings_Trim_laid Tryz.lays160 (by kernel_rfl) s e w G E D
end Go.Proofs
namespace Go.Pk
open Go.RowKit (Below)
open Go.Proofs
def A6 (n:Int):Prop:=n=9\/(32 <=n/\n <=47)\/(59 <=n/\n <=64)\/(91 <=n/\n <=96)\/(123 <=n/\n <=126)
instance  (n:Int):Decidable (A6 n):=by unfold A6;infer_instance
theorem Jc (n:Int)(w:World):Cf rH #[.int .u8 n] w (Ret λv w'=>v=.bool (decide (A6 n))/\w'=w):=by
 apply G8
 repeat' (refine af.of (λh=>?_) (λh=>?_))
 all_goals
  refine⟨?_,rfl⟩;congr 1;rw[Bool.eq_iff_iff];simp only[dTx];simp only[A6,beq_iff_eq,beq_eq_false_iff_ne,ge_iff_le,dTx,dFx,true_iff,false_iff,iff_true,reduceCtorEq,Bool.false_eq_true]at*;omega
theorem GU (n:Int)(w:World):Cf qd #[.int .u8 n] w (Ret λv w'=>v=.bool (decide (A6 n))/\w'=w):=by
 apply Fo
 repeat' (refine af.of (λh=>?_) (λh=>?_))
 all_goals
  refine⟨?_,rfl⟩;congr 1;rw[Bool.eq_iff_iff];simp only[dTx];simp only[A6,beq_iff_eq,beq_eq_false_iff_ne,ge_iff_le,dTx,dFx,true_iff,false_iff,iff_true,reduceCtorEq,Bool.false_eq_true]at*;omega
def eO (c:UInt8):Bool:=decide (48 <=c)&&decide (c <=57)
def eN (s:lU):lU:=s.takeWhile eO
def fg (l:lU):Int:=l.foldl (λn c=>n*10+((c.toNat:Int)-48)) 0
theorem Nf:∀n,n<256->([48,49,50,51,52,53,54,55,56,57]:lU).contains (UInt8.ofNat n)=eO (UInt8.ofNat n):=by decide+kernel
theorem Rm (c:UInt8):([48,49,50,51,52,53,54,55,56,57]:lU).contains c=eO c:=by
 have:=Nf c.toNat (by have:=c.toNat_lt;omega)
 rwa [UInt8.ofNat_toNat]at this
theorem Vn (s:lU):Lib.trimLeftS s [48,49,50,51,52,53,54,55,56,57]=s.dropWhile eO:=by
 unfold Lib.trimLeftS;congr 1;funext c;exact Rm c
theorem Li (s:lU):eN s++s.dropWhile eO=s:=List.takeWhile_append_dropWhile
theorem WE (s:lU):(s.dropWhile eO).length+(eN s).length=s.length:=by
 have:=congrArg length (Li s);rw[length_append]at this;omega
theorem C0 (s:lU):s.take (eN s).length=eN s:=by
 have h:(eN s++s.dropWhile eO).take (eN s).length=eN s:=List.take_left' rfl
 rwa [Li]at h
theorem xN:∀c∈eN s,eO c=true:=λc e=>List.all_eq_true.1 (List.all_takeWhile (p:=eO) (l:=s)) c e
theorem iH {c:UInt8} :eO c=true↔48 <=c.toNat/\c.toNat <=57:=by
 unfold eO;rw[Bool.and_eq_true,dTx,dTx,UInt8.le_iff_toNat_le,UInt8.le_iff_toNat_le];exact Iff.rfl
theorem OA:∀(l:lU) (e:Nat),(∀c∈l,eO c=true)->∃n:Nat,Lib.decFrom e l=some n/\(n:Int)=l.foldl (λn c=>n*10+((c.toNat:Int)-48)) (e:Int)
 |[],e,_=>⟨e,rfl,rfl⟩
 |c::l,e,h=>by
  have D:=iH.1 (h c mem_cons_self);obtain⟨n,h1,q⟩:=OA l (e*10+(c.toNat-48)) λx E=>h x (mem_cons_of_mem _ E);refine⟨n,?_,?_⟩
  ·unfold Lib.decFrom Lib.digitVal;rw[if_pos D];exact h1
  ·rw[q,foldl_cons];congr 1;omega
theorem Ud {l:lU}(H:l≠[])(h:∀c∈l,eO c=true):Lib.atoi l=some (fg l):=by
 match l,H with
 |c::r,_=>
  have q:=iH.1 (h c mem_cons_self);unfold Lib.atoi;have h1:(c==45)=false:=by rw[beq_eq_false_iff_ne];intro e;subst e;simp at q
  have G:(c==43)=false:=by rw[beq_eq_false_iff_ne];intro e;subst e;simp at q
  obtain⟨n,D,E⟩:=OA (c::r) 0 h;simp only[h1,G,Bool.false_eq_true,if_false];unfold Lib.decNat;simp only[List.isEmpty_cons,Bool.false_eq_true,if_false,D,map_some];rw[E];rfl
def SN (s:lU)(least most:Int):Value:=if least <=((eN s).length:Int)/\((eN s).length:Int) <=most then .tuple #[vI (fg (eN s)),vS (s.drop (eN s).length),.bool true]else .tuple #[vI 0,vS s,.bool false]
theorem M0 (w:World)(e:TypeId)(s:ByteArray):bW w (Lib.bytesWorld w e s):=by
 unfold Lib.bytesWorld;refine lR rfl rfl rfl (by simp[World.freeze]) λk q=>?_;simp only[World.freeze,if_neg (show ¬ (1:Nat)=0 by decide),Array.getElem?_modify];rw[if_neg (show ¬ w.heap.size=k by omega)];exact(Below.refl w.drew.heap.size w.drew |>.alloc (Nat.le_refl _) _).block k q
theorem nT (s:lU)(D E:Int)(h1:1 <=D)(Y:E <=18)(ac:s.length <=9223372036854775807)(w:World):
 Cf ju #[vS s,vI D,vI E] w (Ret λv w'=>v=SN s D E/\bW w w'):=by
 apply EL;refine(Tryz.strings_TrimLeft_laid (mkS s) (mkS [48,49,50,51,52,53,54,55,56,57]) w (by decide) (ascii_of_all (by decide))).mono ?_;rintro _ G ⟨rfl,q⟩;have H:(mkS s).data.toList=s:=rfl;have M:(mkS [48,49,50,51,52,53,54,55,56,57]).data.toList=[48,49,50,51,52,53,54,55,56,57]:=rfl;rw[H,M,Vn];refine⟨s.dropWhile eO,rfl,?_⟩;have Z:=WE s;have O:i64.wrap ((s.length:Int)-((s.dropWhile eO).length:Int))=((eN s).length:Int):=by rw[wrJ];omega
 try dsimp only
 rw[O];refine⟨λw'=>w'=G/\D <=((eN s).length:Int)/\((eN s).length:Int) <=E,?_,?_⟩
 ·refine af.of (λh=>?_) (λh=>?_)<;>simp only[dTx,dFx]at h
  ·exact⟨by unfold SN;rw[if_neg (by omega)],q⟩
  ·refine af.of (λe=>?_) (λe=>?_)<;>simp only[gt_iff_lt,dTx,dFx]at e
   ·exact⟨by unfold SN;rw[if_neg (by omega)],q⟩
   ·exact⟨rfl,by omega,by omega⟩
 ·refine aQ.of ?_ _;rintro G ⟨rfl,e,U⟩;refine⟨⟨by omega,by omega⟩,?_⟩;rintro _ rfl;simp only[Int.toNat_natCast];rw[C0];have V:eN s≠[]:=λH=>by rw[H]at e;simp at e;omega
  refine(Tryz.strconv_Atoi (mkS (eN s)) (fg (eN s)) (by show(eN s).length <=18;omega) (Ud V xN) G).mono ?_;rintro _ _ ⟨rfl,t,rfl⟩;refine⟨_,_,rfl,⟨by omega,by omega⟩,?_⟩;rintro _ rfl ad X;have I:=M0 G 5 t;refine⟨by unfold SN;rw[if_pos ⟨e,U⟩],ae (ae q I q.size) X (ae q I q.size).size⟩
def NB:lU:=[74,97,110,70,101,98,77,97,114,65,112,114,77,97,121,74,117,110,74,117,108,65,117,103,83,101,112,79,99,116,78,111,118,68,101,99]
def JQ (k:Nat):lU:=cv ((NB.take (3*k+3)).drop (3*k))
def gk (s:lU):Nat->Nat->Int
 |0,_=>0
 |f+1,k=>if 3 <=s.length/\cv (s.take 3)=JQ k then(k:Int)+1 else gk s f (k+1)
def jj (s:lU):Int:=gk s 12 0
theorem jI (h: ¬ 3 <=s.length):∀f k,gk s f k=0
 |0,_=>rfl
 |f+1,k=>by unfold gk;rw[if_neg (λe=>h e.1)];exact jI h f (k+1)
theorem Jb (s:lU)(ac:s.length <=9223372036854775800)(w:World):Cf rG #[vS s] w (Ret λv w'=>v=vI (jj s)/\bW w w'):=by
 apply G7;refine⟨λm i w'=>∃k:Nat,k <=12/\i=(k:Int)/\m=12-k/\jj s=gk s (12-k) k/\bW w w',⟨_,0,by omega,rfl,rfl,rfl,Below.refl _ _⟩,?_⟩;intro m i;refine aQ.of ?_ _;rintro H ⟨k,Z,rfl,rfl,e,q⟩;refine⟨λw'=>w'=H/\k<12/\3 <=s.length,?_,?_⟩
 ·refine af.of (λh=>?_) (λh=>?_)<;>simp only[dTx,dFx]at h
  ·refine af.of (λD=>?_) (λD=>?_)<;>simp only[ge_iff_le,dTx,dFx]at D
   ·exact⟨rfl,by omega,by omega⟩
   ·exact⟨by rw[e,jI (by omega)],q⟩
  ·have:k=12:=by omega
   subst this;exact⟨by rw[e];rfl,q⟩
 ·refine aQ.of ?_ _;rintro H ⟨rfl,h1,D⟩;rw[wrJ (n:=3*(k:Int)),wrJ (n:=3*(k:Int)+3)];refine⟨⟨by omega,by omega⟩,?_⟩;rintro _ rfl;refine⟨⟨⟨by omega,by simp;omega⟩,by omega,by omega⟩,?_⟩;rintro _ rfl;have M:Int.toNat (3*(k:Int))=3*k:=by omega
  have O:Int.toNat (3*(k:Int)+3)=3*k+3:=by omega
  have U:Int.toNat (3:Int)=3:=rfl;rw[M,O,U];refine⟨cv (s.take 3)==JQ k,λu Y=>?_,?_⟩
  ·refine(qq (s.take 3) ((NB.take (3*k+3)).drop (3*k)) (by simp;omega) (by simp[NB];omega) u).mono ?_;rintro _ ad ⟨_,rfl,rfl,X⟩;exact⟨rfl,X.mono Y.size⟩
  ·intro ag G;have V:12-k=(12-(k+1))+1:=by omega
   rw[V]at e;unfold gk at e;have E:i64.wrap ((k:Int)+1)=(k:Int)+1:=by rw[wrJ]
   refine af.of (λh=>?_) (λh=>?_)
   ·rw[beq_iff_eq]at h;rw[if_pos ⟨D,h⟩]at e;exact⟨by rw[E,e],ae q G q.size⟩
   ·rw[beq_eq_false_iff_ne]at h;rw[if_neg (λI=>h I.2)]at e;exact⟨12-(k+1),by omega,k+1,by omega,by rw[E];omega,rfl,e,ae q G q.size⟩
def xL (i:Nat)(s:lU):Option lU:=if i=0 then some s else if s.head?=some 58 then some (s.drop 1)else none
def CT (i:Nat)(s:lU):Option (Int×lU):=(xL i s).bind λt=>if 1 <=(eN t).length/\(eN t).length <=2 then some (fg (eN t),t.drop (eN t).length)else none
def df:Nat->Nat->lU->Option (List Int)
 |0,_,_=>some []
 |f+1,i,s=>(CT i s).bind λp=>(df f (i+1) p.2).map (p.1:: ·)
def gg (s:lU):Option (List Int):=df 3 0 s
theorem Rf (s:lU):Lib.hasPrefix s [58]=decide (s.head?=some 58)/\(s.head?=some 58->Lib.trimPrefix s [58]=s.drop 1):=by
 cases s with
 |nil=>exact⟨by decide,λh=>by cases h⟩
 |cons c s=>
  have e:Lib.hasPrefix (58::s) [58]=true:=rfl;by_cases h:c=58
  ·subst h;refine⟨by rw[e];simp,λ_=>?_⟩;unfold Lib.trimPrefix;rw[e];rfl
  ·have D:Lib.hasPrefix (c::s) [58]=false:=by
    show((58==c)&&_)=false;rw[beq_eq_false_iff_ne.2 (Ne.symm h)];rfl
   refine⟨by rw[D];simp[h],λq=>absurd (by simpa using q) h⟩
theorem IZ (l:List Int):∀c∈(Value.agg (l.map λn=>vI n).toArray).cells.toList,c.oneCell'=true:=by
 intro c e;obtain⟨n,_,rfl⟩:∃n,n∈l/\vI n=c:=by simpa[Value.cells]using e
 rfl
theorem La (s:lU)(w:World):Cf cN #[vS s,vS [58]] w (Ret λv w'=>v=.tuple #[vS (if s.head?=some 58 then s.drop 1 else s),.bool (decide (s.head?=some 58))]/\w'=w):=by
 refine(Tryz.strings_CutPrefix (mkS s) (mkS [58]) w).mono ?_;rintro _ _ ⟨rfl,rfl⟩;refine⟨_,rfl,?_,rfl⟩;have h:=Rf s;have q:(mkS s).data.toList=s:=rfl;have D:(mkS [58]).data.toList=[58]:=rfl;rw[q,D,h.1];by_cases e:s.head?=some 58
 ·rw[if_pos e,h.2 e];rfl
 ·rw[if_neg e];have:Lib.trimPrefix s [58]=s:=by unfold Lib.trimPrefix;rw[if_neg (by rw[h.1];simpa using e)]
  rw[this];rfl
def DD (l:List Int):List Value:=l.map λn=>vI n
def Dt (s:lU)(w:World)(v:Value)(w':World):Prop:=
 (∃a b c b',v=.tuple #[.agg #[vI a,vI b,vI c],.bool b']/\(gg s=none/\b'=false\/gg s=some [a,b,c]/\b'=true))/\bW w w'
theorem three {α:Type}{l:List α}(h:l.length=3):∃a b c,l=[a,b,c]:=by
 match l,h with
 |[a,b,c],_=>exact⟨a,b,c,rfl⟩
theorem K5 {w w':World}{out us:List Int}{K:Value->World->Prop}{bo:Bool}(V:au w' n bG (DD us))(Y:au w' m bG (DD out))(aj:out.length=3)(an:us.length=3)
 (q:bW w w') (ag:w.heap.size <=n)
 (Z:∀a b c wx,out=[a,b,c]->bW w wx->K (.tuple #[.agg #[vI a,vI b,vI c],.bool bo]) wx):
 ∃(G:Int) (H:Int) (I:Int),(Instr.loadAt bG (.pointer (some ⟨m,0,none⟩))).run prog w'=.ok (.agg #[vI G,vI H,vI I]) w'/\
  ∃(wx:World),(Instr.storeAt bG (.pointer (some ⟨n,0,none⟩)) (.agg #[vI G,vI H,vI I])).run prog w'=.ok () wx/\
  ∃(M:Int) (O:Int) (U:Int),(aS bG (.pointer (some ⟨n,0,none⟩))).run prog wx=.ok (.agg #[vI M,vI O,vI U]) wx/\
  K (.tuple #[.agg #[vI M,vI O,vI U],.bool bo]) wx:=by
 obtain⟨a,b,c,rfl⟩:=three aj;obtain⟨d,e,f,rfl⟩:=three an;obtain⟨ar,E,D,_,_⟩:=mT.info;refine⟨a,b,c,Y.loadA xv rfl E (us:=DD [a,b,c]) (i:=0) (by rw[D];rfl) (λj ad=>by rw[Nat.zero_add]),?_⟩;obtain⟨wx,al,X,ac⟩:=V.store (P:=prog) mT (i:=0) (v:=.agg #[vI a,vI b,vI c]) rfl (by simp[DD]) (IZ [a,b,c]);refine⟨wx,al,a,b,c,?_,Z a b c wx rfl (q.grown ac q.size (λx e=>by cases e;exact ag))⟩;exact au.res (au.loadA xv rfl E X (us:=DD [a,b,c]) (i:=0) (by rw[D];rfl) (λj ad=>by simp[DD,Value.cells]))
theorem Ez (n:Int):∀c∈(vI n).cells.toList,c.oneCell'=true:=by
 intro c e;have:c=vI n:=by simpa[Value.cells]using e
 subst this;rfl
theorem Ja (s:lU)(ca:s.length <=9223372036854775000)(w:World):Cf rF #[vS s] w (Ret (Dt s w)):=by
 apply G6;intro k2 w2 b2 Y k4 w4 b3 a8;have aj:bW w w2:=Y▸ao _ _;have al:bW w2 w4:=a8▸ao _ _;have bj:bW w w4:=ae aj al aj.size;have bk:au w4 k2 bG (DD [0,0,0]):=(au.new (vs:=DD [0,0,0]) b2 Y).below al;have bq:au w4 k4 bG (DD [0,0,0]):=au.new b3 a8;have cb:w2.heap.size=w.heap.size+1:=by rw[Y];simp
 have b4:k2≠k4:=by omega
 have a0:w.heap.size <=k2:=by omega
 have b1:w.heap.size <=k4:=by omega
 refine⟨λm t i w'=>∃(k:Nat) (out:List Int),k <=3/\i=(k:Int)/\m=3-k/\out.length=3/\t.length <=s.length/\gg s=(df (3-k) k t).map (out.take k++ ·)/\
  au w' k2 bG (DD [0,0,0])/\au w' k4 bG (DD out)/\bW w w',
  ⟨_,0,[0,0,0],by omega,rfl,rfl,rfl,Nat.le_refl _,by unfold gg;cases df 3 0 s<;>rfl,bk,bq,bj⟩,?_⟩
 intro m t i;refine aQ.of ?_ _;rintro I ⟨k,out,b9,rfl,rfl,M,b6,H,E,G,q⟩;refine af.of (λh=>?_) (λh=>?_)<;>simp only[dTx,dFx]at h
 ·have bc:3-k=(3-(k+1))+1:=by omega
  rw[bc]at H;unfold df at H;have Z:∀{w':World},CT k t=none->au w' k2 bG (DD [0,0,0])->au w' k4 bG (DD out)->bW w w'->_:=fun{w'} b0 E G q=>
   K5 (K:=Dt s w) (bo:=false) E G M rfl q a0 (λa b c b8 _ X=>⟨⟨a,b,c,false,rfl,.inl ⟨by rw[H,b0];rfl,rfl⟩⟩,X⟩)
  refine⟨λu w'=>w'=I/\xL k t=some u/\u.length <=s.length,?_,?_⟩
  ·refine af.of (λag=>?_) (λag=>?_)<;>simp only[gt_iff_lt,dTx,dFx]at ag
   ·refine aA (La t I) ?_;rintro _ I ⟨rfl,rfl⟩;refine⟨_,_,rfl,?_⟩;refine af.of (λe=>?_) (λe=>?_)<;>simp only[Bool.not_eq_true',Bool.not_eq_false',dTx,dFx]at e
    ·exact Z (by unfold CT xL;rw[if_neg (by omega),if_neg e];rfl) E G q
    ·exact⟨rfl,by unfold xL;rw[if_neg (by omega),if_pos e,if_pos e],by rw[if_pos e];simp;omega⟩
   ·exact⟨rfl,by unfold xL;rw[if_pos (by omega)],b6⟩
  ·intro u;refine aQ.of ?_ _;rintro I ⟨rfl,bs,cc⟩;have O:CT k t=if 1 <=(eN u).length/\(eN u).length <=2 then some (fg (eN u),u.drop (eN u).length)else none:=by unfold CT;rw[bs];rfl
   refine aA (nT u 1 2 (by omega) (by omega) (by omega) I) ?_;rintro _ ce ⟨rfl,V⟩;have ac:=E.below V;have ad:=G.below V;have U:=ae q V q.size;unfold SN;by_cases an:1 <=(eN u).length/\(eN u).length <=2
   ·rw[if_pos (by omega)];rw[if_pos an]at O;refine⟨_,_,_,rfl,af.no rfl ?_⟩;refine⟨⟨⟨by omega,by omega⟩,rfl⟩,?_⟩;rw[j3,Nat.zero_add,Nat.mul_one,Int.toNat_natCast];obtain⟨b7,b5,e,ar⟩:=ad.store (P:=prog) (n:=1) (bytes:=8) (z:=vI 0) fR (i:=k) (v:=vI (fg (eN u))) rfl (by simp[DD,M];omega) (Ez _);refine⟨b7,b5,3-(k+1),by omega,k+1,out.set k (fg (eN u)),by omega,?_,rfl,by simpa using M,by simp;omega,?_,ac.grown ar (λD=>b4 (Option.some.inj D)),?_,U.grown ar U.size (λx D=>by cases D;exact b1)⟩
    ·rw[wrJ];omega
    ·rw[H,O];have a9:(out.set k (fg (eN u))).take (k+1)=out.take k++[fg (eN u)]:=by
      rw[take_succ_eq_append_getElem (by simp;omega),List.getElem_set_self,List.take_set_of_le (Nat.le_refl _)]
     rw[a9];show((df (3-(k+1)) (k+1) (u.drop (eN u).length)).map _).map _=_;rw[Option.map_map];congr 1;funext x;simp
    ·have bb:DD (out.set k (fg (eN u)))=(DD out).take k++[vI (fg (eN u))]++(DD out).drop (k+1):=by
      unfold DD;rw[List.map_set,List.set_eq_take_append_cons_drop,if_pos (by simp;omega)];simp
     rw[bb];exact e
   ·rw[if_neg (by omega)];rw[if_neg an]at O;refine⟨_,_,_,rfl,af.yes rfl ?_⟩;exact Z O ac ad U
 ·have:k=3:=by omega
  subst this;exact K5 (K:=Dt s w) (bo:=true) E G M rfl q a0 (λa b c b8 D X=>⟨⟨a,b,c,true,rfl,.inr ⟨by rw[H,D];rfl,rfl⟩⟩,X⟩)
structure Fnd where
 time:Bool
 day:Bool
 month:Bool
 year:Bool
 s0:Int
 s1:Int
 s2:Int
 y:Int
 m:Int
 d:Int
def Fnd.cells (f:Fnd):List Value:=[.bool f.time,.bool f.day,.bool f.month,.bool f.year,vI f.s0,vI f.s1,vI f.s2,vI f.y,vI f.m,vI f.d]
def gZ (s:lU)(least most:Int):Bool:=decide (least <=((eN s).length:Int)/\((eN s).length:Int) <=most)
def xu (f:Fnd)(s:lU):Fnd:=
 match gg s,f.time with
 |some [a,b,c],false=> { f with s0:=a,s1:=b,s2:=c,time:=true }
 |_,_=>if gZ s 1 2=true/\f.day=false then{ f with d:=fg (eN s),day:=true }
  else if 0<jj s/\f.month=false then{ f with m:=jj s,month:=true }
  else if gZ s 2 4=true/\f.year=false then{ f with y:=fg (eN s),year:=true } else f
theorem PT (w:World)(r:Option Nat):w.grownBy w r:=⟨rfl,rfl,rfl,Nat.le_refl _,λ_ _ _=>rfl⟩
theorem cg {a b c:World}{r:Option Nat}(h:a.grownBy b r)(k:b.grownBy c r):a.grownBy c r:=
 ⟨k.os.trans h.os,k.tape.trans h.tape,k.output.trans h.output,Nat.le_trans h.size k.size,λD q e=>(k.block D (Nat.lt_of_lt_of_le q h.size) e).trans (h.block D q e)⟩
theorem dM {a b:World}(h:bW a b)(r:Option Nat):a.grownBy b r:=⟨h.os,h.tape,h.output,h.size,λq e _=>h.block q e⟩
theorem zR (k o:Nat):Option.map (fun(x:Addr)=>x.add o) (some ⟨k,0,none⟩)=some ⟨k,o,none⟩:=by
 simp[fu]
theorem CY (b:Bool):∀c∈(Value.bool b).cells.toList,c.oneCell'=true:=by
 intro c e;have:c=.bool b:=by simpa[Value.cells]using e
 subst this;rfl
def Wa (k:Nat)(f:Fnd)(s:lU)(w:World)(v:Value)(w':World):Prop:=v=.tuple #[]/\au w' k dC (xu f s).cells/\w.grownBy w' (some k)
theorem SO {l m:Int}(h:gZ s l m=true):SN s l m=.tuple #[vI (fg (eN s)),vS (s.drop (eN s).length),.bool true]:=by
 unfold gZ at h;unfold SN;rw[if_pos (by simpa using h)]
theorem O1 {l m:Int}(h:gZ s l m=false):SN s l m=.tuple #[vI 0,vS s,.bool false]:=by
 unfold gZ at h;unfold SN;rw[if_neg (by simpa using h)]
theorem FV {f:Fnd}{a b c:Int}(h:gg s=some [a,b,c])(e:f.time=false):xu f s= { f with s0:=a,s1:=b,s2:=c,time:=true } :=by
 unfold xu;rw[h,e]
theorem MB {f:Fnd}(h:gg s=none\/f.time=true):xu f s=if gZ s 1 2=true/\f.day=false then{ f with d:=fg (eN s),day:=true }
 else if 0<jj s/\f.month=false then{ f with m:=jj s,month:=true }
 else if gZ s 2 4=true/\f.year=false then{ f with y:=fg (eN s),year:=true } else f:=by
 unfold xu;rcases h with h|h
 ·rw[h]
 ·rw[h];split
  ·rename_i h1 e;cases e
  ·rfl
theorem Jd (k:Nat)(f:Fnd)(s:lU)(cl:s.length <=9223372036854775000)(w:World)(b3:au w k dC f.cells):
 Cf jt #[.pointer (some ⟨k,0,none⟩),vS s] w (Ret (Wa k f s w)):=by
 apply uE;simp only[zR];have e:Option.isSome (some (⟨k,0,none⟩:Addr))=true:=rfl;obtain⟨c0,cr,cp,_,_⟩:=mT.info;refine⟨λw'=>w.grownBy w' (some k)/\au w' k dC f.cells/\(gg s=none\/f.time=true),?_,?_⟩
 ·refine aA (Ja s cl w) ?_;rintro _ b6 ⟨⟨a,b,c,bo,rfl,b2⟩,ag⟩;refine⟨a,b,c,bo,rfl,?_⟩;intro bk w4 cf b5;have bq:bW w w4:=ae ag (b5▸ao _ _) ag.size;have b7:au w4 bk bG (DD [0,0,0]):=au.new cf b5;have cu:=b3.lt;have an:bk≠k:=by have:=ag.size;omega
  obtain⟨w5,cn,b8,ce⟩:=b7.store (P:=prog) mT (i:=0) (v:=.agg #[vI a,vI b,vI c]) rfl (by simp[DD]) (IZ [a,b,c]);have a8:bW w w5:=bq.grown ce bq.size (λx q=>by cases q;have:=ag.size;omega);have bb:=b3.below a8;have b9:au w5 bk bG (DD [a,b,c]):=by simpa[DD,Value.cells]using b8
  refine⟨w5,cn,λD w'=>w'=w5/\D=(bo && !f.time),?_,?_⟩
  ·refine af.of (λh=>?_) (λh=>?_)
   ·refine⟨e,e,f.time,bb.load1 bK rfl rfl,rfl,by rw[h];rfl⟩
   ·exact⟨rfl,by rw[h];rfl⟩
  ·intro D;refine aQ.of ?_ _;rintro w5 ⟨rfl,rfl⟩;refine af.of (λh=>?_) (λh=>?_)
   ·rw[Bool.and_eq_true,Bool.not_eq_true']at h;have ca:gg s=some [a,b,c]:=by
     rcases b2 with⟨_,q⟩|⟨q,_⟩
     ·rw[q]at h;cases h.1
     ·exact q
    refine⟨a,b,c,b9.loadA xv rfl cr (us:=DD [a,b,c]) (i:=0) (by rw[cp];rfl) (λj ct=>by rw[Nat.zero_add]),e,e,?_⟩;obtain⟨V,O,G,I⟩:=bb.store (P:=prog) mT (i:=4) (v:=.agg #[vI a,vI b,vI c]) rfl (by simp[Fnd.cells]) (IZ [a,b,c]);refine⟨V,O,e,e,?_⟩;obtain⟨X,U,H,M⟩:=G.store (P:=prog) jP (i:=0) (v:=.bool true) rfl (by simp[Fnd.cells,Value.cells]) (CY true);refine⟨X,U,rfl,?_,cg (cg (dM a8 _) I) M⟩;rw[FV ca h.2];simpa[Fnd.cells,Value.cells]using H
   ·refine⟨dM a8 _,bb,?_⟩;rcases b2 with⟨q,_⟩|⟨_,q⟩
    ·exact .inl q
    ·rw[q]at h;right;simpa using h
 ·refine aQ.of ?_ _;rintro b6 ⟨cc,cb,ch⟩;have Y:=MB ch;refine⟨λw'=>w.grownBy w' (some k)/\au w' k dC f.cells/\ ¬ (gZ s 1 2=true/\f.day=false),?_,?_⟩
  ·refine aA (nT s 1 2 (by omega) (by omega) (by omega) b6) ?_;rintro _ ar ⟨rfl,bs⟩;have Z:=cb.below bs;have aj:=cg cc (dM bs (some k));have bc:∃(n:Int) (r:lU),SN s 1 2=.tuple #[vI n,vS r,.bool (gZ s 1 2)]/\(gZ s 1 2=true->n=fg (eN s)):=by
    cases ad:gZ s 1 2
    ·exact⟨_,_,O1 ad,λq=>by cases q⟩
    ·exact⟨_,_,SO ad,λ_=>rfl⟩
   obtain⟨n,r,an,bj⟩:=bc;refine⟨n,r,gZ s 1 2,by rw[an],λD w'=>w'=ar/\D=(gZ s 1 2 && !f.day),?_,?_⟩
   ·refine af.of (λh=>?_) (λh=>?_)
    ·exact⟨e,e,f.day,Z.load1 bK rfl rfl,rfl,by rw[h];rfl⟩
    ·exact⟨rfl,by rw[h];rfl⟩
   ·intro D;refine aQ.of ?_ _;rintro ar ⟨rfl,rfl⟩;refine af.of (λh=>?_) (λh=>?_)
    ·rw[Bool.and_eq_true,Bool.not_eq_true']at h;refine⟨e,e,?_⟩;obtain⟨V,O,G,I⟩:=Z.store (P:=prog) fR (i:=9) (v:=vI n) rfl (by simp[Fnd.cells]) (Ez n);refine⟨V,O,e,e,?_⟩;obtain⟨X,U,H,M⟩:=G.store (P:=prog) jP (i:=1) (v:=.bool true) rfl (by simp[Fnd.cells,Value.cells]) (CY true);refine⟨X,U,rfl,?_,cg (cg aj I) M⟩;rw[Y,if_pos h,<- bj h.1];simpa[Fnd.cells,Value.cells]using H
    ·refine⟨aj,Z,λE=>?_⟩;rw[E.1,E.2]at h;cases h
  ·refine aQ.of ?_ _;rintro ar ⟨aj,Z,cj⟩;rw[if_neg cj]at Y;refine⟨λw'=>w.grownBy w' (some k)/\au w' k dC f.cells/\ ¬ (0<jj s/\f.month=false),?_,?_⟩
   ·refine aA (Jb s (by omega) ar) ?_;rintro _ a0 ⟨rfl,b0⟩;have ac:=Z.below b0;have al:=cg aj (dM b0 (some k));refine⟨_,rfl,λD w'=>w'=a0/\D=(decide (0<jj s) && !f.month),?_,?_⟩
    ·refine af.of (λh=>?_) (λh=>?_)
     ·exact⟨e,e,f.month,ac.load1 bK rfl rfl,rfl,by rw[show decide (0<jj s)=true from h];rfl⟩
     ·exact⟨rfl,by rw[show decide (0<jj s)=false from h];rfl⟩
    ·intro D;refine aQ.of ?_ _;rintro a0 ⟨rfl,rfl⟩;refine af.of (λh=>?_) (λh=>?_)
     ·rw[Bool.and_eq_true,Bool.not_eq_true',dTx]at h;refine⟨e,e,?_⟩;obtain⟨V,O,G,I⟩:=ac.store (P:=prog) fR (i:=8) (v:=vI (jj s)) rfl (by simp[Fnd.cells]) (Ez _);refine⟨V,O,e,e,?_⟩;obtain⟨X,U,H,M⟩:=G.store (P:=prog) jP (i:=2) (v:=.bool true) rfl (by simp[Fnd.cells,Value.cells]) (CY true);refine⟨X,U,rfl,?_,cg (cg al I) M⟩;rw[Y,if_pos h];simpa[Fnd.cells,Value.cells]using H
     ·refine⟨al,ac,λE=>?_⟩;rw[decide_eq_true E.1,E.2]at h;cases h
   ·refine aQ.of ?_ _;rintro a0 ⟨al,ac,ck⟩;rw[if_neg ck]at Y;refine aA (nT s 2 4 (by omega) (by omega) (by omega) a0) ?_;rintro _ w4 ⟨rfl,b1⟩;have a9:=ac.below b1;have b4:=cg al (dM b1 (some k));have bc:∃(n:Int) (r:lU),SN s 2 4=.tuple #[vI n,vS r,.bool (gZ s 2 4)]/\(gZ s 2 4=true->n=fg (eN s)):=by
     cases ad:gZ s 2 4
     ·exact⟨_,_,O1 ad,λq=>by cases q⟩
     ·exact⟨_,_,SO ad,λ_=>rfl⟩
    obtain⟨n,r,an,bj⟩:=bc;refine⟨n,r,gZ s 2 4,by rw[an],λD w'=>w'=w4/\D=(gZ s 2 4 && !f.year),?_,?_⟩
    ·refine af.of (λh=>?_) (λh=>?_)
     ·exact⟨e,e,f.year,a9.load1 bK rfl rfl,rfl,by rw[h];rfl⟩
     ·exact⟨rfl,by rw[h];rfl⟩
    ·intro D;refine aQ.of ?_ _;rintro w4 ⟨rfl,rfl⟩;refine af.of (λh=>?_) (λh=>?_)
     ·rw[Bool.and_eq_true,Bool.not_eq_true']at h;refine⟨e,e,?_⟩;obtain⟨V,O,G,I⟩:=a9.store (P:=prog) fR (i:=7) (v:=vI n) rfl (by simp[Fnd.cells]) (Ez n);refine⟨V,O,e,e,?_⟩;obtain⟨X,U,H,M⟩:=G.store (P:=prog) jP (i:=3) (v:=.bool true) rfl (by simp[Fnd.cells,Value.cells]) (CY true);refine⟨X,U,rfl,?_,cg (cg b4 I) M⟩;rw[Y,if_pos h,<- bj h.1];simpa[Fnd.cells,Value.cells]using H
     ·refine⟨rfl,?_,b4⟩;rw[Y,if_neg (λE=>by rw[E.1,E.2]at h;cases h)];exact a9
def jF (c:UInt8):Bool:=decide (A6 (c.toNat:Int))
def CZ:lU->lU->List lU
 |cur,[]=>[cur]
 |cur,c::r=>if jF c then cur::CZ [] r else CZ (cur++[c]) r
def QH:Fnd:=⟨false,false,false,false,0,0,0,0,0,0⟩
def kN (s:lU):Fnd:=(CZ [] s).foldl xu QH
def jC (y:Int):Int:=if 70 <=y/\y <=99 then y+1900 else if y<70 then y+2000 else y
def uy (f:Fnd):Prop:=cQ (jC f.y) f.m f.d/\f.time=true/\f.year=true/\f.s0 <=23/\f.s1 <=59/\f.s2 <=59
instance  (f:Fnd):Decidable (uy f):=by unfold uy;infer_instance
def iv (f:Fnd):Int:=cZ (jC f.y) f.m f.d*86400+f.s0*3600+f.s1*60+f.s2
def zV (f:Fnd):Value:=if uy f then .tuple #[vI (iv f),.bool true]else .tuple #[vI 0,.bool false]
structure Gn (f:Fnd):Prop where
 s0:0 <=f.s0/\f.s0 <=99
 s1:0 <=f.s1/\f.s1 <=99
 s2:0 <=f.s2/\f.s2 <=99
 y:0 <=f.y/\f.y <=9999
 d:0 <=f.d/\f.d <=99
 m:0 <=f.m/\f.m <=12
 m0:f.month=false↔f.m=0
 d0:f.day=false->f.d=0
 y0:f.year=false->f.y=0
theorem ib:∀(l:lU) (e:Int),0 <=e->(∀c∈l,eO c=true)->0 <=l.foldl (λn c=>n*10+((c.toNat:Int)-48)) e/\l.foldl (λn c=>n*10+((c.toNat:Int)-48)) e<(e+1)*10 ^ l.length
 |[],e,h,_=>by simp;omega
 |c::l,e,h,q=>by
  have G:=iH.1 (q c mem_cons_self);obtain⟨h1,D⟩:=ib l (e*10+((c.toNat:Int)-48)) (by omega) λx E=>q x (mem_cons_of_mem _ E);rw[foldl_cons];refine⟨h1,Int.lt_of_lt_of_le D ?_⟩;rw[length_cons,Int.pow_succ,Int.mul_comm (10 ^ l.length) 10,<- Int.mul_assoc];exact Int.mul_le_mul_of_nonneg_right (by omega) (Int.pow_nonneg (by decide))
theorem De {a b:Nat}(h:a <=b):(10:Int) ^ a <=10 ^ b:=by
 have:=Nat.pow_le_pow_right (n:=10) (by decide) h;have e:∀k:Nat,((10 ^ k:Nat):Int)=10 ^ k:=λk=>by simp
 rw[<- e,<- e];omega
theorem Na (k:Nat)(h:(eN s).length <=k):0 <=fg (eN s)/\fg (eN s)<10 ^ k:=by
 obtain⟨h1,e⟩:=ib (eN s) 0 (by decide) xN;refine⟨h1,Int.lt_of_lt_of_le e ?_⟩;rw[Int.zero_add,Int.one_mul];exact De h
theorem nu:∀(f i:Nat) (s:lU) (l:List Int),df f i s=some l->l.length=f/\∀x∈l,0 <=x/\x <=99
 |0,i,s,l,h=>by simp[df]at h;subst h;simp
 |f+1,i,s,l,h=>by
  unfold df at h;cases e:CT i s with
  |none=>rw[e]at h;cases h
  |some p=>
   rw[e]at h;simp only[Option.bind_some]at h;cases q:df f (i+1) p.2 with
   |none=>rw[q]at h;cases h
   |some r=>
    rw[q]at h;simp only[map_some,Option.some.injEq]at h;subst h;obtain⟨h1,G⟩:=nu f (i+1) p.2 r q;refine⟨by simp[h1],λx D=>?_⟩;rcases List.mem_cons.1 D with rfl|D
    ·unfold CT at e;cases E:xL i s with
     |none=>rw[E]at e;cases e
     |some t=>
      rw[E]at e;simp only[Option.bind_some]at e;split at e
      ·rename_i H;simp only[Option.some.injEq]at e;subst e;have:=Na 2 H.2;simp only;omega
      ·cases e
    ·exact G x D
theorem A3 (s:lU):∀(f k:Nat),0 <=gk s f k/\gk s f k <=(k:Int)+f
 |0,k=>by simp[gk]
 |f+1,k=>by
  unfold gk;have:=A3 s f (k+1);split<;>omega
theorem mj (f:Fnd)(s:lU):(∃a b c,gg s=some [a,b,c]/\f.time=false/\xu f s= { f with s0:=a,s1:=b,s2:=c,time:=true })\/
 (gg s=none\/f.time=true)/\xu f s=if gZ s 1 2=true/\f.day=false then{ f with d:=fg (eN s),day:=true }
 else if 0<jj s/\f.month=false then{ f with m:=jj s,month:=true }
 else if gZ s 2 4=true/\f.year=false then{ f with y:=fg (eN s),year:=true } else f:=by
 cases e:gg s with
 |none=>right;refine⟨.inl rfl,?_⟩;unfold xu;rw[e]
 |some l=>
  obtain⟨D,_⟩:=nu 3 0 s l e
  match l,D with
  |[a,b,c],_=>
   cases q:f.time with
   |false=>left;refine⟨a,b,c,rfl,rfl,?_⟩;unfold xu;rw[e,q]
   |true=>
    right;refine⟨.inr rfl,?_⟩;unfold xu;rw[e,q]
theorem TM {f:Fnd}(h:Gn f)(s:lU):Gn (xu f s):=by
 rcases mj f s with⟨a,b,c,G,H,e⟩|⟨_,e⟩
 ·rw[e];obtain⟨_,D⟩:=nu 3 0 s _ G;exact⟨D a (by simp),D b (by simp),D c (by simp),h.y,h.d,h.m,h.m0,h.d0,h.y0⟩
 ·rw[e];split
  ·rename_i h1;have q:(eN s).length <=2:=by have:=h1.1;unfold gZ at this;simp at this;omega
   have:=Na 2 q;exact⟨h.s0,h.s1,h.s2,h.y,⟨this.1,by simp only;omega⟩,h.m,h.m0,(λe=>by cases e),h.y0⟩
  ·split
   ·rename_i h1;have:=A3 s 12 0;have E:=h1.1;unfold jj at E ⊢;refine⟨h.s0,h.s1,h.s2,h.y,h.d,⟨by simp only;omega,by simp only;omega⟩,⟨(λe=>by cases e),λe=>?_⟩,h.d0,h.y0⟩;simp only at e;omega
   ·split
    ·rename_i h1;have q:(eN s).length <=4:=by have:=h1.1;unfold gZ at this;simp at this;omega
     have:=Na 4 q;exact⟨h.s0,h.s1,h.s2,⟨this.1,by simp only;omega⟩,h.d,h.m,h.m0,h.d0,λe=>by cases e⟩
    ·exact h
theorem Nl:Gn QH:=⟨by decide,by decide,by decide,by decide,by decide,by decide,by decide,by decide,by decide⟩
theorem N6:∀(l:List lU) {f:Fnd},Gn f->Gn (l.foldl xu f)
 |[],f,h=>h
 |s::l,f,h=>N6 l (TM h s)
theorem Pq (f:Fnd):xu f []=f:=by
 rcases mj f []with⟨a,b,c,hc,_⟩|⟨_,e⟩
 ·have:gg []=none:=by decide
  rw[this]at hc;cases hc
 ·rw[e,if_neg (λh=>by have:gZ [] 1 2=false:=(by decide);rw[this]at h;cases h.1),
   if_neg (λh=>by have:jj []=0:=(by decide);rw[this]at h;exact absurd h.1 (by decide)),
   if_neg (λh=>by have:gZ [] 2 4=false:=(by decide);rw[this]at h;cases h.1)]
theorem I8:∀(s cur x:lU),x∈CZ cur s->x.length <=cur.length+s.length
 |[],cur,x,h=>by simp[CZ]at h;subst h;simp
 |c::r,cur,x,h=>by
  unfold CZ at h;split at h
  ·rcases List.mem_cons.1 h with rfl|h
   ·simp
   ·have:=I8 r [] x h;simp at this ⊢;omega
  ·have:=I8 r _ x h;simp at this ⊢;omega
theorem K7 {f:Fnd}(h:cQ (jC f.y) f.m f.d): -134774 <=cZ (jC f.y) f.m f.d/\cZ (jC f.y) f.m f.d <=2932896:=by
 have U:=Ox h;obtain⟨h1,G,H,I,M,O⟩:=h;have e:=pB (a:=1601) (b:=jC f.y) (by omega) h1;have q:=pB (a:=jC f.y+1) (b:=10000) (by omega) (by omega);have D:dY 1601=584388:=by decide
 have E:dY 10000=3652059:=by decide
 omega
theorem Q8 {n:Int}(h1: -134774 <=n)(e:n <=2932896):∃y m d,cQ y m d/\cZ y m d=n:=by
 have h:=I3 h1 e _ _ _ _ _ _ rfl rfl rfl rfl rfl rfl;exact⟨_,_,_,h.2.2.2.2.2.2.2.2.2.2.2.2⟩
def Nd (n:Int):UInt8:=UInt8.ofNat (48+n.toNat%10)
def fy (n:Int):lU:=[Nd (n/10),Nd n]
def Vw:List lU:=[[84,104,117],[70,114,105],[83,97,116],[83,117,110],[77,111,110],[84,117,101],[87,101,100]]
def U2:List lU:=[[74,97,110],[70,101,98],[77,97,114],[65,112,114],[77,97,121],[74,117,110],[74,117,108],[65,117,103],[83,101,112],[79,99,116],[78,111,118],[68,101,99]]
def tQ (k:Int):lU:=Vw[k.toNat]?.getD []
def GJ (m:Int):lU:=U2[(m-1).toNat]?.getD []
def mr (s:Int):lU:=fy (s/3600)++[58]++fy (s/60%60)++[58]++fy (s%60)
def AE (n y m d s:Int):lU:=tQ (n%7)++[44,32]++fy d++[32]++GJ m++[32]++(fy (y/100)++fy (y%100))++[32]++mr s++[32,71,77,84]
open Classical in
noncomputable def iY (t:Int):lU:=if h:∃p:Int×Int×Int,cQ p.1 p.2.1 p.2.2/\cZ p.1 p.2.1 p.2.2=t/86400 then
 AE (t/86400) (Classical.choose h).1 (Classical.choose h).2.1 (Classical.choose h).2.2 (t%86400)else[]
theorem Dk {t y m d:Int}(h:cQ y m d)(e:cZ y m d=t/86400):iY t=AE (t/86400) y m d (t%86400):=by
 have q:∃p:Int×Int×Int,cQ p.1 p.2.1 p.2.2/\cZ p.1 p.2.1 p.2.2=t/86400:=⟨(y,m,d),h,e⟩
 unfold iY;rw[dif_pos q];obtain⟨h1,H⟩:=Classical.choose_spec q;obtain⟨D,E,G⟩:=Oy h1 h (H.trans e.symm);rw[D,E,G]
theorem AF {t:Int}(h:t/86400 < -134774\/2932896<t/86400):iY t=[]:=by
 unfold iY;rw[dif_neg];rintro⟨p,h1,h2⟩;have:=DT h1;omega
theorem LA:∀n,n<100->10 <=n->Lib.decDigits n=fy (n:Int):=by decide+kernel
theorem Sc:∀n,n<10->(48:UInt8)::Lib.decDigits n=fy (n:Int):=by decide+kernel
theorem Ur:∀n,n<10->(Lib.decDigits n).length=1:=by decide+kernel
theorem OB (u:Nat)(h:10 <=u):Lib.decDigits u=Lib.decDigits (u/10)++[UInt8.ofNat (48+u%10)]:=by
 rw[Lib.decDigits,dif_neg (by omega)]
theorem Zj {y:Int}(h1:1000 <=y)(D:y <=9999):Lib.itoa y=fy (y/100)++fy (y%100):=by
 obtain⟨n,rfl⟩:∃n:Nat,y=(n:Int):=⟨y.toNat,by omega⟩
 rw[Lib.itoa_nonneg,OB n (by omega),OB (n/10) (by omega),show n/10/10=n/100 by omega,LA (n/100) (by omega) (by omega)];unfold fy Nd;rw[show(((n/100:Nat):Int))=(n:Int)/100 by omega];have e:((n:Int)%100/10).toNat%10=n/10%10:=by omega
 have q:((n:Int)%100).toNat%10=n%10:=by omega
 rw[e,q];rfl
theorem bD (n:Int):(fy n).length=2:=rfl
theorem nU (n:Int):eO (Nd n)=true/\((Nd n).toNat:Int)=48+n.toNat%10:=by
 have h:(Nd n).toNat=48+n.toNat%10:=by
  unfold Nd;rw[UInt8.toNat_ofNat'];omega
 exact⟨iH.2 (by omega),by omega⟩
theorem Vj {P:Program}{name:String}{k:IntKind}{zs:List Int}{w w':World}(h:Lib.TabIs P w name k zs)(D:∀b,b<w.heap.size->P.globalNamed name=some b->w'.heap[b]? =w.heap[b]?):Lib.TabIs P w' name k zs:=by
 unfold Lib.TabIs World.var? at h ⊢;cases e:P.globalNamed name with
 |none=>rw[e]at h;cases h
 |some g=>
  rw[e]at h;simp only[Option.bind_some]at h ⊢;have E:g<w.heap.size:=by
   cases q:w.heap[g]? with
   |none=>rw[q]at h;cases h
   |some o=>exact(Array.getElem?_eq_some_iff.1 q).1
  rw[D g E e];exact h
theorem Pi {P:Program}{name:String}{k:IntKind}{zs:List Int}{w w':World}(h:Lib.TabIs P w name k zs)(e:bW w w'):Lib.TabIs P w' name k zs:=
 Vj h λb q _=>e.block b q
theorem Rl (h:k<s.length):eO s[k]=true↔48 <=be s (k:Int)/\be s (k:Int) <=57:=by
 rw[mi (i:=(k:Int)) (by simpa using h),iH];simp only[Int.toNat_natCast];omega
theorem DV (l:lU)(c:UInt8):fg (l++[c])=fg l*10+((c.toNat:Int)-48):=by unfold fg;rw[foldl_append];rfl
theorem su (s:lU)(U:s.length <=9223372036854775807)(w:World):Cf kl #[vS s] w (Ret λv w'=>v=vI ((eN s).length:Nat)/\w'=w):=by
 apply CK;have H:=dF eO s;refine⟨λm i w'=>∃k:Nat,k <=(eN s).length/\i=(k:Int)/\m=s.length-k/\w'=w,⟨_,0,by omega,rfl,rfl,rfl⟩,?_⟩;intro m i;refine aQ.of ?_ _;rintro w' ⟨k,G,rfl,rfl,rfl⟩;have M:k <=s.length:=Nat.le_trans G H;refine af.of (λh=>?_) (λh=>?_)<;>simp only[dTx,dFx]at h
 ·have I:k<s.length:=by omega
  have D:=sP eO s k I G;rw[Rl I]at D;have stop: ¬ (k<(eN s).length)->(vI (k:Int):Value)=vI ((eN s).length:Nat)/\w'=w':=λO=>⟨by congr 1;omega,rfl⟩
  refine⟨⟨by omega,h⟩,af.of (λe=>?_) (λe=>?_)⟩<;>simp only[ge_iff_le,dTx,dFx]at e
  ·refine⟨⟨by omega,h⟩,af.of (λq=>?_) (λq=>?_)⟩<;>simp only[dTx,dFx]at q
   ·have:=D.1 ⟨e,q⟩;exact⟨s.length-(k+1),by omega,k+1,this,by rw[wrJ];omega,rfl,rfl⟩
   ·exact stop λE=>q (D.2 E).2
  ·exact stop λE=>e (D.2 E).1
 ·exact⟨by congr 1;have:(eN s).length <=s.length:=H;omega,rfl⟩
theorem oI (s:lU)(O:s.length <=18)(E:∀c∈s,eO c=true)(w:World):Cf jy #[vS s] w (Ret λv w'=>v=vI (fg s)/\w'=w):=by
 apply Fp;refine⟨λm n i w'=>∃k:Nat,k <=s.length/\i=(k:Int)/\n=fg (s.take k)/\m=s.length-k/\w'=w,⟨_,0,by omega,rfl,rfl,rfl,rfl⟩,?_⟩;intro m n i;refine aQ.of ?_ _;rintro w' ⟨k,I,rfl,rfl,rfl,rfl⟩;refine af.of (λh=>?_) (λh=>?_)<;>simp only[dTx,dFx]at h
 ·have e:k<s.length:=by omega
  have D:=iH.1 (E s[k] (getElem_mem e));have q:=ib (s.take k) 0 (by decide) λc D=>E c (mem_of_mem_take D);have M:(10:Int) ^ (s.take k).length <=10 ^ 17:=De (by rw[length_take];omega);have H:(10:Int) ^ 17=100000000000000000:=by decide
  have hV:(s.take k).foldl (λn c=>n*10+((c.toNat:Int)-48)) 0=fg (s.take k):=rfl;rw[hV]at q;have G:=q.2;rw[Int.zero_add,Int.one_mul]at G;rw[mi (i:=(k:Int)) (by simpa using e)];simp only[Int.toNat_natCast];refine⟨⟨by omega,h⟩,s.length-(k+1),by omega,k+1,by omega,by rw[wrJ];omega,?_,rfl,trivial⟩;rw[take_succ_eq_append_getElem e,DV,wrJ (n:=fg (s.take k)*10),wrJ (n:=((s[k].toNat:Nat):Int)),wrJ (n:=fg (s.take k)*10+((s[k].toNat:Nat):Int)),wrJ];omega
 ·have:k=s.length:=by omega
  subst this;rw[take_length];exact⟨rfl,rfl⟩
theorem co (n:Int)(q:0 <=n)(h1:n <=9999)(w:World):Cf cz #[vI n] w (Ret λv w'=>v=vS (fy n)/\bW w w'):=by
 apply Kl;refine⟨by decide,?_⟩;rintro _ rfl;refine⟨by decide,?_⟩;rintro _ rfl;refine⟨by decide,?_⟩;rintro _ rfl k I G e;rw[cD q,wrJ (n:=n/10),cY (by omega),cY q]at e;have D:=nU (n/10);have E:=nU n;rw[wrJ (n:=48+n/10%10),wrJ (n:=48+n%10),wrap_u8 (n:=48+n/10%10) (by omega) (by omega),wrap_u8 (n:=48+n%10) (by omega) (by omega)]at e;have H:Ow tU8 bp I NoB (some ⟨k,0,none⟩) 2 2 (fy n):=by
  refine Ow.newF r6 (xs:=fy n) (l:=[.int .u8 (48+n/10%10),.int .u8 (48+n%10)]) G e ?_ (show 2 <=maxLen by decide);exact gy.append (xs:=[Nd (n/10)]) (ys:=[Nd n]) (l:=[_]) (m:=[_]) (gy.one (qJ (by rw[D.2];omega))) (gy.one (qJ (by rw[E.2];omega)))
 exact⟨_,oM bX ax cE H.all,rfl,e▸ao _ _⟩
theorem iI (s:lU)(ac:s.length <=9223372036854775800)(w:World):Cf fV #[vS s] w (Ret λv w'=>v=vS (cv s)/\bW w w'):=by
 apply EZ;refine⟨λm o i w'=>∃k:Nat,k <=s.length/\i=(k:Int)/\o=cv (s.take k)/\m=s.length-k/\bW w w',⟨_,0,by omega,rfl,rfl,rfl,Below.refl _ _⟩,?_⟩;intro m o i;refine aQ.of ?_ _;rintro X ⟨k,Z,rfl,rfl,rfl,G⟩;refine af.of (λh=>?_) (λh=>?_)<;>simp only[dTx,dFx]at h
 ·have H:k<s.length:=by omega
  have e:=OW s[k];have ad:=pa s[k];rw[mi (i:=(k:Int)) (by simpa using H)];simp only[Int.toNat_natCast];refine⟨⟨by omega,h⟩,UL (w:=X) ((zP s[k]).toNat:Nat) ?_ ?_⟩
  ·refine af.of (λq=>?_) (λq=>?_)<;>simp only[ge_iff_le,dTx,dFx]at q
   ·refine af.of (λD=>?_) (λD=>?_)<;>simp only[ge_iff_le,dTx,dFx]at D
    ·rw[if_pos ⟨q,D⟩]at e;exact⟨rfl,by rw[wrap_u8 (by omega) (by omega),e]⟩
    ·rw[if_neg (λE=>D E.2)]at e;exact⟨rfl,e.symm⟩
   ·rw[if_neg (λE=>q E.1)]at e;exact⟨rfl,e.symm⟩
  ·intro V Y M I;have U:Ow tU8 bp Y NoB (some ⟨V,0,none⟩) 1 1 [zP s[k]]:=Ow.newF r6 M I (gy.one (qJ rfl)) (show 1 <=maxLen by decide);have O:(cv (s.take k)).length=k:=by simp[cv];omega
   refine⟨_,oM bX ax cE U.all,by rw[O];simp[IntKind.max,IntKind.bits];omega,?_⟩;rintro _ rfl;refine⟨s.length-(k+1),by omega,k+1,by omega,by rw[wrJ];omega,?_,rfl,ae G (I▸ao _ _) G.size⟩;unfold cv;rw[take_succ_eq_append_getElem H,map_append];rfl
 ·have:k=s.length:=by omega
  subst this;rw[take_length];exact⟨rfl,G⟩
end Go.Pk
