/- What the laws lean on: AddrF, AddrG, AddrH, AddrI, Eq, HostA, HostB, HostC, Sub, HostD; what is used. Its conditions: none. -/
import Derived.Test.YthbkoifpgkjadaaGreatDoorKD
import Derived.Lib.ItoaLen
import Derived.Laws.StructEq
set_option linter.unusedVariables false
set_option linter.unusedSimpArgs false
set_option linter.unusedSectionVars false
set_option maxRecDepth 100000
open List (all_append append_assoc append_nil drop_eq_getElem_cons drop_eq_nil_of_le getElem_mem length length_append length_cons length_drop length_map length_nil length_take map_append map_cons map_nil mem_cons_of_mem mem_cons_self mem_of_mem_take nil_append replicate take_length take_of_length_le take_succ_eq_append_getElem)
open Option (map_some)
open Go.World (drew)
variable {n i k:Nat}{w:Go.World}{s:List UInt8}{A:Go.Pk.Bl}{t:Go.TypeId}
open Go.IntKind (i64)
open Go.Proofs.Tryz
namespace Go.Pk
open Go.RowKit (Below)
open Go.Proofs
abbrev Ic (n:Nat):lU:=Lib.decDigits n
theorem Ly:Lib.itoa (n:Int)=Ic n:=by unfold Lib.itoa;rw[if_neg (by omega)];rfl
theorem oO (h:n <=9223372036854775807):(Ic n).length <=21:=by rw[<- Ly];exact Lib.itoa_length_le n (by omega) (by omega)
theorem RH (h:n<10):Ic n=[UInt8.ofNat (48+n)]:=Lib.decDigits_one h
theorem Oq (h: ¬ n<10):Ic n=Ic (n/10)++[UInt8.ofNat (48+n%10)]:=by
 show Lib.decDigits n=_;rw[Lib.decDigits,dif_neg h]
def CG (a:lU):lU:=Lib.join ((a.drop 12).map λc=>Ic c.toNat) [46]
theorem WC {a:lU}(h:a.length=16):a.drop 12=[a[12]'(by omega),a[13]'(by omega),a[14]'(by omega),a[15]'(by omega)]:=by
 rw[drop_eq_getElem_cons (by omega),drop_eq_getElem_cons (by omega),drop_eq_getElem_cons (by omega),drop_eq_getElem_cons (by omega),drop_eq_nil_of_le (by omega)]
theorem KE {a:lU}(h:a.length=16):CG a=Ic (a[12]'(by omega)).toNat++([46]:lU)++Ic (a[13]'(by omega)).toNat++([46]:lU)++Ic (a[14]'(by omega)).toNat++([46]:lU)++Ic (a[15]'(by omega)).toNat:=by
 unfold CG;rw[WC h];simp[Lib.join_cons,Lib.joinTail]
theorem Br (xs:List lU)(c:UInt8)(D:Nat)(h:∀x∈xs,x.length <=D):(Lib.join xs [c]).length <=xs.length*(D+1):=by
 cases xs with
 |nil=>simp[Lib.join_nil]
 |cons x r=>
  rw[Lib.join_cons];have:∀r:List lU,(∀x∈r,x.length <=D)->(Lib.joinTail [c] r).length <=r.length*(D+1):=by
   intro r;induction r with
   |nil=>intro _;simp[Lib.joinTail]
   |cons y r I=>
    intro E;have h1:=I λx G=>E x (mem_cons_of_mem _ G);have F:=E y mem_cons_self;have e:Lib.joinTail [c] (y::r)=[c]++y++Lib.joinTail [c] r:=by simp[Lib.joinTail]
    rw[e];simp only[length_append,length_cons,length_nil,Nat.add_mul];omega
  have h1:=this r λy H=>h y (mem_cons_of_mem _ H);have F:=h x mem_cons_self;simp only[length_append,length_cons,Nat.add_mul];omega
theorem Ga {a:Option Addr}{n c:Nat}{xs:List lU}(Y:Sl tS w A a n c xs)(sep:lU)(y:xs.length <=140737488355328)(R:(Lib.join xs sep).length <=140737488355328):
 Cf iL #[.slice a n c,vS sep] w (Ret λv w'=>v=vS (Lib.join xs sep)/\bW w w'):=by
 obtain⟨U,V,Z,E⟩:=Y;subst U;rcases E with E|⟨b,off,rfl,I,_,cs,M,J⟩
 ·subst E;refine(Tryz.strings_Join_none a c (mkS sep) w).mono ?_;rintro _ _ ⟨rfl,rfl⟩;exact⟨_,rfl,rfl,Below.refl _ _⟩
 ·have F:=jL M;have e:(xs.map mkS).map (λs=>s.data.toList)=xs:=by rw[List.map_map];exact List.map_id xs
  have G:=Tryz.strings_Join b off c (xs.map mkS) (mkS sep) w (λj x y=>by
   rw[List.getElem?_map]at y;cases D:xs[j]? with
   |none=>rw[D]at y;cases y
   |some aa=>
    rw[D]at y;cases y;have O:=(List.getElem?_eq_some_iff.1 D).1;rw[J j (by rw[F];simpa using O),F,List.getElem?_map,D];rfl) I (by rw[length_map];omega) (by rw[length_map];exact V) (by
    rw[e];exact R)
  rw[length_map]at G;refine G.mono ?_;rintro _ w' ⟨rfl,H⟩;rw[e];exact⟨_,rfl,rfl,H⟩
theorem UL (n:Nat)(h:n <=9223372036854775807)(w:World)(y:Env w):Cf th #[vI (n:Int)] w (Ret λv w'=>v=vS (Ic n)/\bW w w'):=by
 refine(Tryz.strconv_Itoa n (by omega) (by omega) w y.tab).mono ?_;rintro _ _ ⟨rfl,k,D,rfl⟩;rw[Ly];exact⟨_,rfl,rfl,JV w k D⟩
theorem Fx (a:lU)(bk:a.length=16)(w:World)(Y:Env w):Cf qO #[adV a] w (Ret λv w'=>v=vS (CG a)/\bW w w'):=by
 apply DF;intro F D ac M;have G:=(M▸ar w _:bW w D)
 have h1:aB D F az (adC a):=aB.new ac M;have R:(if 16=(Int.toNat (12:Int))then(⟨F,0,none⟩:Addr)else Addr.add ⟨F,0,none⟩ ((Int.toNat (12:Int))*1))=⟨F,12,none⟩:=by
  rw[if_neg (by decide)];unfold Addr.add;split<;>simp_all
 have U:(16-(Int.toNat (12:Int)):Nat)=4:=rfl;rw[R,U];refine⟨⟨by decide,by decide⟩,?_⟩;refine⟨λm a3 O J i w'=>∃k:Nat,k <=4/\i=(k:Int)/\m=4-k/\Ow tS ai w' NoB a3 O J (((a.drop 12).take k).map λc=>Ic c.toNat)/\bo D.heap.size a3/\bW D w',
  ⟨_,0,by omega,rfl,rfl,Ow.nil _ _ _ _,bo.none _,Below.refl _ _⟩,?_⟩
 intro m a3 O J i;refine aP.of ?_ _;rintro a9 ⟨k,bl,rfl,rfl,I,Z,y⟩;have af:(a.drop 12).length=4:=by rw[length_drop];omega
 refine ab.of (λh=>?_) (λh=>?_)<;>simp only[dTx,dFx]at h
 ·have bp:k<4:=by omega
  rw[iC];have bs:=ov (a[12+k]'(by omega));refine⟨⟨⟨by omega,h⟩,rfl⟩,_,(h1.below y).load1 cr rfl (Aw (i:=12+k) (by omega)),?_⟩;rw[wrJ];refine aK (UL _ (by omega) a9 ((Y.step G).step y)) ?_;rintro _ bb ⟨rfl,E⟩;have H:=ae y E y.size;refine⟨_,rfl,?_⟩;intro bt bu ad av;have bq:(((a.drop 12).take k).map λc=>Ic c.toNat).length <=4:=by simp;omega
  obtain⟨be,a5,a8,c5,an,aj,aa,V⟩:=uQ (ty:=aA) (w0:=D) (cm:=1) (vs:=[_]) (eX _) bh dG (by decide) (I.below E) Z H ad av (mu trivial) (by omega);refine⟨be,a5,a8,c5,an,4-(k+1),by omega,k+1,by omega,by rw[wrJ];omega,rfl,?_,aa,V⟩;rw[take_succ_eq_append_getElem (by omega),map_append];have:(a.drop 12)[k]'(by omega)=a[12+k]'(by omega):=by rw[List.getElem_drop]
  rw[this];exact aj
 ·have:k=4:=by omega
  subst this;rw[take_of_length_le (by omega)]at I;have ag:(CG a).length <=4*(21+1):=by
   have:=Br ((a.drop 12).map λc=>Ic c.toNat) 46 21 (λx a0=>by
    obtain⟨c,_,rfl⟩:=List.mem_map.1 a0;have:=ov c;exact oO (by omega))
   rw[length_map,af]at this;exact this
  refine aK (Ga I.all [46] (by rw[length_map];omega) (Nat.le_trans ag (by decide))) ?_;rintro _ bb ⟨rfl,E⟩;have H:=ae y E y.size;exact⟨_,rfl,rfl,ae G H G.size⟩
theorem sF {w y:World}{d:Nat}(I:d<10){x:Int}(H:x=(d:Int))(E:n=w.heap.size)(D:y=w.alloc (.cells #[.int .u8 (IntKind.u8.wrap (i64.wrap ((48:Int)+x)))] bc)):
 ∀u,bW y u->(convert aQ ai (.slice (some ⟨n,0,none⟩) 1 1)).run prog u=.ok (vS [UInt8.ofNat (48+d)]) u:=by
 intro u G;have e:IntKind.u8.wrap (i64.wrap ((48:Int)+x))=(((UInt8.ofNat (48+d)).toNat:Nat):Int):=by
  rw[H,wrJ,wrap_u8 (by omega) (by omega),Ju (by omega)];omega
 rw[e]at D;have F:Ow tU8 bc y NoB (some ⟨n,0,none⟩) 1 1 [UInt8.ofNat (48+d)]:=Ow.newF nu E D (jc.one (pW rfl)) (show 1 <=maxLen by decide);exact mC bH aI cr (F.below G).all
theorem iY:∀(n:Nat) (h:n <=9223372036854775807) (w:World),Cf da #[vI (n:Int)] w (Ret λv w'=>v=vS (Ic n)/\bW w w')
 |n,Y,w=>by
  apply yd;refine ab.of (λh=>?_) (λh=>?_)<;>simp only[dTx,dFx]at h
  ·intro J w8 E y;refine⟨_,sF (d:=n) (by omega) rfl E y w8 (Below.refl _ _),?_⟩;rw[RH (by omega)];exact⟨rfl,y▸ar _ _⟩
  ·have V:n/10<n:=by omega
   refine⟨by decide,?_⟩;rintro _ rfl;refine⟨by decide,?_⟩;rintro _ rfl;have M:i64.wrap (Int.tdiv (n:Int) 10)=((n/10:Nat):Int):=by rw[Am (by omega),wrJ];omega
   have O:Int.tmod (n:Int) 10=((n%10:Nat):Int):=by rw[An (by omega)];omega
   rw[M,O,Oq (by omega)];have G:bW w (drew w):=sK rfl rfl rfl (Nat.le_refl _) (λ_ _=>rfl);have U:=oO (n:=n/10) (by omega);refine⟨?_,?_⟩
   ·refine aK (iY (n/10) (by omega) (drew w)) ?_;rintro _ H ⟨rfl,D⟩;refine⟨_,rfl,?_⟩;intro J w8 E y;refine⟨_,sF (d:=n%10) (by omega) rfl E y w8 (Below.refl _ _),fits (by simp;omega),?_⟩;rintro _ rfl;have I:=ae G D G.size;exact⟨rfl,ae I (y▸ar _ _) I.size⟩
   ·intro J w8 E y;have R:Below (drew w).heap.size (drew w) w8:=y▸ar _ _;have F:=ae G R G.size;refine⟨?_,_,sF (d:=n%10) (by omega) rfl E y w8 (Below.refl _ _),?_⟩
    ·refine aK (iY (n/10) (by omega) w8) ?_;rintro _ H ⟨rfl,D⟩;refine⟨_,rfl,_,sF (d:=n%10) (by omega) rfl E y H D,fits (by simp;omega),?_⟩;rintro _ rfl;exact⟨rfl,ae F D F.size⟩
    ·refine aK (iY (n/10) (by omega) w8) ?_;rintro _ H ⟨rfl,D⟩;refine⟨_,rfl,fits (by simp;omega),?_⟩;rintro _ rfl;exact⟨rfl,ae F D F.size⟩
 termination_by n=>n
theorem Dv (a:lU)(M:a.length=16)(w:World):Cf o9 #[adV a] w (Ret λv w'=>v=vS (CG a)/\bW w w'):=by
 apply Ch;intro J y O I;have G:=(I▸ar w _:bW w y)
 have h1:aB y J az (adC a):=aB.new O I;have E:∀(i:Nat) (H:i<a.length) (u:World),bW y u->(Instr.loadAt bc (.pointer (aw (some ⟨J,0,none⟩) (i:Int) 1))).run prog u=.ok (.int .u8 ((a[i].toNat:Nat):Int)) u:=λi H u F=>by
  rw[iC,Nat.zero_add];exact(h1.below F).load1 cr rfl (Aw H)
 have D:∀(c:UInt8) (u:World),bW y u->Cf da #[vI (i64.wrap ((c.toNat:Nat):Int))] u λe w'=>e=.returned (vS (Ic c.toNat))/\Below y.heap.size u w':=λc u F=>by
  have:=ov c;rw[wrJ];exact kz (iY c.toNat (by omega) u) F
 have U:=oO (n:=a[12].toNat) (by have:=ov a[12];omega);have V:=oO (n:=a[13].toNat) (by have:=ov a[13];omega);have Y:=oO (n:=a[14].toNat) (by have:=ov a[14];omega);have Z:=oO (n:=a[15].toNat) (by have:=ov a[15];omega);refine⟨⟨⟨by decide,by decide⟩,rfl⟩,_,E 12 (by omega),_,D _,fits (by simp;omega),?_⟩;rintro _ rfl;refine⟨⟨⟨by decide,by decide⟩,rfl⟩,_,E 13 (by omega),_,D _,fits (by simp;omega),?_⟩;rintro _ rfl;refine⟨fits (by simp;omega),?_⟩;rintro _ rfl;refine⟨⟨⟨by decide,by decide⟩,rfl⟩,_,E 14 (by omega),_,D _,fits (by simp;omega),?_⟩;rintro _ rfl;refine⟨fits (by simp;omega),?_⟩;rintro _ rfl;refine⟨⟨⟨by decide,by decide⟩,rfl⟩,_,E 15 (by omega),_,D _,fits (by simp;omega),?_⟩;rintro _ rfl;intro aa R;rw[KE M];exact⟨by simp only[append_assoc],ae G R G.size⟩
def Q9 (d:Nat):UInt8:=UInt8.ofNat (if d<10 then 48+d else 87+d)
def zZ (n:Nat):lU:=if n<16 then[Q9 n]else zZ (n/16)++[Q9 (n%16)]
termination_by n
theorem z7 (h:n<16):zZ n=[Q9 n]:=by rw[zZ,if_pos h]
theorem nO (h: ¬ n<16):zZ n=zZ (n/16)++[Q9 (n%16)]:=by rw[zZ,if_neg h]
theorem z6 (h:n<65536):(zZ n).length <=4:=by
 have step:∀m D:Nat,(m/16<D->(zZ (m/16)).length <=3)->True:=λ_ _ _=>trivial;have y:∀n,n<16->(zZ n).length=1:=λn h=>by rw[z7 h];rfl
 have E:∀n,n<256->(zZ n).length <=2:=λn h=>by
  by_cases c:n<16
  ·rw[y n c];omega
  ·rw[nO c,length_append,y (n/16) (by omega)];simp
 have F:∀n,n<4096->(zZ n).length <=3:=λn h=>by
  by_cases c:n<16
  ·rw[y n c];omega
  ·have:=E (n/16) (by omega);rw[nO c,length_append];simp;omega
 by_cases c:n<16
 ·rw[y n c];omega
 ·have:=F (n/16) (by omega);rw[nO c,length_append];simp;omega
def YL:lU:=[48,49,50,51,52,53,54,55,56,57,97,98,99,100,101,102,103,104,105,106,107,108,109,110,111,112,113,114,115,116,117,118,119,120,121,122]
theorem Ie:∀d:Nat,d<16->aU YL (d:Int)=(((Q9 d).toNat:Nat):Int):=by decide
theorem It:∀d:Nat,d<16->(([48,49,50,51,52,53,54,55,56,57,97,98,99,100,101,102]:lU).take (d+1)).drop d=[Q9 d]:=by decide
theorem u64_in {n:Int}(y:0 <=n)(h1:n<18446744073709551616):IntKind.u64.wrap n=n:=by
 have e:IntKind.u64.wrap n=n%18446744073709551616:=rfl
 try dsimp only
 rw[e];omega
theorem Yy {u:Nat}(h:u<65536):IntKind.u64.wrap (((BitVec.ofInt (IntKind.bits .u64) (u:Int)) &&& (BitVec.ofInt (IntKind.bits .u64) (IntKind.u64.wrap ((IntKind.u64.wrap (16:Int))-1)))).toNat:Nat)=((u%16:Nat):Int):=by
 have D:IntKind.u64.wrap ((IntKind.u64.wrap (16:Int))-1)=((15:Nat):Int):=by decide
 have y:∀n:Nat,n<65536->(BitVec.ofInt (IntKind.bits .u64) (n:Int)).toNat=n:=λn E=>by
  show(BitVec.ofInt 64 (n:Int)).toNat=n;rw[BitVec.toNat_ofInt];have h:((2 ^ 64:Nat):Int)=18446744073709551616:=by decide
  rw[h];omega
 rw[D,BitVec.toNat_and,y u h,y 15 (by decide)];have:u &&& 15=u%16:=Nat.and_two_pow_sub_one_eq_mod u 4;rw[this,u64_in (by omega) (by omega)]
theorem qal {u:Nat} :Int.fdiv (u:Int) (2 ^ (min (Int.toNat (IntKind.u64.wrap (4:Int))) (IntKind.bits .u64)))=((u/16:Nat):Int):=by
 have y:(2:Int) ^ (min (Int.toNat (IntKind.u64.wrap (4:Int))) (IntKind.bits .u64))=16:=by decide
 try dsimp only
 rw[y,Int.fdiv_eq_ediv_of_nonneg _ (by decide)];omega
theorem Tg (k o j:Nat):Addr.add ⟨k,o,none⟩ j=⟨k,o+j,none⟩:=by unfold Addr.add;split<;>simp_all
theorem aB.sl8 {T:TypeId}{p xs:lU}(h:aB w k T (adC (p++xs)))(y:xs.length <=maxLen):Sl tU8 w qw (some ⟨k,p.length,none⟩) xs.length xs.length xs:=by
 refine⟨rfl,Nat.le_refl _,y,.inr ⟨k,p.length,rfl,h.lt,trivial,adC xs,mQ (λ_ _=>trivial),λj D=>?_⟩⟩;rw[h.cell];unfold adC;rw[map_append,List.getElem?_append_right (by simp)];simp
theorem qJ (w:World)(F:Env w):Cf fj #[.int .u64 (IntKind.u64.wrap (16:Int))] w (Ret λv w'=>v=vI 4/\w'=w):=by
 have D:IntKind.u64.wrap (16:Int)=16:=by decide
 try dsimp only
 rw[D];apply mw;refine aK (K:=λv w'=>v=vI 4/\w'=w) ?_ ?_
 ·apply kQ;refine ab.no (by decide) ⟨by decide,⟨⟨by decide+kernel,by decide+kernel⟩,rfl⟩,4,?_,rfl,rfl⟩;have E:∀y:Int,y=15->(Instr.loadAt bc (.pointer (aw (some ⟨5,0,none⟩) y 1))).run prog w=.ok (.int .u8 4) w:=by
   rintro _ rfl;exact il cr rfl F.tz
  exact E _ (by decide+kernel)
 ·rintro _ H ⟨rfl,G⟩;exact⟨_,rfl,rfl,G⟩
theorem FU (n:Nat)(be:n<65536)(w:World)(a0:Env w):Cf ez #[.slice none 0 0,.int .u64 (n:Int),vI 16,.bool false,.bool false] w
 (Ret λv w'=>v=.tuple #[.slice none 0 0,vS (zZ n)]/\bW w w'):=by
 apply j1;refine jE (w:=w) True ?_ (λ_=>?_)
 ·refine⟨λb w'=>w'=w/\b=false,ab.no (by decide) (ab.no (by decide) ⟨rfl,by decide⟩),λb=>aP.of ?_ _⟩;rintro b5 ⟨bq,av⟩;rw[bq,av];exact ab.no rfl ⟨rfl,trivial⟩
 intro k D a8 aa;have O:=(aa▸ar w _:bW w D)
 have h1:aB D k lq (adC (replicate 65 0++[])):=aB.new a8 aa;have V:w.heap.size <=k:=by omega
 refine WW (w:=D) (n:Int) (ab.no rfl ⟨rfl,rfl⟩) ?_;refine⟨λi w'=>∃xs:lU,i=((65-xs.length:Nat):Int)/\xs=zZ n/\aB w' k lq (adC (replicate (65-xs.length) 0++xs))/\bW w w',?_,λi=>aP.of ?_ _⟩
 ·refine aK (K:=λv w'=>v=.bool true/\w'=D) ?_ ?_
  ·apply ju;exact⟨congrArg Value.bool (by decide+kernel),rfl⟩
  rintro _ b2 ⟨rfl,bs⟩;rw[bs];refine⟨_,rfl,ab.yes rfl ?_⟩;refine aK (qJ D (a0.step O)) ?_;rintro _ b3 ⟨rfl,bt⟩;rw[bt];refine⟨_,rfl,?_⟩;refine⟨λm u i w'=>∃(q t:Nat) (xs:lU),u=(q:Int)/\m=q/\t=xs.length/\i=((65-t:Nat):Int)/\zZ n=zZ q++xs/\q*16 ^ t <=65535/\(t=0\/0<q)/\aB w' k lq (adC (replicate (65-t) 0++xs))/\bW w w',
   ⟨_,n,0,[],rfl,rfl,rfl,rfl,by rw[append_nil],by omega,.inl rfl,h1,O⟩,?_⟩
  intro m u i;refine aP.of ?_ _;rintro b4 ⟨q,t,xs,rfl,bb,rfl,rfl,ac,bk,bp,aj,R⟩;obtain rfl:q=m:=bb.symm;have b1:xs.length <=3:=by
   rcases bp with M|M
   ·omega
   ·refine Decidable.byContradiction λbw=>?_;have bu:16 ^ 4 <=16 ^ xs.length:=Nat.pow_le_pow_right (by decide) (by omega);have:16 ^ xs.length <=q*16 ^ xs.length:=Nat.le_mul_of_pos_left _ M;have e:(16:Nat) ^ 4=65536:=rfl;omega
  have bl:q<65536:=by
   have:q <=q*16 ^ xs.length:=Nat.le_mul_of_pos_right _ (Nat.pos_of_ne_zero (by simp));omega
  have J:IntKind.u64.wrap (16:Int)=16:=by decide
  have af:i64.wrap (((65-xs.length:Nat):Int)-1)=((65-(xs.length+1):Nat):Int):=by rw[wrJ];omega
  have Z:∀c:UInt8,(adC (replicate (65-xs.length) 0++xs)).set (65-(xs.length+1)) (.int .u8 ((c.toNat:Nat):Int))=adC (replicate (65-(xs.length+1)) 0++(c::xs)):=λc=>by
   rw[uo,show 65-xs.length=(65-(xs.length+1))+1 by omega,List.replicate_succ' (n:=65-(xs.length+1)),append_assoc,List.set_append_right _ _ (by simp),List.length_replicate,Nat.sub_self];rfl
  have Y:=λc:UInt8=>aj.put (P:=prog) gT (i:=65-(xs.length+1)) (v:=.int .u8 ((c.toNat:Nat):Int)) (by rw[dC];simp;omega) rfl rfl;rw[af,iC,Nat.zero_add];have U:(0 <=((65-(xs.length+1):Nat):Int)/\((65-(xs.length+1):Nat):Int)<((65:Nat):Int))/\true=true:=⟨⟨by omega,by omega⟩,rfl⟩
  refine ab.of (λh=>?_) (λh=>?_)
  ·rw[J]at h;simp only[ge_iff_le,dTx]at h;have G:16 <=q:=by omega
   rw[Yy bl,qal,show aU [48,49,50,51,52,53,54,55,56,57,97,98,99,100,101,102,103,104,105,106,107,108,109,110,111,112,113,114,115,116,117,118,119,120,121,122] ((q%16:Nat):Int)=_ from Ie (q%16) (by omega)];obtain⟨E,H,y,F⟩:=Y (Q9 (q%16));rw[Z]at y;refine⟨⟨by omega,by simp;omega⟩,U,E,H,by decide,q/16,by omega,q/16,xs.length+1,Q9 (q%16)::xs,rfl,rfl,by simp,rfl,?_,?_,.inr (by omega),y,Below.put R F V⟩
   ·rw[ac,nO (n:=q) (by omega)];simp
   ·have e:q/16*16 ^ (xs.length+1)=(q/16*16)*16 ^ xs.length:=by rw[Nat.pow_succ,Nat.mul_comm (16 ^ xs.length) 16,Nat.mul_assoc]
    rw[e];exact Nat.le_trans (Nat.mul_le_mul_right _ (by omega)) bk
  ·rw[J]at h;simp only[ge_iff_le,dFx]at h;have G:q<16:=by omega
   rw[show aU [48,49,50,51,52,53,54,55,56,57,97,98,99,100,101,102,103,104,105,106,107,108,109,110,111,112,113,114,115,116,117,118,119,120,121,122] (q:Int)=_ from Ie q G];obtain⟨E,H,y,F⟩:=Y (Q9 q);rw[Z]at y;refine⟨⟨by omega,by simp;omega⟩,U,E,H,Q9 q::xs,rfl,?_,y,Below.put R F V⟩;rw[ac,z7 G];rfl
 ·rintro E ⟨xs,rfl,I,y,an⟩;have a9:=z6 be;rw[<- I]at a9;refine WW (w:=E) ((65-xs.length:Nat):Int) (ab.no rfl ⟨rfl,rfl⟩) ?_;refine ab.no rfl ⟨⟨by omega,by omega⟩,?_⟩;have b0:0<xs.length:=by
   rw[I];by_cases c:n<16
   ·rw[z7 c];exact Nat.one_pos
   ·rw[nO c];simp
  have ad:(if 65=(Int.toNat ((65-xs.length:Nat):Int))then(⟨k,0,none⟩:Addr)else Addr.add ⟨k,0,none⟩ ((Int.toNat ((65-xs.length:Nat):Int))*1))=⟨k,(replicate (65-xs.length) (0:UInt8)).length,none⟩:=by
   rw[List.length_replicate,Int.toNat_natCast,if_neg (by omega),Tg,Nat.zero_add,Nat.mul_one]
  have ag:65-(Int.toNat ((65-xs.length:Nat):Int))=xs.length:=by rw[Int.toNat_natCast];omega
  rw[ad,ag];refine⟨xs,mC bH aI cr (y.sl8 (by unfold maxLen;omega)),?_⟩;rw[I];exact⟨rfl,an⟩
theorem FV (n:Nat)(E:n<65536)(w:World)(D:Env w):Cf iE #[.int .u64 (n:Int),vI 16] w (Ret λv w'=>v=vS (zZ n)/\bW w w'):=by
 apply qu;refine aK (K:=λv w'=>v=vS (zZ n)/\bW w w') ?_ ?_
 ·apply j0;refine ab.no (by decide) ?_;refine aK (FU n E w D) ?_;rintro _ F ⟨rfl,y⟩;exact⟨_,_,_,_,rfl,rfl,y⟩
 ·rintro _ F ⟨rfl,y⟩;exact⟨_,rfl,rfl,y⟩
theorem yL:∀(n:Nat) (h:n<65536) (w:World),Cf pe #[vI (n:Int)] w (Ret λv w'=>v=vS (zZ n)/\bW w w')
 |n,I,w=>by
  apply GY;refine ab.of (λh=>?_) (λh=>?_)<;>simp only[dTx,dFx]at h
  ·have e:i64.wrap ((n:Int)+1)=((n+1:Nat):Int):=by rw[wrJ];omega
   try dsimp only
   rw[e];refine⟨⟨⟨by omega,by simp;omega⟩,by omega,by omega⟩,?_⟩;rintro _ rfl;simp only[Int.toNat_natCast];rw[It n (by omega),z7 (by omega)];exact⟨rfl,Below.refl _ _⟩
  ·have H:n/16<n:=by omega
   have y:i64.wrap (Int.tdiv (n:Int) 16)=((n/16:Nat):Int):=by rw[Am (by omega),wrJ];omega
   have D:Int.tmod (n:Int) 16=((n%16:Nat):Int):=by rw[An (by omega)];omega
   refine⟨by decide,?_⟩;rintro _ rfl;rw[y,D];have G:=z6 (n:=n/16) (by omega);refine⟨_,λu E=>kz (yL (n/16) (by omega) u) E,by decide,?_⟩;rintro _ rfl;refine⟨by decide,?_⟩;rintro _ rfl;have e:i64.wrap (((n%16:Nat):Int)+1)=((n%16+1:Nat):Int):=by rw[wrJ];omega
   try dsimp only
   rw[e];refine⟨⟨⟨by omega,by simp;omega⟩,by omega,by omega⟩,?_⟩;rintro _ rfl;simp only[Int.toNat_natCast];rw[It (n%16) (by omega)];refine⟨fits (by simp;omega),?_⟩;rintro _ rfl;intro J F;rw[nO (n:=n) (by omega)];exact⟨rfl,F⟩
 termination_by n=>n
def xA (a:lU)(k:Nat):Nat:=(a.getD (2*k) 0).toNat*256+(a.getD (2*k+1) 0).toNat
def gL (a:lU):List Nat:=[xA a 0,xA a 1,xA a 2,xA a 3,xA a 4,xA a 5,xA a 6,xA a 7]
theorem yG (a:lU):(gL a).length=8:=rfl
theorem Kc (a:lU)(k:Nat):xA a k<65536:=by
 have h1:=ov (a.getD (2*k) 0);have y:=ov (a.getD (2*k+1) 0);unfold xA;omega
theorem Lm (a:lU):∀(k:Nat) (h:k<(gL a).length),(gL a)[k]=xA a k
 |0,_=>rfl
 |1,_=>rfl
 |2,_=>rfl
 |3,_=>rfl
 |4,_=>rfl
 |5,_=>rfl
 |6,_=>rfl
 |7,_=>rfl
 |n+8,h=>by rw[yG]at h;omega
theorem FW (a:lU):∀x∈gL a,x<65536:=λx y=>by
 obtain⟨i,D,rfl⟩:=List.mem_iff_getElem.1 y;rw[Lm];exact Kc a i
def wrL (l:List Nat):lU:=Lib.join (l.map zZ) [58]
theorem pR {l:List Nat}(h:∀x∈l,x<65536):(wrL l).length <=l.length*5:=by
 have:=Br (l.map zZ) 58 4 (λx D=>by
  obtain⟨c,y,rfl⟩:=List.mem_map.1 D;exact z6 (h c y))
 rwa [length_map]at this
def zst (s:Nat×Nat×Nat)(i:Nat)(z:Bool):Nat×Nat×Nat:=
 if s.2.1<(if z=true then s.2.2+1 else 0)then(i+1-(if z=true then s.2.2+1 else 0),(if z=true then s.2.2+1 else 0),(if z=true then s.2.2+1 else 0))else(s.1,s.2.1,(if z=true then s.2.2+1 else 0))
def mI (zs:List Bool):Nat->Nat×Nat×Nat
 |0=>(0,0,0)
 |k+1=>zst (mI zs k) k (zs.getD k false)
def dI (zs:List Bool):Nat×Nat:=((mI zs 8).1,(mI zs 8).2.1)
def Q3 (zs:List Bool)(p l:Nat):Bool:=(List.range l).all λj=>zs.getD (p+j) false
def zok (zs:List Bool):Bool:=
 decide ((dI zs).1+(dI zs).2 <=8)&&(decide ((dI zs).2<2) || Q3 zs (dI zs).1 (dI zs).2) &&
  (List.range 9).all λL=>(List.range 9).all λA=> !(decide (2 <=L)&&decide (A+L <=8)&&Q3 zs A L) || (decide (L<(dI zs).2) || (decide (L=(dI zs).2)&&decide ((dI zs).1 <=A)))
theorem VX:∀y D E F G H I J:Bool,zok [y,D,E,F,G,H,I,J]=true:=by decide+kernel
theorem Fl {zs:List Bool}(h:zs.length=8):(dI zs).1+(dI zs).2 <=8/\(2 <=(dI zs).2->Q3 zs (dI zs).1 (dI zs).2=true)/\
 ∀L A,2 <=L->A+L <=8->Q3 zs A L=true->L<(dI zs).2\/(L=(dI zs).2/\(dI zs).1 <=A):=by
 match zs,h with
 |[D,E,F,G,H,I,J,M],_=>
  have:=VX D E F G H I J M;unfold zok at this;rw[Bool.and_eq_true,Bool.and_eq_true]at this;obtain⟨⟨h1,y⟩,O⟩:=this;refine⟨of_decide_eq_true h1,λY=>?_,λL A U R V=>?_⟩
  ·rw[Bool.or_eq_true,dTx]at y;exact y.resolve_left (by omega)
  ·have:=List.all_eq_true.1 (List.all_eq_true.1 O L (List.mem_range.2 (by omega))) A (List.mem_range.2 (by omega));rw[decide_eq_true U,decide_eq_true R,V]at this;simpa using this
theorem JK (zs:List Bool):∀k,(mI zs k).2.2 <=k/\(mI zs k).2.1 <=k/\(mI zs k).1 <=k
 |0=>⟨Nat.le_refl _,Nat.le_refl _,Nat.le_refl _⟩
 |k+1=>by
  obtain⟨h1,y,D⟩:=JK zs k;unfold mI zst;cases zs.getD k false<;>simp only[Bool.false_eq_true,if_false,if_true]<;>split<;>simp<;>omega
def zsA (a:lU):List Bool:=(gL a).map (· ==0)
theorem QZ (a:lU):(zsA a).length=8:=rfl
def CH (a:lU):lU:=
 if(dI (zsA a)).2<2 then wrL (gL a)else wrL ((gL a).take (dI (zsA a)).1)++[58,58]++wrL ((gL a).drop ((dI (zsA a)).1+(dI (zsA a)).2))
theorem Ze {a d:Nat}(J:a<256)(H:d<256):IntKind.u16.wrap (((BitVec.ofInt (IntKind.bits .u16) (IntKind.u16.wrap ((IntKind.u16.wrap (a:Int))*2 ^ (min (Int.toNat (8:Int)) (IntKind.bits .u16))))) ||| (BitVec.ofInt (IntKind.bits .u16) (IntKind.u16.wrap (d:Int)))).toNat:Nat)=((a*256+d:Nat):Int):=by
 have E:(2:Int) ^ (min (Int.toNat (8:Int)) (IntKind.bits .u16))=256:=by decide
 have y:∀n:Nat,n<65536->IntKind.u16.wrap (n:Int)=(n:Int):=λn I=>by
  have:IntKind.u16.wrap (n:Int)=(n:Int)%65536:=rfl;rw[this];omega
 have F:(a:Int)*256=((a*256:Nat):Int):=by omega
 have D:∀n:Nat,n<65536->(BitVec.ofInt (IntKind.bits .u16) (n:Int)).toNat=n:=λn I=>by
  show(BitVec.ofInt 16 (n:Int)).toNat=n;rw[BitVec.toNat_ofInt];have h:((2 ^ 16:Nat):Int)=65536:=by decide
  rw[h];omega
 rw[E,y a (by omega),F,y (a*256) (by omega),y d (by omega),BitVec.toNat_or,D (a*256) (by omega),D d (by omega)];have G:a*256 ||| d=a*256+d:=by
  have:=Nat.two_pow_add_eq_or_of_lt (i:=8) H a;rw[Nat.mul_comm a 256];exact this.symm
 rw[G,y _ (by omega)]
def Dl (l:List Nat):List Value:=i16 (l.map λx:Nat=>(x:Int))
theorem F1 (l:List Nat):(Dl l).length=l.length:=by simp[Dl,i16]
theorem Lu (l:List Nat):zR (Dl l):=O5 _
theorem RU (l:List Nat)(i x:Nat):(Dl l).set i (.int .u16 (x:Int))=Dl (l.set i x):=by unfold Dl i16;rw[List.map_set,List.map_set]
theorem FZ {l:List Nat}(h:i<l.length):(Dl l)[i]? =some (.int .u16 ((l[i]:Nat):Int)):=by
 unfold Dl i16;rw[List.getElem?_map,List.getElem?_map,List.getElem?_eq_getElem h];rfl
theorem aB.sl16 {T:TypeId}{l:List Nat}(h:aB w k T (Dl l)){o n c:Nat}{A:Addr}(E:0<n->A=⟨k,o,none⟩)(J:o+n <=l.length)(F:n <=c)(H:c <=maxLen):Sl VG w qw (some A) n c (((l.drop o).take n).map λx:Nat=>(x:Int)):=by
 have G:(((l.drop o).take n).map λx:Nat=>(x:Int)).length=n:=by simp;omega
 refine⟨G.symm,F,H,?_⟩;by_cases D:0<n
 ·refine .inr ⟨k,o,by rw[E D],h.lt,trivial,Dl ((l.drop o).take n),mQ (h1:=λ_=>rfl) (λ_ _=>trivial),λj y=>?_⟩;rw[F1]at y;have I:j<n:=by rw[length_take]at y;omega
  rw[h.cell,FZ (by omega),FZ y];simp
 ·exact .inl (List.length_eq_zero_iff.1 (by omega))
theorem Dg (a:lU)(c2:a.length=16)(w:World):Cf oS #[adV a] w (Ret λv w'=>v=.agg (Dl (gL a)).toArray/\bW w w'):=by
 apply BS;intro E F b8 av;have ac:=(av▸ar w _:bW w F)
 have U:aB F E az (adC a):=aB.new b8 av;intro R G b9 a0;have ad:=(a0▸ar F _:bW F G)
 have I:=ae ac ad ac.size;have Y:aB G R ba (Dl [0,0,0,0,0,0,0,0]):=aB.new b9 a0;intro k3 be cb a8;have M:=(a8▸ar G _:bW G be)
 have b1:=ae I M I.size;have b0:aB be k3 ba (Dl [0,0,0,0,0,0,0,0]):=aB.new cb a8;have bu:=Y.below M;have bt:=(U.below ad).below M;have c8:=U.lt;have c9:=Y.lt;have cc:w.heap.size <=k3:=by have:=I.size;omega
 refine⟨λm i w'=>∃k:Nat,k <=8/\i=(k:Int)/\m=8-k/\aB w' k3 ba (Dl ((gL a).take k++replicate (8-k) 0))/\aB w' R ba (Dl [0,0,0,0,0,0,0,0])/\aB w' E az (adC a)/\bW w w',
  ⟨_,0,by omega,rfl,rfl,b0,bu,bt,b1⟩,?_⟩
 intro m i;refine aP.of ?_ _;rintro cp ⟨k,c3,rfl,rfl,H,Z,V,J⟩;refine ab.of (λh=>?_) (λh=>?_)<;>simp only[dTx,dFx]at h
 ·have c4:k<8:=by omega
  have bq:i64.wrap (2*(k:Int))=((2*k:Nat):Int):=by rw[wrJ];omega
  have bs:i64.wrap (((2*k:Nat):Int)+1)=((2*k+1:Nat):Int):=by rw[wrJ];omega
  rw[bq,bs,iC,iC,iC];simp only[Nat.zero_add];have b5:(0 <=(k:Int)/\(k:Int)<((8:Nat):Int))/\True:=⟨⟨by omega,by omega⟩,trivial⟩
  have b6:(0 <=((2*k:Nat):Int)/\((2*k:Nat):Int)<((16:Nat):Int))/\True:=⟨⟨by omega,by omega⟩,trivial⟩
  have b7:(0 <=((2*k+1:Nat):Int)/\((2*k+1:Nat):Int)<((16:Nat):Int))/\True:=⟨⟨by omega,by omega⟩,trivial⟩
  have a9:∀(i:Nat) (ag:i<a.length) (u:World),bW cp u->(Instr.loadAt bc (.pointer (some ⟨E,i,none⟩))).run prog u=.ok (.int .u8 ((a[i].toNat:Nat):Int)) u:=λi ag u cl=>(V.below cl).load1 cr rfl (Aw ag);refine⟨b6,_,a9 _ (by omega),by decide,b7,_,a9 _ (by omega),b5,?_⟩;intro dc D;have b2:=ae J D J.size;have bp:=H.below D;have bl:=Z.below D;have bk:=V.below D;have cn:(a[2*k]'(by omega)).toNat*256+(a[2*k+1]'(by omega)).toNat=xA a k:=by
   unfold xA;rw[List.getD_eq_getElem?_getD,List.getD_eq_getElem?_getD,List.getElem?_eq_getElem (by omega),List.getElem?_eq_getElem (by omega)];rfl
  have aj:=Ze (a:=(a[2*k]'(by omega)).toNat) (d:=(a[2*k+1]'(by omega)).toNat) (by have:=ov (a[2*k]'(by omega));omega) (by have:=ov (a[2*k+1]'(by omega));omega);rw[cn]at aj;have af:=yG a;have y:((gL a).take k++replicate (8-k) 0).length=8:=by simp[af];omega
  obtain⟨w8,an,aa,O⟩:=bp.put (P:=prog) Jn (i:=k) (v:=.int .u16 ((xA a k:Nat):Int)) (by rw[F1,y];omega) rfl rfl;have ch:((gL a).take k++replicate (8-k) 0).set k (xA a k)=(gL a).take (k+1)++replicate (8-(k+1)) 0:=by
   have cd:((gL a).take k).length=k:=by rw[length_take,af];omega
   rw[List.set_append_right _ _ (by omega),cd,Nat.sub_self,show 8-k=(8-(k+1))+1 by omega,List.replicate_succ (n:=8-(k+1)),List.set_cons_zero,take_succ_eq_append_getElem (by omega),Lm,append_assoc];rfl
  rw[RU,ch]at aa;rw[<- aj]at an;have b3:∃bb:Nat,bb<8-k/\∃k':Nat,k' <=8/\i64.wrap ((k:Int)+1)=(k':Int)/\bb=8-k'/\aB w8 k3 ba (Dl ((gL a).take k'++replicate (8-k') 0))/\aB w8 R ba (Dl [0,0,0,0,0,0,0,0])/\aB w8 E az (adC a)/\bW w w8:=
   ⟨8-(k+1),by omega,k+1,by omega,by rw[wrJ];omega,rfl,aa,bl.grown O (fM (by omega)),bk.grown O (fM (by omega)),Below.put b2 O cc⟩
  exact⟨w8,an,b3⟩
 ·have:k=8:=by omega
  subst this;have e8:(gL a).take 8++replicate (8-8) 0=gL a:=by rw[take_of_length_le (by rw[yG];exact Nat.le_refl _)];simp
  rw[e8]at H;have y:(Dl (gL a)).length=8:=by rw[F1];rfl
  obtain⟨cv,cf,bw,b4⟩:=yy.store0 y (Lu _) Z rfl;refine⟨_,_,_,_,_,_,_,_,yy.load0 H y,cv,cf,_,_,_,_,_,_,_,_,aB.res (yy.load0 bw y),rfl,Below.put J b4 (by omega)⟩
theorem lV {A:Bl}{a:Option Addr}{n c:Nat}{l:List Nat}(J:Sl VG w qw a n c (l.map λx:Nat=>(x:Int)))(bk:l.length <=8)(G:∀x∈l,x<65536)(Y:Env w):
 Cf iH #[.slice a n c] w (Ret λv w'=>v=vS (wrL l)/\bW w w'):=by
 apply zw;have af:=J.len;rw[length_map]at af;refine⟨λm a3 R F i w'=>∃k:Nat,k <=l.length/\i=(k:Int)/\m=l.length-k/\Ow tS ai w' NoB a3 R F ((l.take k).map zZ)/\bo w.heap.size a3/\bW w w',
  ⟨_,0,by omega,rfl,rfl,Ow.nil _ _ _ _,bo.none _,Below.refl _ _⟩,?_⟩
 intro m a3 R F i;refine aP.of ?_ _;rintro a8 ⟨k,be,rfl,rfl,E,Z,y⟩;refine ab.of (λh=>?_) (λh=>?_)<;>simp only[dTx,dFx]at h
 ·have H:k<l.length:=by omega
  have M:=J.below y;obtain⟨v,O,I⟩:=M.load1 (i:=(k:Int)) CS rfl rfl (by simp;omega);simp only[Int.toNat_natCast,List.getElem_map]at O I;obtain⟨an,-⟩:=I;obtain rfl:=(List.cons.inj an).1;have ac:=G l[k] (getElem_mem H);refine⟨⟨⟨by omega,h⟩,M.isSome (by simp;omega)⟩,_,O,?_⟩;rw[u64_in (by omega) (by omega)];refine aK (FV _ ac a8 (Y.step y)) ?_;rintro _ a9 ⟨rfl,D⟩;have U:=ae y D y.size;refine⟨_,rfl,?_⟩;intro bq bs ad av;have bp:((l.take k).map zZ).length <=8:=by simp;omega
  obtain⟨bb,a5,a0,c5,aj,ag,aa,V⟩:=uQ (ty:=aA) (w0:=w) (cm:=1) (vs:=[_]) (eX _) bh dG (by decide) (E.below D) Z U ad av (mu trivial) (by omega);refine⟨bb,a5,a0,c5,aj,l.length-(k+1),by omega,k+1,by omega,by rw[wrJ];omega,rfl,?_,aa,V⟩;rw[take_succ_eq_append_getElem H,map_append];exact ag
 ·have:k=l.length:=by omega
  subst this;rw[take_length]at E;have bl:=pR G;refine aK (Ga E.all [58] (by rw[length_map];omega) (by show(wrL l).length <=_;omega)) ?_;rintro _ a9 ⟨rfl,D⟩;exact⟨_,rfl,rfl,ae y D y.size⟩
theorem FB (F G H I J M O R:Nat)(w:World):
 Cf qR #[.agg #[.int .u16 (F:Int),.int .u16 (G:Int),.int .u16 (H:Int),.int .u16 (I:Int),.int .u16 (J:Int),.int .u16 (M:Int),.int .u16 (O:Int),.int .u16 (R:Int)]] w
  (Ret λv w'=>v=.tuple #[vI ((dI ([F,G,H,I,J,M,O,R].map (· ==0))).1:Int),vI ((dI ([F,G,H,I,J,M,O,R].map (· ==0))).2:Int)]/\bW w w'):=by
 apply DI;intro a0 U an ac;have aj:=(ac▸ar w _:bW w U)
 have Z:aB U a0 ba (Dl [F,G,H,I,J,M,O,R]):=aB.new an ac;obtain⟨y,V⟩:∃y,y=[F,G,H,I,J,M,O,R]:=⟨_,rfl⟩
 have bl:y.length=8:=by rw[V];rfl
 rw[<- V]at Z ⊢;clear V;refine⟨λm p af ru i w'=>∃k:Nat,k <=8/\i=(k:Int)/\m=8-k/\p=((mI (y.map (· ==0)) k).1:Int)/\af=((mI (y.map (· ==0)) k).2.1:Int)/\ru=((mI (y.map (· ==0)) k).2.2:Int)/\w'=U,⟨_,0,by omega,rfl,rfl,rfl,rfl,rfl,rfl⟩,?_⟩;intro m p af ru i;refine aP.of ?_ _;rintro bq ⟨k,bk,rfl,rfl,rfl,rfl,rfl,ad⟩;rw[ad];clear ad;obtain⟨a9,bb,be⟩:=JK (y.map (· ==0)) k;refine ab.of (λh=>?_) (λh=>?_)<;>simp only[dTx,dFx]at h
 ·have aa:k<y.length:=by omega
  have av:(y.map (· ==0)).getD k false=(y[k]==0):=by
   rw[List.getD_eq_getElem?_getD,List.getElem?_map,List.getElem?_eq_getElem aa];rfl
  rw[iC,Nat.zero_add];have ag:i64.wrap ((k:Int)+1)=((k+1:Nat):Int):=by rw[wrJ];omega
  try dsimp only
  rw[ag];refine WW (B:=λY=>_/\∃a8:Int,_/\ab (a8 !=0) (Y 0 U) (Y _ U)) ((if(y[k]==0)=true then(mI (y.map (· ==0)) k).2.2+1 else 0:Nat):Int) ⟨⟨⟨by omega,by omega⟩,rfl⟩,_,Z.load1 CS rfl (FZ aa),ab.of (λE=>⟨rfl,?_⟩) (λE=>⟨rfl,?_⟩)⟩ ?_
  ·rw[if_neg (by simp at E ⊢;omega)];rfl
  ·rw[if_pos (by simp at E ⊢;omega),wrJ];omega
  ·have D:mI (y.map (· ==0)) (k+1)=zst (mI (y.map (· ==0)) k) k (y[k]==0):=by rw[<- av];rfl
   have bp:(if(y[k]==0)=true then(mI (y.map (· ==0)) k).2.2+1 else 0) <=k+1:=by split<;>omega
   unfold zst at D;generalize (if(y[k]==0)=true then(mI (y.map (· ==0)) k).2.2+1 else 0)=ru at*;refine ab.of (λE=>?_) (λE=>?_)<;>simp only[gt_iff_lt,dTx,dFx]at E
   ·rw[if_pos (by omega)]at D;refine⟨8-(k+1),by omega,k+1,by omega,rfl,rfl,?_,?_,?_,rfl⟩
    ·rw[D,wrJ];show _=((k+1-ru:Nat):Int);omega
    ·rw[D]
    ·rw[D]
   ·rw[if_neg (by omega)]at D;exact⟨8-(k+1),by omega,k+1,by omega,rfl,rfl,by rw[D],by rw[D],by rw[D],rfl⟩
 ·have:k=8:=by omega
  subst this;exact⟨rfl,aj⟩
theorem HJ (zs:List Bool)(p l:Nat):Q3 zs p (l+1)=(Q3 zs p l&&zs.getD (p+l) false):=by
 unfold Q3;rw[List.range_succ,all_append];simp
theorem VY (a:lU)(h:k<8):(zsA a).getD k false=(xA a k==0):=by
 unfold zsA;rw[List.getD_eq_getElem?_getD,List.getElem?_map,List.getElem?_eq_getElem (by rw[yG];exact h),Lm];rfl
theorem IC (sep:lU)(r:List lU)(y:lU):Lib.joinTail sep (r++[y])=Lib.joinTail sep r++(sep++y):=by simp[Lib.joinTail]
theorem SZ (l:List Nat)(x:Nat):wrL (l++[x])=if l=[]then zZ x else wrL l++[58]++zZ x:=by
 unfold wrL;cases l with
 |nil=>simp[Lib.join_one]
 |cons y r=>
  rw[if_neg (by simp),map_append,map_cons,List.cons_append,map_cons,map_nil,Lib.join_cons,Lib.join_cons,IC];simp
theorem Fy (a:lU)(Z:a.length=16)(w:World)(I:Env w):Cf qP #[adV a] w (Ret λv w'=>v=vS (CH a)/\bW w w'):=by
 apply DG;intro bl O bb ag;have U:=(ag▸ar w _:bW w O)
 have av:aB O bl az (adC a):=aB.new bb ag;refine⟨_,cE.load0 av (by rw[dC,Z]),?_⟩;refine aK (Dg a Z O) ?_;rintro _ bu ⟨rfl,a0⟩;have V:=ae U a0 U.size;refine⟨_,_,_,_,_,_,_,_,rfl,?_⟩;refine yy.new (zs:=Dl [0,0,0,0,0,0,0,0]) (cs:=Dl (gL a)) rfl rfl (Lu _) bu λG bw b0 R a8=>?_;have Y:=ae V a8 V.size;refine⟨_,_,_,_,_,_,_,_,yy.load0 R rfl,?_⟩;refine aK (FB (xA a 0) (xA a 1) (xA a 2) (xA a 3) (xA a 4) (xA a 5) (xA a 6) (xA a 7) bw) ?_;rintro _ b3 ⟨rfl,ad⟩;have E:=ae Y ad Y.size;have H:=R.below ad;have bk:=Fl (QZ a);show ∃bs bt:Int,(Ending.returned (.tuple #[vI ((dI (zsA a)).1:Int),vI ((dI (zsA a)).2:Int)]):Ending)=.returned (.tuple #[vI bs,vI bt])/\_;have af:CH a=if(dI (zsA a)).2<2 then wrL (gL a)else wrL ((gL a).take (dI (zsA a)).1)++[58,58]++wrL ((gL a).drop ((dI (zsA a)).1+(dI (zsA a)).2)):=rfl;rw[af];clear af;generalize dI (zsA a)=aj at*;obtain⟨p,y⟩:=aj;have b2:p+y <=8:=bk.1;refine⟨(p:Int),(y:Int),rfl,?_⟩;show ab _ _ _;have J:=yG a;refine ab.of (λh=>?_) (λh=>?_)<;>simp only[dTx,dFx]at h
 ·rw[if_pos (show y<2 by omega)];have D:=H.sl16 (o:=0) (n:=8) (c:=8) (A:=⟨G,0,none⟩) (λ_=>rfl) (by rw[J];omega) (Nat.le_refl _) (by unfold maxLen;omega);have e8:((gL a).drop 0).take 8=gL a:=by rw[List.drop_zero,take_of_length_le (by omega)]
  rw[e8]at D;refine⟨trivial,?_⟩;refine aK (lV (A:=qw) D (by omega) (FW a) (I.step E)) ?_;rintro _ b4 ⟨rfl,a9⟩;exact⟨_,rfl,rfl,ae E a9 E.size⟩
 ·rw[if_neg (show ¬ y<2 by omega)];have an:i64.wrap ((p:Int)+(y:Int))=((p+y:Nat):Int):=by rw[wrJ];omega
  try dsimp only
  rw[an];simp only[Int.toNat_natCast];have aa:∀x∈(gL a).take p,x<65536:=λx M=>FW a x (mem_of_mem_take M);have ac:∀x∈(gL a).drop (p+y),x<65536:=λx M=>FW a x (List.mem_of_mem_drop M);have bp:=pR aa;have bq:=pR ac;rw[length_take]at bp;rw[length_drop]at bq;refine⟨⟨by omega,by omega⟩,wrL ((gL a).take p),λu F=>?_,fits (by simp;omega),?_⟩
  ·have D:=(H.below F).sl16 (o:=0) (n:=p) (c:=8) (A:=⟨G,0,none⟩) (λ_=>rfl) (by rw[J];omega) (by omega) (by unfold maxLen;omega);rw[List.drop_zero]at D;exact kz (lV (A:=qw) D (by rw[length_take];omega) aa ((I.step E).step F)) F
  rintro _ rfl;refine⟨⟨by omega,by omega⟩,wrL ((gL a).drop (p+y)),λu F=>?_,fits (by simp;omega),?_⟩
  ·have D:=(H.below F).sl16 (o:=p+y) (n:=8-(p+y)) (c:=8-(p+y)) (A:=if 8=p+y then⟨G,0,none⟩ else Addr.add ⟨G,0,none⟩ ((p+y)*1)) (λb1=>by rw[if_neg (by omega),Tg,Nat.zero_add,Nat.mul_one]) (by rw[J];omega) (Nat.le_refl _) (by unfold maxLen;omega);rw[take_of_length_le (by rw[length_drop];omega)]at D;exact kz (lV (A:=qw) D (by rw[length_drop];omega) ac ((I.step E).step F)) F
  rintro _ rfl;intro b5 be;exact⟨by simp only[append_assoc],ae E be E.size⟩
theorem tv (a:lU)(R:a.length=16)(k:Nat)(U:k<8)(w:World):Cf lD #[adV a,vI (k:Int)] w (Ret λv w'=>v=vI ((xA a k:Nat):Int)/\bW w w'):=by
 apply Cg;intro O F I E;have D:=(E▸ar w _:bW w F)
 have h1:aB F O az (adC a):=aB.new I E;have G:i64.wrap (2*(k:Int))=((2*k:Nat):Int):=by rw[wrJ];omega
 have H:i64.wrap (((2*k:Nat):Int)+1)=((2*k+1:Nat):Int):=by rw[wrJ];omega
 rw[G,H,iC,iC,Nat.zero_add,Nat.zero_add];refine⟨⟨⟨by omega,by omega⟩,rfl⟩,_,λu y=>(h1.below y).load1 cr rfl (Aw (a:=a) (i:=2*k) (by omega)),⟨⟨by omega,by omega⟩,rfl⟩,_,λu y=>(h1.below y).load1 cr rfl (Aw (a:=a) (i:=2*k+1) (by omega)),λZ M=>⟨?_,ae D M D.size⟩⟩;have V:=ov (a[2*k]'(by omega));have Y:=ov (a[2*k+1]'(by omega));have J:(a[2*k]'(by omega)).toNat*256+(a[2*k+1]'(by omega)).toNat=xA a k:=by
  unfold xA;rw[List.getD_eq_getElem?_getD,List.getD_eq_getElem?_getD,List.getElem?_eq_getElem (by omega),List.getElem?_eq_getElem (by omega)];rfl
 rw[<- J,wrap_i64 (n:=(((a[2*k]'(by omega)).toNat:Nat):Int)) (by omega) (by omega),wrap_i64 (n:=(((a[2*k+1]'(by omega)).toNat:Nat):Int)) (by omega) (by omega),wrJ (n:=_*_),wrJ];congr 1
theorem pG (a:lU)(J:a.length=16)(p q:Nat)(a8:p <=q)(a9:q <=8)(w:World):Cf ib #[adV a,vI (p:Int),vI (q:Int)] w
 (Ret λv w'=>v=vS (wrL (((gL a).drop p).take (q-p)))/\bW w w'):=by
 apply DU;intro af E ac O;have H:=(O▸ar w _:bW w E)
 have h1:aB E af az (adC a):=aB.new ac O;have aj:=yG a;have Z:∀j,∀x∈((gL a).drop p).take j,x<65536:=λj x y=>FW a x (List.mem_of_mem_drop (mem_of_mem_take y));refine⟨λm s i w'=>∃j:Nat,j <=q-p/\i=((p+j:Nat):Int)/\m=q-p-j/\s=wrL (((gL a).drop p).take j)/\bW E w',⟨_,0,by omega,rfl,rfl,rfl,Below.refl _ _⟩,?_⟩;intro m s i;refine aP.of ?_ _;rintro F ⟨j,an,rfl,rfl,rfl,D⟩;have ad:=pR (Z j);rw[length_take,length_drop]at ad;refine ab.of (λh=>?_) (λh=>?_)<;>simp only[dTx,dFx]at h
 ·have a0:p+j<q:=by omega
  refine Zu (B:=λG=>ab _ (_/\∀R,R=(_++[58])->G R F) (G _ F)) (if j=0 then[]else wrL (((gL a).drop p).take j)++[58]) (ab.of (λy=>⟨fits (by simp;omega),?_⟩) (λy=>⟨rfl,?_⟩)) ?_
  ·rintro _ rfl;simp only[gt_iff_lt,dTx]at y;exact⟨rfl,by rw[if_neg (by omega)]⟩
  ·simp only[gt_iff_lt,dFx]at y;have:j=0:=by omega
   subst this;rw[if_pos rfl];rfl
  ·refine⟨_,cE.load0 (h1.below D) (by rw[dC,J]),?_⟩;refine aK (tv a J (p+j) (by omega) F) ?_;rintro _ ag ⟨rfl,V⟩;have I:=ae D V D.size;refine⟨_,rfl,?_⟩;refine aK (yL (xA a (p+j)) (Kc _ _) ag) ?_;rintro _ bb ⟨rfl,Y⟩;have U:=ae I Y I.size;have av:=z6 (Kc a (p+j));refine⟨_,rfl,fits (by split<;>simp<;>omega),?_⟩;rintro _ rfl;refine⟨q-p-(j+1),by omega,j+1,by omega,by rw[wrJ];omega,rfl,?_,U⟩;have aa:j<((gL a).drop p).length:=by rw[length_drop];omega
   rw[take_succ_eq_append_getElem aa,SZ,List.getElem_drop,Lm];by_cases M:j=0
   ·subst M;rfl
   ·rw[if_neg M,if_neg];intro e;have:=congrArg length e;rw[length_take]at this;simp at this;omega
 ·have:j=q-p:=by omega
  subst this;exact⟨rfl,ae H D H.size⟩
theorem Dw (a:lU)(H:a.length=16)(w:World):Cf pb #[adV a] w (Ret λv w'=>v=vS (CH a)/\bW w w'):=by
 apply Ci;intro b0 I bq a8;have M:=(a8▸ar w _:bW w I)
 have h1:aB I b0 az (adC a):=aB.new bq a8;have R:(adC a).length=16:=by rw[dC,H]
 have cb:=yG a;obtain⟨a9,af,b5⟩:=Fl (QZ a);have av:CH a=if(dI (zsA a)).2<2 then wrL (gL a)else wrL ((gL a).take (dI (zsA a)).1)++[58,58]++wrL ((gL a).drop ((dI (zsA a)).1+(dI (zsA a)).2)):=rfl;refine⟨λm i w'=>∃L:Nat,1 <=L/\L <=8/\i=(L:Int)/\m=L/\(∀F A,L<F->A+F <=8->Q3 (zsA a) A F=false)/\bW I w',⟨_,8,by omega,by omega,rfl,rfl,λF A h1 U=>by omega,Below.refl _ _⟩,?_⟩;intro m i;refine aP.of ?_ _;rintro b3 ⟨L,b8,b9,rfl,bs,aa,O⟩;obtain rfl:L=m:=bs.symm;refine ab.of (λh=>?_) (λh=>?_)<;>simp only[ge_iff_le,dTx,dFx]at h
 ·have bl:2 <=L:=by omega
  refine⟨λm i w'=>∃A:Nat,A+L <=9/\i=(A:Int)/\m=9-A/\(∀D,D<A->Q3 (zsA a) D L=false)/\bW I w',⟨_,0,by omega,rfl,rfl,λD h=>by omega,O⟩,?_⟩;intro m i;refine aP.of ?_ _;rintro cl ⟨A,b6,rfl,rfl,Z,an⟩;have bb:i64.wrap ((A:Int)+(L:Int))=((A+L:Nat):Int):=by rw[wrJ];omega
  try dsimp only
  rw[bb];refine ab.of (λU=>?_) (λU=>?_)<;>simp only[dTx,dFx]at U
  ·have bk:A+L <=8:=by omega
   refine⟨λm b i w'=>∃j:Nat,j <=L/\i=((A+j:Nat):Int)/\m=L-j/\b=Q3 (zsA a) A j/\bW I w',⟨_,0,by omega,rfl,rfl,rfl,an⟩,?_⟩;intro m b i;refine aP.of ?_ _;rintro J ⟨j,cc,rfl,rfl,rfl,E⟩;have be:i64.wrap (((A+j:Nat):Int)+1)=((A+(j+1):Nat):Int):=by rw[wrJ];omega
   try dsimp only
   rw[be];refine ab.of (λag=>?_) (λag=>?_)<;>simp only[dTx,dFx]at ag
   ·have cd:j<L:=by omega
    refine ab.of (λG=>?_) (λG=>?_)
    ·refine⟨_,cE.load0 (h1.below E) R,?_⟩;refine aK (tv a H (A+j) (by omega) J) ?_;rintro _ b4 ⟨rfl,V⟩;refine⟨_,rfl,L-(j+1),by omega,j+1,by omega,rfl,rfl,?_,ae E V E.size⟩;rw[HJ,G,Bool.true_and,VY a (by omega),Bool.eq_iff_iff];simp
    ·exact⟨L-(j+1),by omega,j+1,by omega,rfl,rfl,by rw[HJ,G,Bool.false_and],E⟩
   ·have:j=L:=by omega
    subst this;refine ab.of (λG=>?_) (λG=>?_)
    ·have y:=b5 j A bl bk G;have aj:j=(dI (zsA a)).2/\A=(dI (zsA a)).1:=by
      rcases y with y|⟨a0,ch⟩
      ·exfalso;have:=af (by omega);rw[aa _ _ y a9]at this;cases this
      ·refine⟨a0,?_⟩;rcases Nat.lt_or_ge (dI (zsA a)).1 A with Y|Y
       ·exfalso;have:=af (by omega);rw[<- a0,Z _ Y]at this;cases this
       ·omega
     have b1:=pR (l:=(gL a).take A) λx ad=>FW a x (mem_of_mem_take ad);have b2:=pR (l:=(gL a).drop (A+j)) λx ad=>FW a x (List.mem_of_mem_drop ad);rw[length_take]at b1;rw[length_drop]at b2;have bt:∀u,bW J u->Cf ib #[adV a,vI 0,vI (A:Int)] u λe w'=>e=.returned (vS (wrL ((gL a).take A)))/\Below J.heap.size u w':=λu y=>by
      have:=pG a H 0 A (by omega) (by omega) u;rw[List.drop_zero,Nat.sub_zero]at this;exact kz this y
     have bu:∀u,bW J u->Cf ib #[adV a,vI ((A+j:Nat):Int),vI 8] u λe w'=>e=.returned (vS (wrL ((gL a).drop (A+j))))/\Below J.heap.size u w':=λu y=>by
      have:=pG a H (A+j) 8 (by omega) (by omega) u;rw[take_of_length_le (by rw[length_drop];omega)]at this;exact kz this y
     refine⟨_,λu y=>cE.load0 ((h1.below E).below y) R,_,bt,fits (by simp;omega),?_⟩;rintro _ rfl;refine⟨_,λu y=>cE.load0 ((h1.below E).below y) R,_,bu,fits (by simp;omega),?_⟩;rintro _ rfl;intro cn bw;have ac:=ae E bw E.size;refine⟨?_,ae M ac M.size⟩;rw[av,if_neg (by omega),<- aj.1,<- aj.2]
    ·refine⟨9-(A+1),by omega,A+1,by omega,by rw[wrJ];omega,rfl,λD b7=>?_,E⟩;by_cases e:D=A
     ·subst e;exact G
     ·exact Z D (by omega)
  ·refine⟨L-1,by omega,L-1,by omega,by omega,by rw[wrJ];omega,rfl,λF D cf bp=>?_,an⟩;by_cases e:F=L
   ·subst e;exact Z D (by omega)
   ·exact aa F D (by omega) bp
 ·refine⟨_,cE.load0 (h1.below O) R,?_⟩;have:=pG a H 0 8 (by omega) (by omega) b3;rw[List.drop_zero,take_of_length_le (by omega)]at this;refine aK this ?_;rintro _ b4 ⟨rfl,V⟩;have ac:=ae O V O.size;refine⟨_,rfl,?_,ae M ac M.size⟩;rw[av,if_pos];refine Decidable.byContradiction λY=>?_;have:=af (by omega);rw[aa _ _ (by omega) a9]at this;cases this
def eqV (P:Program):Nat->TypeId->Value->Value->Option Bool
 |0,_,_,_=>none
 |d+1,t,x,y=>match P.underlying t,x,y with
  |some .bool,.bool a,.bool b=>some (a==b)
  |some (.int _),.int k a,.int k' b=>if k=k' then some (a==b)else none
  |some .string,.string a,.string b=>some (toL a==toL b)
  |some (.struct fs),.agg xs,.agg ys=>if P.stoodInHeld t then none else
   fs.toList.foldr (λf r=>if f.name= "_" then r else match I0 P f.type xs f.offset,I0 P f.type ys f.offset with
    |some a,some b=>match eqV P d f.type a b,r with
     |some p,some q=>some (p&&q)
     |_,_=>none
    |_,_=>none) (some true)
  |some (.array n e),.agg xs,.agg ys=>match P.info? e with
   |some i=>(List.range n).foldr (λj r=>match I0 P e xs (j*i.size),I0 P e ys (j*i.size)with
    |some a,some b=>match eqV P d e a b,r with
     |some p,some q=>some (p&&q)
     |_,_=>none
    |_,_=>none) (some true)
   |none=>none
  |_,_,_=>none
theorem OA {P:Program} :∀(d:Nat) (t:TypeId) (x F:Value) (b:Bool) (w:World),eqV P d t x F=some b->(Op.equalIn d t x F).run P w=.ok b w:=by
 intro d;induction d with
 |zero=>intro t x F b w h;cases h
 |succ d U=>
  intro t x F b w h;unfold eqV at h;split at h
  ·rename_i y;cases h;exact run_equalIn_bool' w d t _ _ y
  ·rename_i Y k a k' c y;split at h
   ·rename_i e;subst e;cases h;exact run_equalIn_int w d t _ _ _ _ y
   ·cases h
  ·rename_i a c y;cases h;rw[run_equalIn_string w d t _ _ y];rw[ByteArray.toList_eq,ByteArray.toList_eq];rfl
  ·rename_i fs xs ys y;split at h
   ·cases h
   ·rename_i hp;have R:P.fieldsOf t=fs:=by unfold Program.fieldsOf;rw[y]
    rw[run_equalIn_struct w d t xs ys (by rw[R];exact y) (by simpa using hp),R];revert h;generalize fs.toList=l;induction l generalizing b with
    |nil=>intro h;cases h;rfl
    |cons f l E=>
     intro h;rw[List.foldr_cons]at h;unfold Op.eqFields;by_cases D:f.name= "_"
     ·rw[if_pos D]at h;rw[if_neg (by simpa using D)];exact E b h
     ·rw[if_neg D]at h;rw[if_pos D];split at h
      ·rename_i a c H I;split at h
       ·rename_i p q J M;cases h;have h1:=U f.type a c p w J;have G:=E q M;simp only[Sem.run_bind,vY H,vY I,Result.andThen_ok,h1];cases p
        ·simp
        ·simpa using G
       ·cases h
      ·cases h
  ·rename_i n e xs ys y;split at h
   ·rename_i i V;simp only[Op.equalIn,Sem.run_bind,bT y,Result.andThen_ok,fH V];rw[Std.Legacy.Range.forIn_eq_forIn_range'];have O:List.range' 0 ([0:n]:Std.Legacy.Range).size 1=List.range n:=by
     rw[List.range_eq_range'];simp[Std.Legacy.Range.size]
    rw[O];clear O;revert h;generalize List.range n=l;induction l generalizing b with
    |nil=>intro h;cases h;simp
    |cons j l E=>
     intro h;rw[List.foldr_cons]at h;split at h
     ·rename_i a c H I;split at h
      ·rename_i p q J M;cases h;have h1:=U e a c p w J;have G:=E q M;simp only[List.forIn_cons,Sem.run_bind,vY H,vY I,Result.andThen_ok,h1];cases p
       ·simp
       ·simpa using G
      ·cases h
     ·cases h
   ·cases h
  ·cases h
theorem Qk {P:Program}{x y:Operand}{xs ys:Array Value}{b:Bool}(D:P.eqGuardType P.depth t=false)(h:eqV P 10000 t (.agg xs) (.agg ys)=some b)(w:World):
 ((do eqGuard .eql t x y (.agg xs) (.agg ys);binOp .eql t (.agg xs) (.agg ys):Sem Value)).run P w=.ok (.bool b) w:=by
 rw[Sem.run_bind,run_eqGuard_agg w .eql t x y xs ys D,Result.andThen_ok,run_eql_struct,OA _ _ _ _ _ w h,Result.andThen_ok]
theorem Ql {P:Program}{x y:Operand}{xs ys:Array Value}{b:Bool}(D:P.eqGuardType P.depth t=false)(h:eqV P 10000 t (.agg xs) (.agg ys)=some b)(w:World):
 ((do eqGuard .neq t x y (.agg xs) (.agg ys);binOp .neq t (.agg xs) (.agg ys):Sem Value)).run P w=.ok (.bool (!b)) w:=by
 rw[Sem.run_bind,run_eqGuard_agg w .neq t x y xs ys D,Result.andThen_ok,run_neq_struct,OA _ _ _ _ _ w h,Result.andThen_ok]
structure Hst where
 kind:Int
 name:lU
 ad:lU
def Hst.cells (h:Hst):List Value:=vI h.kind::vS h.name::adC h.ad
def Hst.v (h:Hst):Value:=.agg h.cells.toArray
def jZ:Hst:=⟨0,[],ad0⟩
def Hst.ok (h:Hst):Prop:=h.ad.length=16
theorem Hst.len {h:Hst}(o:h.ok):h.cells.length=18:=by unfold Hst.cells;rw[length_cons,length_cons,dC,o]
theorem Hst.one (h:Hst):zR h.cells:=bz rfl (bz rfl (fI _))
def Wo:lU->lU->Bool
 |x::xs,y::ys=>((((x.toNat:Nat):Int))==((y.toNat:Nat):Int))&&Wo xs ys
 |_,_=>true
theorem KY:∀(xs ys:lU),xs.length=ys.length->(Wo xs ys=true↔xs=ys)
 |[],[],_=>by simp[Wo]
 |x::xs,[],h=>by simp at h
 |[],y::ys,h=>by simp at h
 |x::xs,y::ys,h=>by
  unfold Wo;rw[Bool.and_eq_true,KY xs ys (by simpa using h),beq_iff_eq];have e:((x.toNat:Nat):Int)=((y.toNat:Nat):Int)↔x=y:=⟨λh=>UInt8.toNat_inj.1 (by omega),λh=>by rw[h]⟩
  rw[e];simp
theorem pV {ac:Type} :∀(a:List ac),a.length=16->∃y D M O R U V Y Z aa E F G H I J,a=[y,D,M,O,R,U,V,Y,Z,aa,E,F,G,H,I,J]
 |[y,D,M,O,R,U,V,Y,Z,aa,E,F,G,H,I,J],_=>⟨y,D,M,O,R,U,V,Y,Z,aa,E,F,G,H,I,J,rfl⟩
def vH (h g:Hst):Bool:=(h.kind==g.kind)&&((h.name==g.name)&&(Wo h.ad g.ad&&true))
theorem rB {h g:Hst}(o:h.ok)(p:g.ok):vH h g=true↔h=g:=by
 unfold vH;rw[Bool.and_eq_true,Bool.and_eq_true,Bool.and_true,KY _ _ (o.trans p.symm),beq_iff_eq,beq_iff_eq];cases h;cases g;simp
def nR (c:UInt8):Bool:=(decide (97 <=c.toNat)&&decide (c.toNat <=122)) || (decide (48 <=c.toNat)&&decide (c.toNat <=57)) || c==45 || c==95
def ik (s:lU):Bool:=decide (1 <=s.length)&&decide (s.length <=63)&&s.all nR
def Do (L:List lU):lU:=L[L.length-1]?.getD []
def bY (s:lU):Option Hst:=
 if s.head?=some 91 then(if s.getLast?=some 93 then(v6A ((s.drop 1).take (s.length-2))).map λa=>⟨3,[],a⟩ else none)
 else if hZ (Do (bE 46 [] (eF s)))=true then(v4V s).map λa=>⟨2,[],a⟩
 else if s.length <=253/\(bE 46 [] (eF s)).all ik=true then some ⟨1,eF s,ad0⟩ else none
def O3:Option Hst->Value
 |some h=>.tuple #[h.v,vI 0]
 |none=>.tuple #[jZ.v,.int .i64 31]
theorem iX {h:Hst}(e:bY s=some h):h.ok:=by
 unfold bY at e;split at e
 ·split at e
  ·cases y:v6A ((s.drop 1).take (s.length-2))with
   |none=>rw[y]at e;cases e
   |some a=>rw[y]at e;cases e;exact QR _ a y
  ·cases e
 split at e
 ·cases y:v4V s with
  |none=>rw[y]at e;cases e
  |some a=>rw[y]at e;cases e;exact VV _ a y
 split at e
 ·cases e;rfl
 ·cases e
theorem sM (c:UInt8):∀(s cur:lU),Lib.join (bE c cur s) [c]=cur++s
 |[],cur=>by simp[bE,Lib.join_one]
 |x::r,cur=>by
  show Lib.join (if x=c then cur::bE c [] r else bE c (cur++[x]) r) [c]=_;split
  ·rename_i h;subst h;have E:=sM x r [];have F:=jN x r [];cases D:bE x [] r with
   |nil=>exact absurd D F
   |cons y l=>
    rw[D,Lib.join_cons,nil_append]at E;rw[Lib.join_cons];have e:Lib.joinTail [x] (y::l)=[x]++y++Lib.joinTail [x] l:=by simp[Lib.joinTail]
    rw[e,append_assoc [x] y,E];rfl
  ·rw[sM c r (cur++[x])];simp
theorem Hd (s:lU)(c:UInt8):Lib.hasSuffix s [c]=decide (s.getLast?=some c)/\Lib.trimSuffix s [c]=if s.getLast?=some c then s.take (s.length-1)else s:=by
 have h1:Lib.hasSuffix s [c]=decide (s.getLast?=some c):=by
  unfold Lib.hasSuffix;rw[Bool.eq_iff_iff,dTx,List.isSuffixOf_iff_suffix];constructor
  ·rintro⟨t,rfl⟩;simp
  ·intro h;obtain⟨t,rfl⟩:=List.getLast?_eq_some_iff.1 h;exact⟨t,rfl⟩
 refine⟨h1,?_⟩;unfold Lib.trimSuffix;rw[h1];by_cases h:s.getLast?=some c
 ·rw[if_pos (decide_eq_true h),if_pos h];rfl
 ·rw[if_neg (by rw[decide_eq_false h];decide),if_neg h]
theorem Pi (h:s.head?=some 91):((s.drop 1).getLast?=some 93↔s.getLast?=some 93):=by
 cases s with
 |nil=>cases h
 |cons x r=>
  obtain rfl:x=91:=Option.some.inj h;cases r with
  |nil=>simp
  |cons y r=>simp[List.getLast?_cons_cons]
theorem vK {L:List lU}(h:0<L.length):Do L=L[L.length-1]'(by omega):=by unfold Do;rw[List.getElem?_eq_getElem (by omega)];rfl
theorem bn:Whl prog am 18:=⟨⟨_,_,KH⟩,by kernel_rfl⟩
theorem Ux {h g:Hst}(o:h.ok)(p:g.ok):eqV prog 10000 am h.v g.v=some (vH h g):=by
 obtain⟨k,n,a⟩:=h;obtain⟨k',n',y⟩:=g;obtain⟨D,E,O,R,U,V,Y,Z,aa,ac,F,G,H,I,J,M,rfl⟩:=pV a o;obtain⟨ad,af,a9,bb,be,bk,bl,bp,bq,bs,ag,aj,an,av,a0,a8,rfl⟩:=pV y p;kernel_rfl
theorem OP:prog.eqGuardType prog.depth am=false:=by kernel_rfl
theorem Iw {h g:Hst}(o:h.ok)(p:g.ok){x y:Operand}(w:World):((do eqGuard .eql am x y h.v g.v;binOp .eql am h.v g.v:Sem Value)).run prog w=.ok (.bool (vH h g)) w:=
 Qk OP (Ux o p) w
theorem xG (k:Int){a:lU}(o:a.length=16)(w:World):(Instr.build am #[(0,vI k),(2,adV a)]).run prog w=.ok (Hst.v ⟨k,[],a⟩) w:=by
 obtain⟨y,D,M,O,R,U,V,Y,Z,aa,E,F,G,H,I,J,rfl⟩:=pV a o;kernel_rfl
theorem Dk (c:UInt8)(w:World):Cf oZ #[.int .u8 ((c.toNat:Nat):Int)] w (Ret λv w'=>v=.bool (nR c)/\w'=w):=by
 apply BU;have G:=om c 45;have H:=om c 95;rw[show(((45:UInt8).toNat:Nat):Int)=45 from rfl]at G;rw[show(((95:UInt8).toNat:Nat):Int)=95 from rfl]at H;rw[G,H];unfold nR;have y:∀{b:Bool} {x:Bool},b=x->(.bool b:Value)=.bool x/\w=w:=λh=>⟨by rw[h],rfl⟩
 refine ab.of (λh=>?_) (λh=>?_)<;>simp only[ge_iff_le,dTx,dFx]at h
 ·refine ab.of (λF=>y ?_) (λF=>?_)<;>simp only[ge_iff_le,dTx,dFx]at F
  ·rw[decide_eq_true (p:=97 <=c.toNat) (by omega),decide_eq_true (p:=c.toNat <=122) (by omega)];rfl
  ·rw[decide_eq_false (p:=c.toNat <=122) (by omega),Bool.and_false,Bool.false_or];refine ab.yes (by simp;omega) (ab.no (by simp;omega) ?_);rw[decide_eq_false (p:=c.toNat <=57) (by omega),Bool.and_false,Bool.false_or];exact ab.of (λE=>y (by rw[E];rfl)) (λE=>y (by rw[E,Bool.false_or]))
 ·rw[decide_eq_false (p:=97 <=c.toNat) (by omega),Bool.false_and,Bool.false_or];refine ab.of (λF=>?_) (λF=>?_)<;>simp only[ge_iff_le,dTx,dFx]at F
  ·rw[decide_eq_true (p:=48 <=c.toNat) (by omega),Bool.true_and];refine ab.of (λE=>y ?_) (λE=>?_)<;>simp only[ge_iff_le,dTx,dFx]at E
   ·rw[decide_eq_true (p:=c.toNat <=57) (by omega)];rfl
   ·rw[decide_eq_false (p:=c.toNat <=57) (by omega),Bool.false_or];exact ab.of (λD=>y (by rw[D];rfl)) (λD=>y (by rw[D,Bool.false_or]))
  ·rw[decide_eq_false (p:=48 <=c.toNat) (by omega),Bool.false_and,Bool.false_or];exact ab.of (λD=>y (by rw[D];rfl)) (λD=>y (by rw[D,Bool.false_or]))
theorem FY (s:lU)(aj:s.length <=9223372036854775800)(w:World):Cf qT #[vS s] w (Ret λv w'=>v=.bool (ik s)/\bW w w'):=by
 apply DM;refine ab.of (λh=>?_) (λh=>⟨?_,Below.refl _ _⟩)
 ·have G:s≠[]:=by simpa using h
  have h1:1 <=s.length:=List.length_pos_iff.2 G;refine ab.of (λM=>?_) (λM=>⟨?_,Below.refl _ _⟩)<;>simp only[dTx,dFx]at M
  ·obtain⟨D,a,n,c,ac,I,U,af⟩:=oI (P:=prog) aI bH cr w s (by omega) NoB;have aa:=I.len;subst aa;refine⟨D,a,_,c,ac,?_⟩;have Z:ik s=s.all nR:=by unfold ik;rw[decide_eq_true h1,decide_eq_true (by omega),Bool.true_and,Bool.true_and]
   refine aK (K:=λv w'=>v=.bool (!(s.all nR))/\w'=D) ?_ ?_
   ·apply ft;refine aK (K:=λv w'=>∃i:Int,v=vI i/\(decide (i >=0))=(!(s.all nR))/\w'=D) ?_ ?_
    ·apply fQ;refine⟨λm i w'=>∃k:Nat,k <=s.length/\i=(k:Int)/\m=s.length-k/\(s.take k).all nR=true/\w'=D,⟨_,0,by omega,rfl,rfl,rfl,rfl⟩,?_⟩;intro m i;refine aP.of ?_ _;rintro w' ⟨k,ag,rfl,rfl,H,R⟩;rw[R];clear R;refine ab.of (λh=>?_) (λh=>?_)<;>simp only[dTx,dFx]at h
     ·have F:k<s.length:=by omega
      obtain⟨v,O,ad⟩:=I.all.load1 (i:=(k:Int)) cr rfl rfl (by simpa using F);have:=CP ad;subst this;simp only[Int.toNat_natCast]at O;refine⟨⟨⟨by omega,h⟩,I.all.isSome F⟩,_,O,?_⟩;refine aK (K:=λv w'=>v=.bool (!nR s[k])/\w'=D) ?_ ?_
      ·apply yc;refine aK (Dk _ D) ?_;rintro _ J ⟨rfl,y⟩;exact⟨_,rfl,rfl,y⟩
      rintro _ J ⟨rfl,y⟩;rw[y];refine⟨_,rfl,ab.of (λE=>?_) (λE=>?_)⟩
      ·refine⟨_,rfl,?_,rfl⟩;have:s.all nR=false:=by
        rw[Bool.eq_false_iff];intro V;rw[List.all_eq_true.1 V _ (getElem_mem F)]at E;cases E
       rw[this,decide_eq_true (by omega)];rfl
      ·refine⟨s.length-(k+1),by omega,k+1,by omega,by rw[wrJ];omega,rfl,?_,rfl⟩;rw[take_succ_eq_append_getElem F,all_append,H];simpa using E
     ·have:k=s.length:=by omega
      subst this;rw[take_length]at H;exact⟨_,rfl,by rw[H];decide,rfl⟩
    ·rintro _ J ⟨i,rfl,Y,y⟩;exact⟨_,rfl,by rw[Y],y⟩
   ·rintro _ J ⟨rfl,y⟩;rw[y];exact⟨_,rfl,by rw[Z,Bool.not_not],U⟩
  ·unfold ik;rw[decide_eq_false (p:=s.length <=63) (by omega),Bool.and_false,Bool.false_and]
 ·have G:s=[]:=by simpa using h
  subst G;rfl
theorem Dz (s:lU)(ag:s.length <=9223372036854775800)(w:World):Cf pj #[vS s] w (Ret λv w'=>v=.bool (ik s)/\w'=w):=by
 apply Cp;refine⟨λm i w'=>∃k:Nat,k <=s.length/\i=(k:Int)/\m=s.length-k/\(s.take k).all nR=true/\w'=w,⟨_,0,by omega,rfl,rfl,rfl,rfl⟩,?_⟩;intro m i;refine aP.of ?_ _;rintro w' ⟨k,af,rfl,rfl,M,V⟩;rw[V];clear V;refine ab.of (λh=>?_) (λh=>?_)<;>simp only[dTx,dFx]at h
 ·have J:k<s.length:=by omega
  rw[byte_at J];have R:=om s[k] 45;have U:=om s[k] 95;rw[show(((45:UInt8).toNat:Nat):Int)=45 from rfl]at R;rw[show(((95:UInt8).toNat:Nat):Int)=95 from rfl]at U;simp only[bne,R,U];have xN:nR s[k]=true->∃F:Nat,F<s.length-k/\∃y:Nat,y <=s.length/\i64.wrap ((k:Int)+1)=(y:Int)/\F=s.length-y/\(s.take y).all nR=true/\True:=λD=>
   ⟨s.length-(k+1),by omega,k+1,by omega,by rw[wrJ];omega,rfl,by rw[take_succ_eq_append_getElem J,all_append,M];simp[D],trivial⟩
  have O:nR s[k]=false->(.bool false:Value)=.bool (ik s)/\True:=λD=>⟨by
   have:s.all nR=false:=by
    rw[Bool.eq_false_iff];intro aa;rw[List.all_eq_true.1 aa _ (getElem_mem J)]at D;cases D
   unfold ik;rw[this,Bool.and_false],trivial⟩
  refine⟨⟨by omega,h⟩,?_⟩;generalize s[k]=c at*;have tail: ¬ (97 <=c.toNat/\c.toNat <=122)-> ¬ (48 <=c.toNat/\c.toNat <=57)->ab (!(c==45)) (ab (!(c==95)) ((.bool false:Value)=.bool (ik s)/\True) (∃F:Nat,F<s.length-k/\∃y:Nat,y <=s.length/\i64.wrap ((k:Int)+1)=(y:Int)/\F=s.length-y/\(s.take y).all nR=true/\True)) (∃F:Nat,F<s.length-k/\∃y:Nat,y <=s.length/\i64.wrap ((k:Int)+1)=(y:Int)/\F=s.length-y/\(s.take y).all nR=true/\True):=λac ad=>by
   have Y:(decide (97 <=c.toNat)&&decide (c.toNat <=122))=false:=by rw[Bool.eq_false_iff];intro D;simp at D;exact ac D
   have Z:(decide (48 <=c.toNat)&&decide (c.toNat <=57))=false:=by rw[Bool.eq_false_iff];intro D;simp at D;exact ad D
   have D:nR c=(c==45 || c==95):=by unfold nR;rw[Y,Z];simp
   rw[D]at xN O;refine ab.of (λE=>ab.of (λI=>O ?_) (λI=>xN ?_)) (λE=>xN ?_)
   ·rw[Bool.not_eq_true']at E I;rw[E,I];rfl
   ·rw[Bool.not_eq_false']at I;rw[I];simp
   ·rw[Bool.not_eq_false']at E;rw[E];simp
  refine ab.of (λG=>?_) (λG=>?_)<;>simp only[dTx,dFx]at G
  ·refine ab.of (λH=>tail (by omega) ?_) (λH=>?_)<;>simp only[gt_iff_lt,dTx,dFx]at H
   ·omega
   ·refine ab.of (λE=>tail (by omega) ?_) (λE=>xN ?_)<;>simp only[gt_iff_lt,dTx,dFx]at E
    ·omega
    ·unfold nR;rw[decide_eq_true (p:=48 <=c.toNat) (by omega),decide_eq_true (p:=c.toNat <=57) (by omega)];simp
  ·refine ab.of (λH=>?_) (λH=>xN ?_)<;>simp only[gt_iff_lt,dTx,dFx]at H
   ·refine ab.no (by simp;omega) (ab.yes (by simp;omega) (tail (by omega) (by omega)))
   ·unfold nR;rw[decide_eq_true (p:=97 <=c.toNat) (by omega),decide_eq_true (p:=c.toNat <=122) (by omega)];simp
 ·have:k=s.length:=by omega
  subst this;rw[take_length]at M;unfold ik;rw[M,Bool.and_true];refine ab.of (λG=>⟨?_,rfl⟩) (λG=>⟨?_,rfl⟩)<;>simp only[ge_iff_le,dTx,dFx]at G
  ·rw[decide_eq_true (p:=1 <=s.length) (by omega),Bool.true_and];congr 1;rw[Bool.eq_iff_iff];simp;omega
  ·rw[decide_eq_false (p:=1 <=s.length) (by omega),Bool.false_and]
theorem iy (o:Option Hst):O3 o=.tuple #[(o.getD jZ).v,vI (if o.isSome then 0 else 31)]:=by cases o<;>rfl
theorem pD {o:Option Hst}(h:∀x,o=some x->x.ok):(o.getD jZ).ok:=by
 cases o with
 |none=>rfl
 |some x=>exact h x rfl
theorem mp (k:Int)(a:lU)(o:a.length=16)(b:Bool)(w:World):Cf iI #[vI k,adV a,.bool b] w (Ret λv w'=>v=O3 (if b=true then some ⟨k,[],a⟩ else none)/\bW w w'):=by
 apply zx;intro aa E Y R;have F:=(R▸ar w _:bW w E)
 have V:aB E aa az (adC a):=aB.new Y R;intro k6 H Z U;have M:=(U▸ar E _:bW E H)
 have J:=ae F M F.size;have I:aB H k6 am jZ.cells:=aB.new Z U;have O:w.heap.size <=k6:=by have:=F.size;omega
 refine ab.of (λh=>?_) (λh=>?_)
 ·have y:b=false:=by simpa using h
  rw[y];exact bn.fin (K:=λG D=>(.tuple #[G,vI 31]:Value)=O3 (if false=true then some ⟨k,[],a⟩ else none)/\bW w D) (cs:=jZ.cells) rfl (Hst.one _) I rfl J O λD y=>⟨rfl,y⟩
 ·have y:b=true:=by simpa using h
  rw[y];refine⟨_,cE.load0 (V.below M) (by rw[dC,o]),_,xG k o H,?_⟩;exact bn.fin (K:=λG D=>(.tuple #[G,vI 0]:Value)=O3 (if true=true then some ⟨k,[],a⟩ else none)/\bW w D) (cs:=Hst.cells ⟨k,[],a⟩) (Hst.len o) (Hst.one _) I rfl J O λD y=>⟨rfl,y⟩
theorem Ph {A:Bl}{a:Option Addr}{n c:Nat}{L:List lU}(I:Sl tS w qw a n c L)(V:∀x∈L,x.length <=9223372036854775800)(Y:L.length <=9223372036854775800):
 Cf dp #[.slice a n c,.func (.func dD) #[] #[]] w (Ret λv w'=>v=.bool (!(L.all ik))/\bW w w'):=by
 have aa:=I.len;apply eT;refine aK (K:=λv w'=>∃i:Int,v=vI i/\(decide (i >=0))=(!(L.all ik))/\bW w w') ?_ ?_
 ·apply fi;refine⟨λm i w'=>∃k:Nat,k <=L.length/\i=(k:Int)/\m=L.length-k/\(L.take k).all ik=true/\bW w w',⟨_,0,by omega,rfl,rfl,rfl,Below.refl _ _⟩,?_⟩;intro m i;refine aP.of ?_ _;rintro M ⟨k,Z,rfl,rfl,H,D⟩;refine ab.of (λh=>?_) (λh=>?_)<;>simp only[dTx,dFx]at h
  ·have F:k<L.length:=by omega
   have J:=I.below D;refine⟨⟨⟨by omega,h⟩,J.isSome (by omega)⟩,_,J.text aI F,?_⟩;refine aK (K:=λv w'=>v=.bool (!ik L[k])/\bW M w') ?_ ?_
   ·apply yb;refine aK (FY _ (V _ (getElem_mem F)) M) ?_;rintro _ O ⟨rfl,G⟩;exact⟨_,rfl,rfl,G⟩
   rintro _ O ⟨rfl,G⟩;have E:=ae D G D.size;refine⟨_,rfl,ab.of (λy=>?_) (λy=>?_)⟩
   ·refine⟨_,rfl,?_,E⟩;have:L.all ik=false:=by
     rw[Bool.eq_false_iff];intro R;rw[List.all_eq_true.1 R _ (getElem_mem F)]at y;cases y
    rw[this,decide_eq_true (by omega)];rfl
   ·refine⟨L.length-(k+1),by omega,k+1,by omega,by rw[wrJ];omega,rfl,?_,E⟩;rw[take_succ_eq_append_getElem F,all_append,H];simpa using y
  ·have:k=L.length:=by omega
   subst this;rw[take_length]at H;exact⟨_,rfl,by rw[H];decide,D⟩
 ·rintro _ O ⟨i,rfl,U,E⟩;exact⟨_,rfl,by rw[U],E⟩
def sy (s:lU)(w:World)(v:Value)(w':World):Prop:=v=O3 (bY s)/\bW w w'
theorem lI (s:lU)(dm:s.length <=2000000000)(w:World)(bp:Env w):Cf jd #[vS s] w (Ret (sy s w)):=by
 apply DJ;intro k2 R c9 b9;have V:=(b9▸ar w _:bW w R)
 have b0:aB R k2 am jZ.cells:=aB.new c9 b9;have dc:w.heap.size <=k2:=by omega
 refine aK (Om s 91 R) ?_;rintro _ bt ⟨rfl,af⟩;rw[af];clear af;refine⟨_,_,rfl,?_⟩;have U:∀{a9:World} (o:Option Hst),(∀x,o=some x->x.ok)->bY s=o->aB a9 k2 am jZ.cells->bW w a9->
  ∃wy,(Instr.storeAt am (.pointer (some ⟨k2,0,none⟩)) (o.getD jZ).v).run prog a9=.ok () wy/\∃av:Value,(aS am (.pointer (some ⟨k2,0,none⟩))).run prog wy=.ok av wy/\sy s w (.tuple #[av,vI (if o.isSome then 0 else 31)]) wy:=fun{a9} o O G cp c2=>
  bn.fin (K:=λav wy=>sy s w (.tuple #[av,vI (if o.isSome then 0 else 31)]) wy) (cs:=(o.getD jZ).cells) (Hst.len (pD O)) (Hst.one _) cp rfl c2 dc λwy c3=>⟨by rw[G,iy];rfl,c3⟩
 by_cases I:s.head?=some 91
 ·rw[if_pos I,decide_eq_true I];refine ab.yes rfl ?_;have G:bY s=if s.getLast?=some 93 then(v6A ((s.drop 1).take (s.length-2))).map λa=>⟨3,[],a⟩ else none:=by unfold bY;rw[if_pos I]
  have b6:=Pi I;refine(Tryz.strings_CutSuffix (mkS (s.drop 1)) (mkS [93]) R (by show(s.drop 1).length <=_;rw[length_drop];omega)).mono ?_;rintro _ bt ⟨rfl,af⟩;rw[af];clear af;have b7:=Hd (s.drop 1) 93;have cd:(mkS (s.drop 1)).data.toList=s.drop 1:=rfl;have cf:(mkS [93]).data.toList=[93]:=rfl;rw[cd,cf,b7.1,b7.2];obtain⟨inner,an⟩:∃inner,inner=if(s.drop 1).getLast?=some 93 then(s.drop 1).take ((s.drop 1).length-1)else s.drop 1:=⟨_,rfl⟩
  rw[<- an];have dk:inner.length <=s.length:=by rw[an];split<;>simp<;>omega
  refine⟨inner,_,rfl,?_⟩;refine aK (Mn inner (by omega) R (bp.step V)) ?_;rintro _ bu ⟨rfl,ac⟩;have Y:=ae V ac V.size;refine⟨_,_,by rw[EN],?_⟩;have F:=yA (QR inner);refine cE.new (zs:=adC ad0) (cs:=adC ((v6A inner).getD ad0)) rfl F (fI _) bu λdf a8 dd be ad=>?_;have M:=ae Y ad Y.size;have ag:=(b0.below ac).below ad;refine⟨_,cE.load0 be F,?_⟩;have b8:bY s=if(v6A inner).isSome=true/\(s.drop 1).getLast?=some 93 then some ⟨3,[],(v6A inner).getD ad0⟩ else none:=by
   rw[G];by_cases E:s.getLast?=some 93
   ·have b3:=b6.2 E;rw[if_pos E,if_pos b3]at*;rw[length_drop,show s.length-1-1=s.length-2 by omega]at an;rw[<- an];cases v6A inner with
    |none=>rw[if_neg (λh=>by cases h.1)];rfl
    |some x=>rw[if_pos ⟨rfl,b3⟩];rfl
   ·rw[if_neg E,if_neg (λh=>E (b6.1 h.2))]
  refine ab.of (λbs=>?_) (λbs=>?_)
  ·refine aK (mp 3 _ (by rw[<- dC];exact F) _ a8) ?_;rintro _ cc ⟨rfl,H⟩;have aa:=ae M H M.size;refine⟨_,_,by rw[iy],?_⟩;refine U _ (λx y=>?_) ?_ (ag.below H) aa
   ·split at y
    ·cases y;show((v6A inner).getD ad0).length=16;rw[<- dC];exact F
    ·cases y
   ·rw[b8,bs];by_cases E:(s.drop 1).getLast?=some 93
    ·rw[if_pos ⟨rfl,E⟩,if_pos (by simpa using E)]
    ·rw[if_neg (λh=>E h.2),if_neg (by simpa using E)]
  ·refine aK (mp 3 _ (by rw[<- dC];exact F) _ a8) ?_;rintro _ cc ⟨rfl,H⟩;have aa:=ae M H M.size;refine⟨_,_,by rw[iy],?_⟩;refine U _ (λx y=>by cases y) ?_ (ag.below H) aa;rw[b8,bs,if_neg (λh=>by cases h.1)];rfl
 ·rw[if_neg I,decide_eq_false I];refine ab.no rfl ?_;have G:bY s=if hZ (Do (bE 46 [] (eF s)))=true then(v4V s).map λa=>⟨2,[],a⟩ else if s.length <=253/\(bE 46 [] (eF s)).all ik=true then some ⟨1,eF s,ad0⟩ else none:=by unfold bY;rw[if_neg I]
  refine aK (kg s (by omega) R) ?_;rintro _ bt ⟨rfl,b1⟩;have bk:=ae V b1 V.size;refine⟨_,rfl,?_⟩;have cb:(eF s).length=s.length:=by simp[eF]
  refine aK (eH (eF s) 46 (by omega) bt (bp.step bk)) ?_;rintro _ bu ⟨a,n,c,rfl,O,dj,ac⟩;have Y:=ae bk ac bk.size;have cl:=(b0.below b1).below ac;have de:=O.len;subst de;have b5:∀x∈bE 46 [] (eF s),x.length <=s.length:=λx y=>by have:=gp 46 (eF s) [] x y;simp[cb]at this;omega
  have dg:=dK 46 (eF s) [];have bq:0<(bE 46 [] (eF s)).length:=List.length_pos_iff.2 (jN 46 (eF s) []);have b4:=sM 46 (eF s) [];refine⟨_,_,_,rfl,?_⟩;generalize bE 46 [] (eF s)=L at*;have ch:i64.wrap (((L.length:Nat):Int)-1)=((L.length-1:Nat):Int):=by rw[wrJ];omega
  try dsimp only
  rw[ch];refine⟨⟨⟨by omega,by omega⟩,O.all.isSome bq⟩,_,O.all.text aI (by omega),?_⟩;rw[<- vK bq];have dl:(Do L).length <=s.length:=by rw[vK bq];exact b5 _ (getElem_mem _)
  refine aK (rF (Do L) (by omega) bu) ?_;rintro _ bw ⟨rfl,aj⟩;have J:=ae Y aj Y.size;have bb:=cl.below aj;refine⟨_,rfl,ab.of (λbl=>?_) (λbl=>?_)⟩
  ·rw[if_pos bl]at G;refine aK (Mm s (by omega) bw (bp.step J)) ?_;rintro _ a0 ⟨rfl,D⟩;have Z:=ae J D J.size;refine⟨_,_,by rw[EN],?_⟩;have F:=yA (VV s);refine cE.new (zs:=adC ad0) (cs:=adC ((v4V s).getD ad0)) rfl F (fI _) a0 λdf a8 dd be ad=>?_;have M:=ae Z ad Z.size;have ag:=(bb.below D).below ad;refine⟨_,cE.load0 be F,?_⟩;refine aK (mp 2 _ (by rw[<- dC];exact F) _ a8) ?_;rintro _ cc ⟨rfl,H⟩;have aa:=ae M H M.size;refine⟨_,_,by rw[iy],?_⟩;refine U _ (λx y=>?_) ?_ (ag.below H) aa
   ·split at y
    ·cases y;show((v4V s).getD ad0).length=16;rw[<- dC];exact F
    ·cases y
   ·rw[G];cases v4V s<;>rfl
  ·rw[if_neg (by rw[bl];decide)]at G;have c4: ¬ (s.length <=253/\L.all ik=true)->bY s=none:=λh=>by rw[G,if_neg h]
   refine iV (λw'=>(s.length <=253/\L.all ik=true)/\bW bw w') ?_ ?_
   ·refine HP (λb w'=>b=(!decide (s.length <=253/\L.all ik=true))/\bW bw w') ?_ ?_
    ·refine ab.of (λh=>⟨?_,Below.refl _ _⟩) (λh=>?_)<;>simp only[gt_iff_lt,dTx,dFx]at h
     ·rw[decide_eq_false (λE=>by have:=E.1;omega)];rfl
     ·refine aK (Ph (A:=qw) (O.below aj).all (λx y=>by have:=b5 x y;omega) (by omega)) ?_;rintro _ a0 ⟨rfl,D⟩;refine⟨_,rfl,?_,D⟩;have cn:s.length <=253:=by omega
      congr 1;rw[Bool.eq_iff_iff,dTx];exact⟨λh=>⟨cn,h⟩,λh=>h.2⟩
    ·rintro b a0 ⟨rfl,D⟩;refine ab.of (λh=>?_) (λh=>⟨by rw[Bool.not_eq_false']at h;exact of_decide_eq_true h,D⟩);exact U none (λx y=>by cases y) (c4 (by rw[Bool.not_eq_true']at h;exact of_decide_eq_false h)) (bb.below D) (ae J D J.size)
   ·rintro a0 ⟨c8,D⟩;have Z:=ae J D J.size;refine aK (Ga ((O.below aj).below D).all [46] (by omega) (by rw[b4];simp[cb];omega)) ?_;rintro _ dn ⟨rfl,b2⟩;have cv:=ae Z b2 Z.size;rw[b4,nil_append];refine⟨_,rfl,?_⟩;exact U (some ⟨1,eF s,ad0⟩) (λx y=>by cases y;rfl) (by rw[G,if_pos c8]) ((bb.below D).below b2) cv
def mo (h:Hst):lU:=if h.kind=1 then h.name else if h.kind=2 then CG h.ad else if h.kind=3 then[91]++CH h.ad++[93]else[]
def mh (h:Hst):Bool:=match bY (mo h)with|some g=>vH g h|none=>false
def aZ (h:Hst):List lU:=if h.kind=1/\mh h=true then bE 46 [] h.name else[]
theorem QD {a:lU}(h:a.length=16):(CG a).length <=88:=by
 have:=Br ((a.drop 12).map λc=>Ic c.toNat) 46 21 (λx y=>by
  obtain⟨c,_,rfl⟩:=List.mem_map.1 y;have:=ov c;exact oO (by omega))
 rw[length_map,length_drop,h]at this;exact this
theorem CI (a:lU):(CH a).length <=90:=by
 have F:=yG a;unfold CH;split
 ·have:=pR (FW a);omega
 ·have D:=pR (l:=(gL a).take (dI (zsA a)).1) λx y=>FW a x (mem_of_mem_take y);have E:=pR (l:=(gL a).drop ((dI (zsA a)).1+(dI (zsA a)).2)) λx y=>FW a x (List.mem_of_mem_drop y);rw[length_take]at D;rw[length_drop]at E;simp;omega
theorem Iu {h:Hst}(o:h.ok):(mo h).length <=h.name.length+100:=by
 have y:=QD o;have D:=CI h.ad;unfold mo;split
 ·omega
 split
 ·omega
 split
 ·simp;omega
 ·simp
theorem Ru {h:Hst}(j:Nat):h.cells[2+j]? =(adC h.ad)[j]? :=by rw[Nat.add_comm];rfl
theorem Lt {h:Hst}(o:h.ok){T:TypeId}(y:aB w k T h.cells):(Instr.loadAt az (.pointer (some ⟨k,2,none⟩))).run prog w=.ok (adV h.ad) w:=
 cE.load y (i:=2) (us:=adC h.ad) (by rw[dC,o]) λj _=>Ru j
theorem ki (s:lU)(dl:s.length <=90000000)(w:World):Cf iw #[vS s] w (Ret (sy s w)):=by
 apply Cm;intro k2 O cl b9;have aa:=(b9▸ar w _:bW w O)
 have bk:aB O k2 am jZ.cells:=aB.new cl b9;have cn:w.heap.size <=k2:=by omega
 have a0:∀{J:World} (o:Option Hst),(∀x,o=some x->x.ok)->bY s=o->aB J k2 am jZ.cells->bW w J->
  ∃wy,(Instr.storeAt am (.pointer (some ⟨k2,0,none⟩)) (o.getD jZ).v).run prog J=.ok () wy/\∃bb:Value,(aS am (.pointer (some ⟨k2,0,none⟩))).run prog wy=.ok bb wy/\sy s w (.tuple #[bb,vI (if o.isSome then 0 else 31)]) wy:=fun{J} o D y bl bp=>
  bn.fin (K:=λbb wy=>sy s w (.tuple #[bb,vI (if o.isSome then 0 else 31)]) wy) (cs:=(o.getD jZ).cells) (Hst.len (pD D)) (Hst.one _) bl rfl bp cn λwy I=>⟨by rw[y,iy];rfl,I⟩
 have U:=fun{J:World} (y:bY s=none) (bl:aB J k2 am jZ.cells) (bp:bW w J)=>a0 none (λx av=>by cases av) y bl bp;refine jE (w:=O) (¬ s.head?=some 91) ?_ (λZ=>?_)
 ·refine⟨λb w'=>w'=O/\b=decide (s.head?=some 91),ab.of (λh=>⟨⟨by decide,by simpa using h⟩,rfl,?_⟩) (λh=>⟨rfl,?_⟩),λb=>aP.of ?_ _⟩
  ·have ag:0<s.length:=by simpa using h
   have I:=byte_at (s:=s) (k:=0) ag;rw[show((0:Nat):Int)=0 from rfl]at I;have aj:=om s[0] 91;rw[show(((91:UInt8).toNat:Nat):Int)=91 from rfl]at aj;rw[I,aj,List.head?_eq_getElem?,List.getElem?_eq_getElem ag,Bool.eq_iff_iff];simp
  ·have ag:s=[]:=by
    simp only[gt_iff_lt,dFx]at h;exact List.length_eq_zero_iff.1 (by omega)
   subst ag;rfl
  ·rintro dn ⟨cc,I⟩;rw[cc,I];clear cc I;refine ab.of (λh=>?_) (λh=>⟨rfl,of_decide_eq_false h⟩);have Z:s.head?=some 91:=of_decide_eq_true h;have c2:s≠[]:=by rintro rfl;cases Z
   have ag:0<s.length:=List.length_pos_iff.2 c2;have y:bY s=if s.getLast?=some 93 then(v6A ((s.drop 1).take (s.length-2))).map λa=>⟨3,[],a⟩ else none:=by unfold bY;rw[if_pos Z]
   have be:i64.wrap (((s.length:Nat):Int)-1)=((s.length-1:Nat):Int):=by rw[wrJ];omega
   try dsimp only
   rw[be,byte_at (show s.length-1<s.length by omega)];have b7:s.getLast?=some (s[s.length-1]'(by omega)):=by rw[List.getLast?_eq_getElem?,List.getElem?_eq_getElem (by omega)]
   have aj:=om (s[s.length-1]'(by omega)) 93;rw[show(((93:UInt8).toNat:Nat):Int)=93 from rfl]at aj;refine⟨⟨by omega,by omega⟩,?_⟩;simp only[bne,aj];refine ab.of (λG=>U ?_ bk aa) (λG=>?_)
   ·rw[y,if_neg];rw[b7];intro e;rw[Option.some.inj e]at G;simp at G
   ·have bs:s.getLast?=some 93:=by rw[b7];simpa using G
    have dj:2 <=s.length:=by
     refine Decidable.byContradiction λdd=>?_;have cf:s.length=1:=by omega
     obtain⟨x,rfl⟩:=List.length_eq_one_iff.1 cf;rw[Option.some.inj (show some x=some 91 from Z)]at bs;cases bs
    rw[if_pos bs]at y;simp only[Int.toNat_natCast];refine⟨⟨⟨by omega,by omega⟩,by decide,by omega⟩,?_⟩;intro M ch;have b1:M=(s.drop 1).take (s.length-2):=by
     rw[ch,show(Int.toNat 1)=1 from rfl,List.drop_take,show s.length-1-1=s.length-2 by omega]
    rw[<- b1]at y;have dm:M.length <=s.length:=by rw[b1];simp;omega
    refine aK (Kt M (by omega) O) ?_;rintro _ R ⟨rfl,ad⟩;have F:=ae aa ad aa.size;refine⟨_,_,by rw[EN],?_⟩;have E:=yA (QR M);refine cE.new (zs:=adC ad0) (cs:=adC ((v6A M).getD ad0)) rfl E (fI _) R λc3 b0 cp Y af=>?_;have ac:=ae F af F.size;have V:=(bk.below ad).below af;cases D:v6A M with
    |none=>
     exact ab.yes rfl (U (by rw[y,D];rfl) V ac)
    |some x=>
     rw[D]at Y E;refine ab.no rfl ⟨_,cE.load0 Y E,_,xG 3 (by rw[<- dC];exact E) b0,?_⟩;exact a0 (some ⟨3,[],x⟩) (λdc bw=>by cases bw;show x.length=16;rw[<- dC];exact E) (by rw[y,D];rfl) V ac
 ·have y:bY s=if hZ (Do (bE 46 [] (eF s)))=true then(v4V s).map λa=>⟨2,[],a⟩ else if s.length <=253/\(bE 46 [] (eF s)).all ik=true then some ⟨1,eF s,ad0⟩ else none:=by unfold bY;rw[if_neg Z]
  refine aK (nC s (by omega) O) ?_;rintro _ c8 ⟨rfl,b4⟩;have b2:=ae aa b4 aa.size;refine⟨_,rfl,?_⟩;have c4:(eF s).length=s.length:=by simp[eF]
  refine aK (fq (eF s) 46 (by omega) c8) ?_;rintro _ R ⟨a,n,c,rfl,D,df,ad⟩;have F:=ae b2 ad b2.size;have a8:=(bk.below b4).below ad;have cv:=D.len;subst cv;have b8:∀x∈bE 46 [] (eF s),x.length <=s.length:=λx av=>by have:=gp 46 (eF s) [] x av;simp[c4]at this;omega
  have de:=dK 46 (eF s) [];have bu:0<(bE 46 [] (eF s)).length:=List.length_pos_iff.2 (jN 46 (eF s) []);refine⟨_,_,_,rfl,?_⟩;generalize bE 46 [] (eF s)=L at*;have be:i64.wrap (((L.length:Nat):Int)-1)=((L.length-1:Nat):Int):=by rw[wrJ];omega
  try dsimp only
  rw[be];refine⟨⟨⟨by omega,by omega⟩,D.all.isSome bu⟩,_,D.all.text aI (by omega),?_⟩;rw[<- vK bu];have dk:(Do L).length <=s.length:=by rw[vK bu];exact b8 _ (getElem_mem _)
  refine aK (rJ (Do L) (by omega) R) ?_;rintro _ c9 ⟨rfl,an⟩;rw[an];clear an;refine⟨_,rfl,ab.of (λbq=>?_) (λbq=>?_)⟩
  ·rw[if_pos bq]at y;refine aK (Ks s (by omega) R) ?_;rintro _ cd ⟨rfl,b5⟩;have b3:=ae F b5 F.size;refine⟨_,_,by rw[EN],?_⟩;have E:=yA (VV s);refine cE.new (zs:=adC ad0) (cs:=adC ((v4V s).getD ad0)) rfl E (fI _) cd λc3 b0 cp Y af=>?_;have ac:=ae b3 af b3.size;have V:=(a8.below b5).below af;cases D:v4V s with
   |none=>
    rw[D]at y;exact ab.yes rfl (U y V ac)
   |some x=>
    rw[D]at y Y E;refine ab.no rfl ⟨_,cE.load0 Y E,_,xG 2 (by rw[<- dC];exact E) b0,?_⟩;exact a0 (some ⟨2,[],x⟩) (λdc bw=>by cases bw;show x.length=16;rw[<- dC];exact E) y V ac
  ·rw[if_neg (by rw[bq];decide)]at y;have b6: ¬ (s.length <=253/\L.all ik=true)->bY s=none:=λh=>by rw[y,if_neg h]
   refine⟨λm i w'=>∃k:Nat,k <=L.length/\i=(k:Int)/\m=L.length-k/\(L.take k).all ik=true/\w'=R,⟨_,0,by omega,rfl,rfl,rfl,rfl⟩,?_⟩;intro m i;refine aP.of ?_ _;rintro c9 ⟨k,dg,rfl,rfl,bt,an⟩;rw[an];clear an;refine ab.of (λh=>?_) (λh=>?_)<;>simp only[dTx,dFx]at h
   ·have a9:k<L.length:=by omega
    refine⟨⟨⟨by omega,h⟩,D.all.isSome (by omega)⟩,_,D.all.text aI a9,?_⟩;refine aK (Dz L[k] (by have:=b8 _ (getElem_mem a9);omega) R) ?_;rintro _ cd ⟨rfl,cb⟩;rw[cb];clear cb;refine⟨_,rfl,ab.of (λH=>U (b6 λG=>?_) a8 F) (λH=>?_)⟩
    ·rw[List.all_eq_true.1 G.2 _ (getElem_mem a9)]at H;cases H
    ·refine⟨L.length-(k+1),by omega,k+1,by omega,by rw[wrJ];omega,rfl,?_,rfl⟩;rw[take_succ_eq_append_getElem a9,all_append,bt];simpa using H
   ·have:k=L.length:=by omega
    subst this;rw[take_length]at bt;refine ab.of (λH=>U (b6 λG=>?_) a8 F) (λH=>?_)<;>simp only[gt_iff_lt,dTx,dFx]at H
    ·have:=G.1;omega
    ·exact a0 (some ⟨1,eF s,ad0⟩) (λx av=>by cases av;rfl) (by rw[y,if_pos ⟨by omega,bt⟩]) a8 F
theorem yI {h:Hst}(o:h.ok)(w:World)(H:Env w):Cf oY #[h.v] w (Ret λv w'=>v=vS (mo h)/\bW w w'):=by
 apply GW;intro M F J I;have y:=(I▸ar w _:bW w F)
 have h1:aB F M am h.cells:=aB.new J I;refine⟨rfl,_,h1.load1 eI rfl rfl,?_⟩;unfold mo;refine ab.of (λc1=>?_) (λc1=>?_)<;>simp only[beq_iff_eq,beq_eq_false_iff_ne,ne_eq]at c1
 ·rw[if_pos c1];exact⟨rfl,_,h1.load1 aI rfl rfl,rfl,y⟩
 rw[if_neg c1];refine ab.of (λD=>?_) (λD=>?_)<;>simp only[beq_iff_eq,beq_eq_false_iff_ne,ne_eq]at D
 ·rw[if_pos D];refine⟨rfl,_,Lt o h1,?_⟩;refine aK (Fx h.ad o F (H.step y)) ?_;rintro _ O ⟨rfl,G⟩;exact⟨_,rfl,rfl,ae y G y.size⟩
 rw[if_neg D];refine ab.of (λE=>?_) (λE=>?_)<;>simp only[beq_iff_eq,beq_eq_false_iff_ne,ne_eq]at E
 ·rw[if_pos E];refine⟨rfl,_,Lt o h1,?_⟩;refine aK (Fy h.ad o F (H.step y)) ?_;rintro _ O ⟨rfl,G⟩;have R:=CI h.ad;refine⟨_,rfl,fits (by simp;omega),?_⟩;rintro _ rfl;refine⟨fits (by simp;omega),?_⟩;rintro _ rfl;exact⟨rfl,ae y G y.size⟩
 ·rw[if_neg E];exact⟨rfl,y⟩
theorem wg {h:Hst}(o:h.ok)(w:World):Cf mV #[h.v] w (Ret λv w'=>v=vS (mo h)/\bW w w'):=by
 apply DV;intro J F I H;have y:=(H▸ar w _:bW w F)
 have h1:aB F J am h.cells:=aB.new I H;refine⟨rfl,_,h1.load1 eI rfl rfl,?_⟩;unfold mo;refine ab.of (λc1=>?_) (λc1=>?_)<;>simp only[beq_iff_eq,beq_eq_false_iff_ne,ne_eq]at c1
 ·rw[if_pos c1];exact⟨rfl,_,h1.load1 aI rfl rfl,rfl,y⟩
 rw[if_neg c1];refine⟨rfl,_,h1.load1 eI rfl rfl,?_⟩;refine ab.of (λD=>?_) (λD=>?_)<;>simp only[beq_iff_eq,beq_eq_false_iff_ne,ne_eq]at D
 ·rw[if_pos D];refine⟨rfl,_,Lt o h1,?_⟩;refine aK (Dv h.ad o F) ?_;rintro _ M ⟨rfl,G⟩;exact⟨_,rfl,rfl,ae y G y.size⟩
 rw[if_neg D];refine⟨rfl,_,h1.load1 eI rfl rfl,?_⟩;refine ab.of (λE=>?_) (λE=>?_)<;>simp only[beq_iff_eq,beq_eq_false_iff_ne,ne_eq]at E
 ·rw[if_pos E];refine⟨rfl,_,Lt o h1,?_⟩;refine aK (Dw h.ad o F) ?_;rintro _ M ⟨rfl,G⟩;have O:=CI h.ad;refine⟨_,rfl,fits (by simp;omega),?_⟩;rintro _ rfl;refine⟨fits (by simp;omega),?_⟩;rintro _ rfl;exact⟨rfl,ae y G y.size⟩
 ·rw[if_neg E];exact⟨rfl,y⟩
theorem vG {h:Hst}(o:h.ok)(an:h.name.length <=1000000000)(w:World)(R:Env w):Cf mS #[h.v] w (Ret λv w'=>v=.bool (mh h)/\bW w w'):=by
 apply DK;have av:=Iu o;intro ac F Y U;have D:=(U▸ar w _:bW w F)
 have h1:aB F ac am h.cells:=aB.new Y U;refine⟨_,bn.load0 h1 (Hst.len o),?_⟩;refine aK (yI o F (R.step D)) ?_;rintro _ ad ⟨rfl,J⟩;have E:=ae D J D.size;refine⟨_,rfl,?_⟩;refine aK (lI (mo h) (by omega) ad (R.step E)) ?_;rintro _ af ⟨rfl,M⟩;have H:=ae E M E.size;refine⟨_,_,by rw[iy],?_⟩;have y:((bY (mo h)).getD jZ).ok:=pD λx aa=>iX aa;refine bn.new (zs:=jZ.cells) (cs:=((bY (mo h)).getD jZ).cells) rfl (Hst.len y) (Hst.one _) af λa0 ag aj G O=>?_;have I:=ae H O H.size;have V:=((h1.below J).below M).below O;unfold mh;cases Z:bY (mo h)with
 |none=>exact ab.no rfl ⟨rfl,I⟩
 |some g=>
  rw[Z]at G y;exact ab.yes rfl ⟨_,bn.load0 G (Hst.len y),_,bn.load0 V (Hst.len o),_,Iw y o ag,rfl,I⟩
theorem tA {h:Hst}(o:h.ok)(aj:h.name.length <=80000000)(w:World):Cf lF #[h.v] w (Ret λv w'=>v=.bool (mh h)/\bW w w'):=by
 apply Cn;have an:=Iu o;intro aa D V R;have F:=(R▸ar w _:bW w D)
 have h1:aB D aa am h.cells:=aB.new V R;refine⟨_,bn.load0 h1 (Hst.len o),?_⟩;refine aK (wg o D) ?_;rintro _ ac ⟨rfl,J⟩;have G:=ae F J F.size;refine⟨_,rfl,?_⟩;refine aK (ki (mo h) (by omega) ac) ?_;rintro _ ad ⟨rfl,M⟩;have H:=ae G M G.size;refine⟨_,_,by rw[iy],?_⟩;have y:((bY (mo h)).getD jZ).ok:=pD λx Z=>iX Z;refine bn.new (zs:=jZ.cells) (cs:=((bY (mo h)).getD jZ).cells) rfl (Hst.len y) (Hst.one _) ad λav af ag E O=>?_;have I:=ae H O H.size;have U:=((h1.below J).below M).below O;unfold mh;cases Y:bY (mo h)with
 |none=>exact ab.no rfl ⟨rfl,I⟩
 |some g=>
  rw[Y]at E y;exact ab.yes rfl ⟨_,bn.load0 E (Hst.len y),_,bn.load0 U (Hst.len o),_,Iw y o af,rfl,I⟩
def Fp (h:Hst)(w:World)(v:Value)(w':World):Prop:=∃(a:Option Addr) (n c:Nat),v=.slice a n c/\Ow tS ai w' NoB a n c (aZ h)/\bo w.heap.size a/\bW w w'
theorem iN {h:Hst}(o:h.ok)(aa:h.name.length <=1000000000)(w:World)(I:Env w):Cf cU #[h.v] w (Ret (Fp h w)):=by
 apply BT;intro ad H Z J;have D:=(J▸ar w _:bW w H)
 have h1:aB H ad am h.cells:=aB.new Z J;have M:∀{wx:World},¬ (h.kind=1/\mh h=true)->bW w wx->Fp h w (.slice none 0 0) wx:=λy R=>⟨none,0,0,rfl,by unfold aZ;rw[if_neg y];exact Ow.nil _ _ _ _,bo.none _,R⟩
 refine iV (λw'=>(h.kind=1/\mh h=true)/\bW H w') ⟨rfl,_,h1.load1 eI rfl rfl,?_⟩ ?_
 ·refine ab.of (λc=>M (λy=>?_) D) (λc=>?_)
  ·rw[y.1]at c;simp at c
  ·have Y:h.kind=1:=by simpa using c
   refine⟨_,bn.load0 h1 (Hst.len o),?_⟩;refine aK (vG o aa H (I.step D)) ?_;rintro _ O ⟨rfl,E⟩;refine⟨_,rfl,ab.of (λF=>M (λy=>?_) (ae D E D.size)) (λF=>⟨⟨Y,by simpa using F⟩,E⟩)⟩;rw[y.2]at F;cases F
 ·rintro O ⟨y,E⟩;have G:=ae D E D.size;refine⟨rfl,_,(h1.below E).load1 aI rfl rfl,?_⟩;refine aK (eH h.name 46 (by omega) O (I.step G)) ?_;rintro _ af ⟨a,n,c,rfl,ac,V,U⟩;exact⟨_,_,_,rfl,_,_,_,rfl,by unfold aZ;rw[if_pos y];exact ac,V.mono G.size,ae G U G.size⟩
theorem js {h:Hst}(o:h.ok)(Z:h.name.length <=80000000)(w:World):Cf gK #[h.v] w (Ret (Fp h w)):=by
 apply zF;intro ac G Y I;have D:=(I▸ar w _:bW w G)
 have h1:aB G ac am h.cells:=aB.new Y I;have J:∀{wx:World},¬ (h.kind=1/\mh h=true)->bW w wx->Fp h w (.slice none 0 0) wx:=λy O=>⟨none,0,0,rfl,by unfold aZ;rw[if_neg y];exact Ow.nil _ _ _ _,bo.none _,O⟩
 refine iV (λw'=>(h.kind=1/\mh h=true)/\bW G w') ⟨rfl,_,h1.load1 eI rfl rfl,?_⟩ ?_
 ·refine ab.of (λc=>J (λy=>?_) D) (λc=>?_)
  ·rw[y.1]at c;simp at c
  ·have V:h.kind=1:=by simpa using c
   refine⟨_,bn.load0 h1 (Hst.len o),?_⟩;refine aK (tA o Z G) ?_;rintro _ M ⟨rfl,E⟩;refine⟨_,rfl,ab.of (λF=>J (λy=>?_) (ae D E D.size)) (λF=>⟨⟨V,by simpa using F⟩,E⟩)⟩;rw[y.2]at F;cases F
 ·rintro M ⟨y,E⟩;have H:=ae D E D.size;refine⟨rfl,_,(h1.below E).load1 aI rfl rfl,?_⟩;refine aK (fq h.name 46 (by omega) M) ?_;rintro _ ad ⟨a,n,c,rfl,aa,U,R⟩;exact⟨_,_,_,rfl,_,_,_,rfl,by unfold aZ;rw[if_pos y];exact aa,U.mono H.size,ae H R H.size⟩
theorem jc.drop {y:Type}{T:Ty y}{l:List Value}{xs:List y}(h:jc T w A l xs)(j:Nat):jc T w A (l.drop (j*T.k)) (xs.drop j):=by
 refine⟨by rw[length_drop,length_drop,h.len,Nat.sub_mul],λi D=>?_⟩;have E:j+i<xs.length:=by rw[length_drop]at D;omega
 have:=h.rep (j+i) E;rw[List.drop_drop,List.getElem_drop];rw[Nat.add_mul]at this;exact this
theorem Sl.from {D:Type}{T:Ty D}{a:Option Addr}{n c:Nat}{xs:List D}(h:Sl T w A a n c xs)(j:Nat)(U:j <=xs.length)(M:T.k=k):Sl T w A (KB a c j k) (n-j) (c-j) (xs.drop j):=by
 subst M;obtain⟨h1,O,R,y⟩:=h;refine⟨by rw[length_drop,h1],by omega,by omega,?_⟩;rcases y with y|⟨b,off,e,H,G,l,E,F⟩
 ·left;rw[y];simp
 ·by_cases I:c=j
  ·left;exact drop_eq_nil_of_le (by omega)
  ·right;refine⟨b,off+j*T.k,?_,H,G,l.drop (j*T.k),E.drop j,λi J=>?_⟩
   ·unfold KB;rw[if_neg I,e,map_some,gQ]
   ·rw[length_drop]at J;rw[Nat.add_assoc,F _ (by omega),List.getElem?_drop]
def CE (L:List lU)(n:Nat):lU:=Lib.join (L.drop (L.length-n)) [46]
def VI (L:List lU)(n:Nat):Value:=if 1 <=n/\n <=L.length then .tuple #[(⟨1,CE L n,ad0⟩:Hst).v,.bool true]else .tuple #[jZ.v,.bool false]
def pY (h d:Hst):Bool:=if(aZ d).length=0\/(aZ h).length <=(aZ d).length then false else vH ⟨1,CE (aZ h) (aZ d).length,ad0⟩ d
def QJ (h d:Hst):Bool:=if(aZ h).length=0\/(aZ d).length=0 then false else decide (d.name.length+1<h.name.length)&&(h.name.drop (h.name.length-(d.name.length+1))==46::d.name)
theorem JD {o:Option lU}{h:Hst}(e:(o.map λa=>(⟨3,[],a⟩:Hst))=some h):h.kind=3:=by
 cases o with
 |none=>cases e
 |some a=>cases e;rfl
theorem E9 {d:Hst}(o:d.ok)(J:d.kind=1)(D:mh d=true):d=⟨1,d.name,ad0⟩/\eF d.name=d.name/\(bE 46 [] d.name).all ik=true/\d.name.length <=253/\hZ (Do (bE 46 [] d.name))=false/\bY d.name=some d:=by
 have M:mo d=d.name:=by unfold mo;rw[if_pos J]
 unfold mh at D;rw[M]at D;cases E:bY d.name with
 |none=>rw[E]at D;cases D
 |some g=>
  rw[E]at D;obtain rfl:=(rB (iX E) o).1 D;have y:=E;unfold bY at y;split at y
  ·split at y
   ·have:=JD y;omega
   ·cases y
  split at y
  ·cases H:v4V g.name with
   |none=>rw[H]at y;cases y
   |some a=>
    rw[H]at y;have:g.kind=2:=by rw[<- Option.some.inj y]
    omega
  rename_i I;split at y
  ·rename_i F;have e:=Option.some.inj y;have G:eF g.name=g.name:=congrArg Hst.name e;rw[G]at F e I;exact⟨e.symm,G,F.2,F.1,by simpa using I,rfl⟩
  ·cases y
theorem Bt {d:Hst}(o:d.ok)(h:(aZ d).length≠0):(d.kind=1/\mh d=true)/\aZ d=bE 46 [] d.name:=by
 unfold aZ at h ⊢;split at h
 ·rename_i y;exact⟨y,by rw[if_pos y]⟩
 ·exact absurd rfl h
theorem R0 (c:UInt8)(A B:List lU)(y:A≠[])(D:B≠[]):Lib.join (A++B) [c]=Lib.join A [c]++c::Lib.join B [c]:=by
 cases A with
 |nil=>exact absurd rfl y
 |cons x A=>
  cases B with
  |nil=>exact absurd rfl D
  |cons E B=>
   rw[List.cons_append,Lib.join_cons,Lib.join_cons,Lib.join_cons];unfold Lib.joinTail;simp
theorem ID (c:UInt8):∀(L:List lU) (k:Nat),(Lib.join (L.drop k) [c]).length <=(Lib.join L [c]).length
 |L,0=>by simp
 |[],k+1=>by simp
 |x::r,k+1=>by
  rw[List.drop_succ_cons];refine Nat.le_trans (ID c r k) ?_;cases r with
  |nil=>simp[Lib.join_nil]
  |cons y l=>
   rw[Lib.join_cons,Lib.join_cons];unfold Lib.joinTail;simp;omega
theorem Np {h d:Hst}(U:h.ok)(I:d.ok):pY h d=QJ h d:=by
 unfold pY QJ;by_cases D:(aZ d).length=0
 ·rw[if_pos (.inl D),if_pos (.inr D)]
 by_cases G:(aZ h).length=0
 ·rw[if_pos (.inr (by omega)),if_pos (.inl G)]
 rw[if_neg (show ¬ ((aZ h).length=0\/(aZ d).length=0) from λh=>h.elim G D)];obtain⟨⟨Y,aa⟩,Z⟩:=Bt I D;obtain⟨⟨aj,a8⟩,an⟩:=Bt U G;obtain⟨V,-,a9,-,-,-⟩:=E9 I Y aa;obtain⟨h1,-,ad,-,-,-⟩:=E9 U aj a8;have O:=sM 46 h.name [];have M:=sM 46 d.name [];rw[nil_append]at O M;rw[Z,an];have a0:=jN 46 h.name [];have bk:0<(bE 46 [] h.name).length:=List.length_pos_iff.2 a0;have bb:0<(bE 46 [] d.name).length:=List.length_pos_iff.2 (jN 46 d.name []);have ac:∀x:lU,vH ⟨1,x,ad0⟩ d=(x==d.name):=λx=>by
  rw[Bool.eq_iff_iff,rB (show(⟨1,x,ad0⟩:Hst).ok from rfl) I,beq_iff_eq];constructor
  ·intro e;exact congrArg Hst.name e
  ·intro e;rw[V];simp[e]
 rw[ac,Bool.eq_iff_iff];by_cases R:(bE 46 [] h.name).length <=(bE 46 [] d.name).length
 ·rw[if_pos (show(bE 46 [] d.name).length=0\/(bE 46 [] h.name).length <=(bE 46 [] d.name).length from .inr R)];refine⟨(λh=>by cases h),λE=>?_⟩;rw[Bool.and_eq_true,dTx,beq_iff_eq]at E;exfalso;have H:h.name=h.name.take (h.name.length-(d.name.length+1))++46::d.name:=by rw[<- E.2,List.take_append_drop]
  have y:=congrArg (λs=>(bE 46 [] s).length) H;simp only[gn,length_append]at y;have:0<(bE 46 [] (h.name.take (h.name.length-(d.name.length+1)))).length:=List.length_pos_iff.2 (jN 46 _ []);omega
 ·rw[if_neg (show ¬ ((bE 46 [] d.name).length=0\/(bE 46 [] h.name).length <=(bE 46 [] d.name).length) from λh=>h.elim (λh=>by omega) R),beq_iff_eq,Bool.and_eq_true,dTx,beq_iff_eq];unfold CE;constructor
  ·intro ag;have J:(bE 46 [] h.name).take ((bE 46 [] h.name).length-(bE 46 [] d.name).length)≠[]:=by
    intro e;have:=congrArg length e;rw[length_take,length_nil]at this;omega
   have af:(bE 46 [] h.name).drop ((bE 46 [] h.name).length-(bE 46 [] d.name).length)≠[]:=by
    intro e;have:=congrArg length e;rw[length_drop,length_nil]at this;omega
   have F:=R0 46 _ _ J af;rw[List.take_append_drop,O,ag]at F;have hp:Lib.join ((bE 46 [] h.name).take ((bE 46 [] h.name).length-(bE 46 [] d.name).length)) [46]≠[]:=by
    cases y:(bE 46 [] h.name).take ((bE 46 [] h.name).length-(bE 46 [] d.name).length)with
    |nil=>exact absurd y J
    |cons x A=>
     rw[Lib.join_cons];intro e;have E:x∈bE 46 [] h.name:=mem_of_mem_take (by rw[y];exact mem_cons_self);have:=List.all_eq_true.1 ad x E;rw[(List.append_eq_nil_iff.1 e).1]at this;cases this
   generalize Lib.join ((bE 46 [] h.name).take ((bE 46 [] h.name).length-(bE 46 [] d.name).length)) [46]=p at*;have be:0<p.length:=List.length_pos_iff.2 hp;have av:=congrArg length F;rw[length_append,length_cons]at av;refine⟨by omega,?_⟩;rw[show h.name.length-(d.name.length+1)=p.length by omega,F];simp
  ·rintro⟨hl',hdr⟩;have H:h.name=h.name.take (h.name.length-(d.name.length+1))++46::d.name:=by rw[<- hdr,List.take_append_drop]
   have y:bE 46 [] h.name=bE 46 [] (h.name.take (h.name.length-(d.name.length+1)))++bE 46 [] d.name:=by
    conv=>lhs;rw[H]
    exact gn 46 _ _ _
   rw[y,length_append,Nat.add_sub_cancel,List.drop_left];exact M
theorem pE (h:Hst):(aZ h).length <=h.name.length+1:=by
 unfold aZ;split
 ·exact dK 46 _ _
 ·simp
theorem Iv {h:Hst}(o:h.ok)(a9:h.name.length <=1000000000)(n:Nat)(bp:n <=4000000000)(w:World)(aj:Env w):Cf jR #[h.v,vI (n:Int)] w (Ret λv w'=>v=VI (aZ h) n/\bW w w'):=by
 apply GV;intro bb D av aa;have E:=(aa▸ar w _:bW w D)
 have ad:aB D bb am h.cells:=aB.new av aa;intro k4 J a0 ac;have O:=(ac▸ar D _:bW D J)
 have F:=ae E O E.size;have af:aB J k4 am jZ.cells:=aB.new a0 ac;have Y:w.heap.size <=k4:=by have:=E.size;omega
 refine⟨_,bn.load0 (ad.below O) (Hst.len o),?_⟩;refine aK (iN o a9 J (aj.step F)) ?_;rintro _ be ⟨a,l,c,rfl,Z,bk,R⟩;have G:=ae F R F.size;have M:=af.below R;have bl:=pE h;have an:∀n,(CE (aZ h) n).length <=140737488355328:=λn=>by
  unfold CE;refine Nat.le_trans (ID 46 (aZ h) _) ?_;unfold aZ;split
  ·rw[sM,nil_append];omega
  ·simp[Lib.join_nil]
 have a8:=Z.len;subst a8;generalize aZ h=L at*;refine⟨_,_,_,rfl,?_⟩;unfold VI;refine jE (w:=be) (1 <=n/\n <=L.length) ?_ (λV=>?_)
 ·refine orJ (ab.of (λh=>?_) (λh=>⟨rfl,?_⟩))
  ·rw[if_neg (λV=>by simp at h;omega)];exact bn.fin (K:=λI y=>(.tuple #[I,.bool false]:Value)=.tuple #[jZ.v,.bool false]/\bW w y) (cs:=jZ.cells) rfl (Hst.one _) M rfl G Y λy H=>⟨rfl,H⟩
  ·simp at h;omega
 ·rw[if_pos V];have e:i64.wrap (((L.length:Nat):Int)-(n:Int))=((L.length-n:Nat):Int):=by rw[wrJ];omega
  try dsimp only
  rw[e];simp only[Int.toNat_natCast];refine⟨⟨by omega,by omega⟩,?_⟩;refine aK (Ga ((Z.all).from (L.length-n) (by omega) rfl) [46] (by simp;omega) (an n)) ?_;rintro _ bq ⟨rfl,U⟩;have ag:=ae G U G.size;refine⟨_,rfl,?_⟩;exact bn.fin (K:=λI y=>(.tuple #[I,.bool true]:Value)=.tuple #[(⟨1,CE L n,ad0⟩:Hst).v,.bool true]/\bW w y) (cs:=(⟨1,CE L n,ad0⟩:Hst).cells) rfl (Hst.one _) (M.below U) rfl ag Y λy H=>⟨rfl,H⟩
theorem FX {h d:Hst}(J:h.ok)(H:d.ok)(bu:h.name.length <=1000000000)(b7:d.name.length <=1000000000)(w:World)(ac:Env w):Cf qS #[h.v,d.v] w (Ret λv w'=>v=.bool (pY h d)/\bW w w'):=by
 apply DL;intro ag M cn bw;have bk:=(bw▸ar w _:bW w M)
 have cb:aB M ag am h.cells:=aB.new cn bw;intro aj D cp b0;have bq:=(b0▸ar M _:bW M D)
 have bl:=ae bk bq bk.size;have cd:aB D aj am d.cells:=aB.new cp b0;have cc:=cb.below bq;have G:bW w (drew D):=ae bl (sK rfl rfl rfl (Nat.le_refl _) (λ_ _=>rfl)) bl.size;have be:aB (drew D) ag am h.cells:=cc;have Y:aB (drew D) aj am d.cells:=cd;have b1:=bn.load0 (P:=prog) be (Hst.len J);have b2:=bn.load0 (P:=prog) Y (Hst.len H);have c4:=pE h;have c3:=pE d;have an:∀{Q:Nat->World->Prop},(∀y,Below (drew D).heap.size (drew D) y->Q (aZ h).length y)->
  Cf cU #[h.v] (drew D) λe w'=>∃(a:Option Addr) (l c:Nat),e=.returned (.slice a l c)/\Q l w':=λZ=>by
  refine aK (iN J bu _ (ac.step G)) ?_;rintro _ a8 ⟨a,l,c,rfl,ad,-,aa⟩;refine⟨_,_,_,rfl,?_⟩;rw[ad.len];exact Z a8 aa
 have av:∀{Q:Nat->World->Prop} (U:World),Below (drew D).heap.size (drew D) U->(∀y,Below (drew D).heap.size (drew D) y->Q (aZ d).length y)->
  Cf cU #[d.v] U λe w'=>∃(a:Option Addr) (l c:Nat),e=.returned (.slice a l c)/\Q l w':=λU af Z=>by
  refine aK (iN H b7 U (ac.step (ae G af G.size))) ?_;rintro _ a8 ⟨a,l,c,rfl,ad,-,aa⟩;refine⟨_,_,_,rfl,?_⟩;rw[ad.len];exact Z a8 (ae af aa af.size)
 have rest:∀y,Below (drew D).heap.size (drew D) y->∃a9:FP [],
  (ab ((((aZ d).length:Nat):Int)==0) ((.bool false:Value)=.bool (pY h d)/\bW w y)
   (ab (decide ((((aZ d).length:Nat):Int) >=(((aZ h).length:Nat):Int))) ((.bool false:Value)=.bool (pY h d)/\bW w y) (a9 y)))/\
  aP 11 (∀(R:World),a9 R->∃(b3:Value),(Instr.loadAt am (.pointer (some ⟨ag,0,none⟩))).run prog R=.ok b3 R/\
   Cf jR #[b3,vI (((aZ d).length:Nat):Int)] R λb8 b5=>∃(b4:Value) (b6:Bool),b8=.returned (.tuple #[b4,.bool b6])/\
   ∀(I:Nat) (O:World),I=b5.heap.size->O=b5.alloc (.cells bB am)->
   ∃(y:World),(Instr.storeAt am (.pointer (some ⟨I,0,none⟩)) b4).run prog O=.ok () y/\
   ∃(v30:Value),(Instr.loadAt am (.pointer (some ⟨I,0,none⟩))).run prog y=.ok v30 y/\
   ∃(a0:Value),(Instr.loadAt am (.pointer (some ⟨aj,0,none⟩))).run prog y=.ok a0 y/\
   ∃(bb:Bool),((do eqGuard .eql am (.tmp 30) (.tmp 31) v30 a0;binOp .eql am v30 a0:Sem Value)).run prog y=.ok (.bool bb) y/\
   ((.bool bb:Value)=.bool (pY h d)/\bW w y)):=λy E=>by
  have F:=ae G E G.size;have u:pY h d=if(aZ d).length=0\/(aZ h).length <=(aZ d).length then false else vH ⟨1,CE (aZ h) (aZ d).length,ad0⟩ d:=rfl;refine jE (w:=y) (¬ ((aZ d).length=0\/(aZ h).length <=(aZ d).length)) ?_ (λcl=>?_)
  ·refine ab.of (λc1=>⟨?_,F⟩) (λc1=>ab.of (λV=>⟨?_,F⟩) (λV=>⟨rfl,?_⟩))
   ·rw[u,if_pos (.inl (by simp at c1;simp[c1]))]
   ·rw[u,if_pos (.inr (by simp at V;omega))]
   ·simp at c1 V;rintro(hx|hx)
    ·exact c1 (List.length_eq_zero_iff.1 hx)
    ·omega
  ·refine⟨_,bn.load0 (be.below E) (Hst.len J),?_⟩;refine aK (Iv J bu (aZ d).length (by omega) y (ac.step F)) ?_;rintro _ cv ⟨rfl,bs⟩;have bp:=ae F bs F.size;have b9:VI (aZ h) (aZ d).length=.tuple #[(⟨1,CE (aZ h) (aZ d).length,ad0⟩:Hst).v,.bool true]:=if_pos ⟨by omega,by omega⟩;rw[b9,u,if_neg cl];refine⟨_,_,rfl,?_⟩;refine bn.new (zs:=jZ.cells) (cs:=(⟨1,CE (aZ h) (aZ d).length,ad0⟩:Hst).cells) rfl rfl (Hst.one _) cv λI O c2 cf bt=>?_;have ch:=ae bp bt bp.size;exact⟨_,bn.load0 cf rfl,_,bn.load0 (((Y.below E).below bs).below bt) (Hst.len H),_,Iw (show(⟨1,CE (aZ h) (aZ d).length,ad0⟩:Hst).ok from rfl) H O,rfl,ch⟩
 refine⟨⟨_,b1,?_,_,b2,?_⟩,_,b2,_,b1,?_⟩
 ·exact an λy E=>⟨_,bn.load0 (Y.below E) (Hst.len H),av y E rest⟩
 ·exact an λy E=>av y E rest
 ·exact an λy E=>av y E rest
theorem Dy {h d:Hst}(M:h.ok)(J:d.ok)(a8:h.name.length <=80000000)(ad:d.name.length <=80000000)(w:World):Cf ph #[h.v,d.v] w (Ret λv w'=>v=.bool (pY h d)/\bW w w'):=by
 rw[Np M J];apply Co;intro be G an Z;have U:=(Z▸ar w _:bW w G)
 have af:aB G be am h.cells:=aB.new an Z;intro bk H av aa;have V:=(aa▸ar G _:bW G H)
 have F:=ae U V U.size;have R:aB H bk am d.cells:=aB.new av aa;have O:=af.below V;have u:QJ h d=if(aZ h).length=0\/(aZ d).length=0 then false else decide (d.name.length+1<h.name.length)&&(h.name.drop (h.name.length-(d.name.length+1))==46::d.name):=rfl;refine iV (λw'=> ¬ ((aZ h).length=0\/(aZ d).length=0)/\bW H w') ?_ ?_
 ·refine⟨_,bn.load0 O (Hst.len M),?_⟩;refine aK (js M a8 H) ?_;rintro _ ac ⟨a,l,c,rfl,a9,-,y⟩;have D:=ae F y F.size;refine⟨_,_,_,rfl,?_⟩;rw[a9.len];refine ab.of (λc1=>⟨?_,D⟩) (λc1=>?_)
  ·rw[u,if_pos (.inl (by simp at c1;simp[c1]))]
  refine⟨_,bn.load0 (R.below y) (Hst.len J),?_⟩;refine aK (js J ad ac) ?_;rintro _ bp ⟨a5,bl,c5,rfl,bb,-,Y⟩;have ag:=ae D Y D.size;refine⟨_,_,_,rfl,?_⟩;rw[bb.len];refine ab.of (λE=>⟨?_,ag⟩) (λE=>⟨?_,ae y Y y.size⟩)
  ·rw[u,if_pos (.inr (by simp at E;simp[E]))]
  ·simp at c1 E;rintro(hx|hx)
   ·exact c1 (List.length_eq_zero_iff.1 hx)
   ·exact E (List.length_eq_zero_iff.1 hx)
 ·rintro ac ⟨aj,y⟩;have D:=ae F y F.size;have I:=(O.below y).load1 (P:=prog) (i:=1) (v:=vS h.name) aI rfl rfl;refine⟨rfl,_,(R.below y).load1 aI rfl rfl,fits (by simp;omega),?_⟩;rintro _ rfl;refine⟨rfl,_,I,?_⟩;rw[u,if_neg aj];refine ab.of (λc1=>?_) (λc1=>⟨?_,D⟩)
  ·have a0:d.name.length+1<h.name.length:=by simp at c1;omega
   have e:i64.wrap (((h.name.length:Nat):Int)-((([46]++d.name).length:Nat):Int))=((h.name.length-(d.name.length+1):Nat):Int):=by
    rw[wrap_i64 (by simp;omega) (by simp;omega)];simp;omega
   refine⟨rfl,_,I,rfl,_,I,?_⟩;rw[e];simp only[Int.toNat_natCast];refine⟨⟨by omega,by omega⟩,?_⟩;rintro _ rfl;rw[decide_eq_true a0,Bool.true_and];exact⟨rfl,D⟩
  ·have: ¬ d.name.length+1<h.name.length:=by simp at c1;omega
   rw[decide_eq_false this,Bool.false_and]
end Go.Pk
