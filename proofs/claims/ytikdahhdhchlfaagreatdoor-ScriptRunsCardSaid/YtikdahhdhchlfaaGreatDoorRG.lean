/- What the laws lean on: AddrE, AddrF, AddrG, AddrH, AddrI, Eq, HostA, HostB, HostC, Sub, HostD; what is used. Its conditions: none. -/
import Derived.Test.YtikdahhdhchlfaaGreatDoorRF
import Derived.Lib.ItoaLen
import Derived.Laws.StructEq
set_option linter.unusedVariables false
set_option linter.unusedSimpArgs false
set_option linter.unusedSectionVars false
set_option maxRecDepth 100000
open List (append_assoc append_nil cons_append drop_eq_getElem_cons getElem_map getElem_mem length length_append length_cons length_drop length_map length_nil length_take map_append map_cons map_nil mem_cons_of_mem mem_cons_self mem_of_mem_take nil_append replicate take_append_drop take_length take_of_length_le take_succ_eq_append_getElem)
open Option (map_some)
open Go.World (drew)
variable {n i k:Nat}{w:Go.World}{t:Go.TypeId}{s:List UInt8}{A:Go.Pk.Bl}{P:Go.Program}
open Go.IntKind (i64)
open Go.Proofs.Tryz
namespace Go.Pk
open Go.RowKit (Below)
open Go.Proofs
theorem R3 (l:List Int):BS (i16 l):=λc e=>by
 obtain⟨x,_,rfl⟩:=List.mem_map.1 e;rfl
theorem PU (w:World)(k:Nat):w.grownBy w (some k):=⟨rfl,rfl,rfl,Nat.le_refl _,λ_ _ _=>rfl⟩
theorem Ou {e sT ty elem:TypeId}(M:P.underlying e=some (.slice elem))(I:(P.info? elem).map (·.size)=some 1){T:TypeId}{vs:List Value}(h:au w k T vs)
 {a:Option Addr} {n c:Nat} {xs:List Int} (G:Ow Xq elem w NoB a n c xs) (aj:xs=[]->a=none/\n=0/\c=0) {o dLen dCap:Nat} {A:Addr} (hA:xs≠[]->A=⟨k,o,none⟩) (a9:xs.length <=dLen) (X:o+xs.length <=vs.length):
 ∃w',(Builtin.copy_ #[e,sT] ty #[.slice (some A) dLen dCap,.slice a n c]).run P w=.ok (vI ((xs.length:Nat):Int)) w'/\au w' k T (vs.take o++i16 xs++vs.drop (o+xs.length))/\w.grownBy w' (some k):=by
 by_cases q:xs=[]
 ·obtain⟨rfl,rfl,rfl⟩:=aj q;subst q;refine⟨w,run_copy_nil P w e sT ty elem A dLen dCap M (by rw[I];rfl),?_,PU w k⟩;simpa[i16]using h
 ·have ag:=G.len;obtain⟨h1,ar,a0,U⟩:=G.all;obtain⟨b,off,rfl,a8,-,l,al,V⟩:=U.resolve_left q;have ac:l=i16 xs:=j0 (h1:=λ_=>rfl) al;subst ac;rw[hA q];have D:(i16 xs).length=xs.length:=by simp[i16]
  have an:∀(j:Nat) (v:Value),(i16 xs)[j]? =some v->w.cell? ((⟨b,off,none⟩:Addr).add j)=some v:=by
   intro j v E;have Z:j<(i16 xs).length:=(List.getElem?_eq_some_iff.1 E).1;have O:(⟨b,off,none⟩:Addr).add j=⟨b,off+j,none⟩:=by unfold Addr.add;split<;>simp_all
   rw[O,V j Z,E]
  have ad:(i16 xs).length=Nat.min n dLen:=by rw[D,ag];exact(Nat.min_eq_left (by omega)).symm
  have H:=run_copy_row P w e sT ty elem k o dLen dCap ⟨b,off,none⟩ n c vs.toArray T (i16 xs) M I h ad an (by rw[D];simpa using X) (R3 xs);rw[D]at H;have Y:=setRow_heap w k vs.toArray (vs.take o++i16 xs++vs.drop (o+xs.length)).toArray T (0,0) h;exact⟨_,H,Y,fc w k _⟩
theorem N8:IntKind.u8.wrap (n:Int)=(((UInt8.ofNat (n%256)).toNat:Nat):Int):=by
 have e:IntKind.u8.wrap (n:Int)=(n:Int)%256:=rfl
 try dsimp only
 rw[e,MD (by omega)];omega
theorem Zx (h:n<65536):IntKind.u8.wrap (Int.fdiv (n:Int) (2 ^ (min (Int.toNat (8:Int)) (IntKind.bits .u16))))=(((UInt8.ofNat (n/256)).toNat:Nat):Int):=by
 have e:(2:Int) ^ (min (Int.toNat (8:Int)) (IntKind.bits .u16))=256:=by decide
 have q:Int.fdiv (n:Int) 256=((n/256:Nat):Int):=by rw[Int.fdiv_eq_ediv_of_nonneg _ (by decide)];omega
 rw[e,q,wrap_u8 (by omega) (by omega),MD (by omega)]
theorem KX (E G H I M O U V:Nat)(Z:∀g∈[E,G,H,I,M,O,U,V],g<65536)(w:World):
 Cf wK #[.agg #[.int .u16 (E:Int),.int .u16 (G:Int),.int .u16 (H:Int),.int .u16 (I:Int),.int .u16 (M:Int),.int .u16 (O:Int),.int .u16 (U:Int),.int .u16 (V:Int)]] w
  (Ret λv w'=>v=adV (nh [E,G,H,I,M,O,U,V])/\bW w w'):=by
 apply Ke;intro q al c7 cc;have b7:=(cc▸ao w _:bW w al)
 have a0:au al q bh (i16 ([E,G,H,I,M,O,U,V].map λg:Nat=>(g:Int))):=au.new c7 cc;obtain⟨e,bb⟩:∃e,e=[E,G,H,I,M,O,U,V]:=⟨_,rfl⟩
 have ac:e.length=8:=by rw[bb];rfl
 rw[<- bb]at a0 Z ⊢;clear bb;intro aj an c8 ce;have b8:=(ce▸ao al _:bW al an)
 have a8:=ae b7 b8 b7.size;have b2:au an aj ay (adC ad0):=au.new c8 ce;intro k3 cj c9 cf;have bc:=(cf▸ao an _:bW an cj)
 have c2:=ae a8 bc a8.size;have c1:au cj k3 ay (adC ad0):=au.new c9 cf;have c0:=b2.below bc;have ct:=(a0.below b8).below bc;have de:=a0.lt;have dg:=b2.lt;have cb:w.heap.size <=k3:=by have:=a8.size;omega
 refine⟨λm i w'=>∃k:Nat,k <=8/\i=(k:Int)/\m=8-k/\au w' k3 ay (adC (PW e k))/\au w' aj ay (adC ad0)/\au w' q bh (i16 (e.map λg:Nat=>(g:Int)))/\bW w w',
  ⟨_,0,by omega,rfl,rfl,c1,c0,ct,c2⟩,?_⟩
 intro m i;refine aQ.of ?_ _;rintro ar ⟨k,c6,rfl,rfl,b4,b3,cu,a9⟩;refine af.of (λh=>?_) (λh=>?_)<;>simp only[dTx,dFx]at h
 ·have da:k<8:=by omega
  have c5:=Z e[k] (getElem_mem (by omega));have cp:i64.wrap (2*(k:Int))=((2*k:Nat):Int):=by rw[wrJ];omega
  have cr:i64.wrap (((2*k:Nat):Int)+1)=((2*k+1:Nat):Int):=by rw[wrJ];omega
  rw[cp,cr,iw,iw,iw];simp only[Nat.zero_add];have b9:(0 <=(k:Int)/\(k:Int)<((8:Nat):Int))/\True:=⟨⟨by omega,by omega⟩,trivial⟩
  have ca:(0 <=((2*k:Nat):Int)/\((2*k:Nat):Int)<((16:Nat):Int))/\True:=⟨⟨by omega,by omega⟩,trivial⟩
  have bs:(0 <=((2*k+1:Nat):Int)/\((2*k+1:Nat):Int)<((16:Nat):Int))/\True:=⟨⟨by omega,by omega⟩,trivial⟩
  have c3:bW w (drew ar):=ae a9 (lR rfl rfl rfl (Nat.le_refl _) (λ_ _=>rfl)) a9.size;have cn:au (drew ar) k3 ay (adC (PW e k)):=b4;have cl:au (drew ar) aj ay (adC ad0):=b3;have D:au (drew ar) q bh (i16 (e.map λg:Nat=>(g:Int))):=cu;have c4:(i16 (e.map λg:Nat=>(g:Int)))[k]? =some (.int .u16 ((e[k]'(by omega):Nat):Int)):=by
   unfold i16;rw[List.getElem?_map,List.getElem?_map,List.getElem?_eq_getElem (by omega)];rfl
  have Y:∀{wx:World},au wx q bh (i16 (e.map λg:Nat=>(g:Int)))->(Instr.loadAt fU (.pointer (some ⟨q,k,none⟩))).run prog wx=.ok (.int .u16 ((e[k]'(by omega):Nat):Int)) wx:=λdc=>dc.load1 FZ rfl c4;have X:=C4 ac c6;obtain⟨b0,ad,b5,bk⟩:=cn.put (P:=prog) ik (i:=2*k) (v:=.int .u8 (((UInt8.ofNat (e[k]/256)).toNat:Nat):Int)) (by rw[dt,X];omega) rfl rfl;rw[wF]at b5;have b1:=D.grown bk (bA (by omega));obtain⟨w9,ag,b6,bq⟩:=b5.put (P:=prog) ik (i:=2*k+1) (v:=.int .u8 (((UInt8.ofNat (e[k]%256)).toNat:Nat):Int)) (by rw[dt,List.length_set,X];omega) rfl rfl;rw[wF,OL ac da]at b6;have bj:∃ch:Nat,ch<8-k/\∃k':Nat,k' <=8/\i64.wrap ((k:Int)+1)=(k':Int)/\ch=8-k'/\au w9 k3 ay (adC (PW e k'))/\au w9 aj ay (adC ad0)/\au w9 q bh (i16 (e.map λg:Nat=>(g:Int)))/\bW w w9:=
   ⟨8-(k+1),by omega,k+1,by omega,by rw[wrJ];omega,rfl,b6,(cl.grown bk (bA (by omega))).grown bq (bA (by omega)),b1.grown bq (bA (by omega)),Below.put (Below.put c3 bk cb) bq cb⟩
  rw[<- Zx c5]at ad;rw[<- N8]at ag;refine⟨b9,b9,⟨_,Y D,by decide,ca,⟨_,Y D,b0,ad,bs,w9,ag,bj⟩,b0,ad,_,Y b1,bs,w9,ag,bj⟩,_,Y D,_,Y D,by decide,ca,b0,ad,bs,w9,ag,bj⟩
 ·have:k=8:=by omega
  subst this;have X:(adC (PW e 8)).length=16:=by rw[dt,C4 ac (by omega)]
  refine⟨_,cH.load0 b4 X,?_⟩;exact cH.fin (K:=λdd ck=>dd=adV (nh e)/\bW w ck) X (fz _) b3 rfl a9 (by omega) λck Z=>⟨by rw[VQ ac];rfl,Z⟩
theorem AJ:Whl prog bh 8:=⟨⟨_,_,HX⟩,by kernel_rfl⟩
theorem PE (s:lU)(ee:s.length<4294967281)(w:World)(bb:Env w):Cf DZ #[vS s] w (Ret λv w'=>v=adT (v6A s)/\bW w w'):=by
 apply NT;intro c2 H d5 c0;have an:=(c0▸ao w _:bW w H)
 have E:au H c2 ay (adC ad0):=au.new d5 c0;obtain⟨m,d6⟩:=(bb.step an).max;refine(Tryz.strings_Cut (mkS s) (mkS [58,58]) m H ee d6).mono ?_;rintro _ fd ⟨rfl,eq,rfl⟩;have b7:bW H (H.drewN eq):=lR rfl rfl rfl (Nat.le_refl _) (λ_ _=>rfl);have ar:=ae an b7 an.size;have dr:=E.below b7;have bq:(Lib.cut s [58,58]).1.length <=s.length/\(Lib.cut s [58,58]).2.1.length <=s.length:=by
  rcases xM s with⟨h1,-⟩|⟨p,h1,-⟩<;>rw[h1]
  ·exact⟨Nat.le_refl _,Nat.zero_le _⟩
  ·exact⟨by rw[length_take];omega,by rw[length_drop];omega⟩
 have ct:v6A s=(if Nk (Lib.cut s [58,58]).2.2 (dX (Lib.cut s [58,58]).1) (dX (Lib.cut s [58,58]).2.1)=true then some (v6L (dX (Lib.cut s [58,58]).1) (dX (Lib.cut s [58,58]).2.1))else none).map nh:=rfl;show ∃(er:lU) (es:lU) (c5:Bool),(Ending.returned (.tuple #[.string (mkS (Lib.cut s [58,58]).1),.string (mkS (Lib.cut s [58,58]).2.1),.bool (Lib.cut s [58,58]).2.2]):Ending)=.returned (.tuple #[vS er,vS es,.bool c5])/\_;generalize Lib.cut s [58,58]=C at*;obtain⟨f,b,g⟩:=C;refine⟨f,b,g,rfl,?_⟩;have e3:f.length <=s.length:=bq.1;have e2:b.length <=s.length:=bq.2;have cr:v6A s=(if Nk g (dX f) (dX b)=true then some (v6L (dX f) (dX b))else none).map nh:=ct;clear ct bq;refine aA (Dy f (by omega) _ (bb.step ar)) ?_;rintro _ et ⟨a4,ek,ew,rfl,ck,e4,b8⟩;have a0:=ae ar b8 ar.size;refine⟨_,_,_,_,rfl,?_⟩;refine aA (Dy b (by omega) et (bb.step a0)) ?_;rintro _ ad ⟨a5,el,ex,rfl,cl,e5,Z⟩;have X:=ae a0 Z a0.size;have al:=(dr.below b8).below Z;refine⟨_,_,_,_,rfl,?_⟩;have cp:∀t:lU,(dX t).length <=t.length+1:=λt=>by
  unfold dX;split
  ·simp
  ·exact dJ 58 t []
 have q:∀t:lU,(Iv t).length=(dX t).length:=λt=>by simp[Iv]
 have e7:=cp f;have e6:=cp b;have d7:(dX f).all eE=true->ek=(dX f).length:=λh=>by rw[<- q];exact(ck h).1.len
 have bs:(dX b).all eE=true->el=(dX b).length:=λh=>by rw[<- q];exact(cl h).1.len
 have em:∀{b2:World},Nk g (dX f) (dX b)=false->au b2 c2 ay (adC ad0)->bW w b2->_:=fun{b2} d3 dw d1=>cH.fin (K:=λb1 I=>(.tuple #[b1,.bool false]:Value)=adT (v6A s)/\bW w I) (cs:=adC ad0) rfl (fz _) dw rfl d1 (by omega) λI a9=>⟨by rw[cr,d3];rfl,a9⟩
 refine jA (w:=ad) (Nk g (dX f) (dX b)=true) ?_ (λcb=>?_)
 ·refine⟨λx w'=>w'=ad/\x= !(Nk g (dX f) (dX b)),?_,?_⟩
  ·refine af.of (λh1=>⟨rfl,?_⟩) (λh1=>?_)
   ·have O:(dX f).all eE=false:=by simpa only[Bool.not_eq_true']using h1
    unfold Nk;rw[O,Bool.false_and,Bool.false_and];rfl
   have O:(dX f).all eE=true:=by simpa only[Bool.not_eq_false']using h1
   refine af.of (λE=>⟨rfl,?_⟩) (λE=>?_)
   ·have V:(dX b).all eE=false:=by simpa only[Bool.not_eq_true']using E
    unfold Nk;rw[V,Bool.and_false,Bool.false_and];rfl
   have V:(dX b).all eE=true:=by simpa only[Bool.not_eq_false']using E
   have c8:Nk g (dX f) (dX b)=if g then decide ((dX f).length+(dX b).length<8)else decide ((dX f).length+(dX b).length=8):=by unfold Nk;rw[O,V,Bool.and_self,Bool.true_and]
   rw[c8,d7 O,bs V,wrJ];cases g with
   |true=>
    refine af.yes rfl (af.of (λb5=>⟨rfl,?_⟩) (λb5=>af.no rfl ⟨rfl,?_⟩))<;>simp at b5 ⊢<;>omega
   |false=>
    refine af.no rfl (af.yes rfl ⟨rfl,?_⟩);rw[Bool.eq_iff_iff];simp;omega
  ·intro x;refine aQ.of ?_ _;rintro fn ⟨c1,e⟩;rw[c1,e];clear c1 e;exact af.of (λh1=>em (by simpa only[Bool.not_eq_true']using h1) al X) (λh1=>⟨rfl,by simpa only[Bool.not_eq_false']using h1⟩)
 ·have bc:=cb;unfold Nk at bc;rw[Bool.and_eq_true,Bool.and_eq_true]at bc;obtain⟨⟨b4,M⟩,aj⟩:=bc;have e1:(dX f).length+(dX b).length <=8:=by
   split at aj
   ·have:=of_decide_eq_true aj;omega
   ·have:=of_decide_eq_true aj;omega
  obtain⟨ch,ey,eg⟩:=ck b4;obtain⟨cj,e0,ei⟩:=cl M;rw[bs M];intro k12 c3 d4 cu;have Y:=(cu▸ao ad _:bW ad c3)
  have dx:=ae X Y X.size;have dn:au c3 k12 bh (i16 [0,0,0,0,0,0,0,0]):=au.new d4 cu;have d9:=(ch.below Z).below Y;have ea:=cj.below Y;have fb:∀g,eP a4=some g->g≠k12:=λg bj ag=>by have:=ch.lt g bj;have:=Z.size;omega
  have en:∀g,eP a5=some g->g≠k12:=λg bj ag=>by have:=cj.lt g bj;omega
  have ce:w.heap.size <=k12:=by have:=X.size;omega
  have e9:=al.lt;obtain⟨ev,ed,dp,bk⟩:=Ou (P:=prog) (sT:=eG) (ty:=aU) (dLen:=8) (dCap:=8) (o:=0) (A:=⟨k12,0,none⟩) sQ (by kernel_rfl) dn d9 eg (λ_=>rfl) (by rw[q];omega) (by rw[q];simp[i16];omega);have c7:Int.toNat (i64.wrap ((8:Int)-(((dX b).length:Nat):Int)))=8-(dX b).length:=by rw[wrJ];omega
  have b3:i64.wrap ((8:Int)-(((dX b).length:Nat):Int))=((8-(dX b).length:Nat):Int):=by rw[wrJ];omega
  refine⟨trivial,ev,_,ed,⟨by rw[b3];omega,by rw[b3];omega⟩,?_⟩;rw[c7];have eb:=ea.put en bk;have cf:(List.take 0 (i16 [0,0,0,0,0,0,0,0])++i16 (Iv f)++List.drop (0+(Iv f).length) (i16 [0,0,0,0,0,0,0,0])).length=8:=by
   have:=q f;simp[i16];omega
  obtain⟨c4,cn,U,cc⟩:=Ou (P:=prog) (sT:=eG) (ty:=aU) (dLen:=8-(8-(dX b).length)) (dCap:=8-(8-(dX b).length)) (o:=8-(dX b).length) (A:=if 8=8-(dX b).length then⟨k12,0,none⟩ else Addr.add ⟨k12,0,none⟩ ((8-(dX b).length)*1)) sQ (by kernel_rfl) dp eb ei
   (λd8=>by
    have:(dX b).length≠0:=λag=>d8 (List.length_eq_zero_iff.1 (by rw[q];exact ag));rw[if_neg (by omega)];unfold Addr.add;split<;>simp_all) (by rw[q];omega) (by rw[q,cf];omega)
  rw[bs M]at cn;refine⟨c4,_,cn,?_⟩;obtain⟨D,G⟩:∃D,D=v6L (dX f) (dX b):=⟨_,rfl⟩
  have d2:D.length=8:=by rw[G];simp[v6L];omega
  have a8:∀x∈D,x<65536:=λx e=>by
   rw[G]at e;unfold v6L at e;rcases List.mem_append.1 e with e|e
   ·rcases List.mem_append.1 e with e|e
    ·obtain⟨y,b0,rfl⟩:=List.mem_map.1 e;exact VR (List.all_eq_true.1 b4 y b0)
    ·rw[(List.mem_replicate.1 e).2];decide
   ·obtain⟨y,b0,rfl⟩:=List.mem_map.1 e;exact VR (List.all_eq_true.1 M y b0)
  have ca:(List.take 0 (i16 [0,0,0,0,0,0,0,0])++i16 (Iv f)++List.drop (0+(Iv f).length) (i16 [0,0,0,0,0,0,0,0])).take (8-(dX b).length)++i16 (Iv b)++(List.take 0 (i16 [0,0,0,0,0,0,0,0])++i16 (Iv f)++List.drop (0+(Iv f).length) (i16 [0,0,0,0,0,0,0,0])).drop (8-(dX b).length+(Iv b).length)=i16 (D.map λx:Nat=>(x:Int)):=by
   have ef:i16 [0,0,0,0,0,0,0,0]=replicate 8 (Value.int .u16 0):=rfl;rw[ef,List.take_zero,nil_append,List.drop_replicate,q,q,Nat.zero_add,G];rw[show 8-(dX b).length+(dX b).length=8 by omega,List.drop_eq_nil_of_le (by simp[i16,Iv];omega),append_nil];rw[List.take_append,take_of_length_le (by simp[i16,Iv];omega),List.take_replicate];have c6:min (8-(dX b).length-(i16 (Iv f)).length) (8-(dX f).length)=8-(dX f).length-(dX b).length:=by
    have:(i16 (Iv f)).length=(dX f).length:=by simp[i16,Iv]
    omega
   rw[c6];unfold v6L i16 Iv;simp;rfl
  rw[ca]at U;have b6:=Below.put (Below.put dx bk ce) cc ce;have ds:=((al.below Y).grown bk (bA (by omega))).grown cc (bA (by omega));have ac:v6A s=some (nh D):=by rw[cr,cb,G];rfl
  clear G ca cf
  match D,d2,a8,U,ac with
  |[c9,da,dc,dd,de,dg,dk,dl],_,a8,U,ac=>
   refine⟨_,_,_,_,_,_,_,_,AJ.load0 U rfl,?_⟩;refine aA (KX c9 da dc dd de dg dk dl a8 c4) ?_;rintro _ fl ⟨rfl,b9⟩;have d0:=ae b6 b9 b6.size;refine⟨_,rfl,?_⟩;exact cH.fin (K:=λb1 I=>(.tuple #[b1,.bool true]:Value)=adT (v6A s)/\bW w I) (by rw[dt];exact TT s _ ac) (fz _) (ds.below b9) rfl d0 (by omega) λI a9=>⟨by rw[ac];rfl,a9⟩
abbrev AP (n:Nat):lU:=Lib.decDigits n
theorem OT:Lib.itoa (n:Int)=AP n:=by unfold Lib.itoa;rw[if_neg (by omega)];rfl
theorem jr (h:n <=9223372036854775807):(AP n).length <=21:=by rw[<- OT];exact Lib.itoa_length_le n (by omega) (by omega)
theorem Je (h:n<10):AP n=[UInt8.ofNat (48+n)]:=Lib.decDigits_one h
theorem DU (h: ¬ n<10):AP n=AP (n/10)++[UInt8.ofNat (48+n%10)]:=by
 show Lib.decDigits n=_;rw[Lib.decDigits,dif_neg h]
def FO (a:lU):lU:=Lib.join ((a.drop 12).map λc=>AP c.toNat) [46]
theorem Yh {a:lU}(h:a.length=16):a.drop 12=[a[12]'(by omega),a[13]'(by omega),a[14]'(by omega),a[15]'(by omega)]:=by
 rw[drop_eq_getElem_cons (by omega),drop_eq_getElem_cons (by omega),drop_eq_getElem_cons (by omega),drop_eq_getElem_cons (by omega),List.drop_eq_nil_of_le (by omega)]
theorem N3 {a:lU}(h:a.length=16):FO a=AP (a[12]'(by omega)).toNat++([46]:lU)++AP (a[13]'(by omega)).toNat++([46]:lU)++AP (a[14]'(by omega)).toNat++([46]:lU)++AP (a[15]'(by omega)).toNat:=by
 unfold FO;rw[Yh h];simp[Lib.join_cons,Lib.joinTail]
theorem Em (xs:List lU)(c:UInt8)(e:Nat)(h:∀x∈xs,x.length <=e):(Lib.join xs [c]).length <=xs.length*(e+1):=by
 cases xs with
 |nil=>simp[Lib.join_nil]
 |cons x r=>
  rw[Lib.join_cons];have:∀r:List lU,(∀x∈r,x.length <=e)->(Lib.joinTail [c] r).length <=r.length*(e+1):=by
   intro r;induction r with
   |nil=>intro _;simp[Lib.joinTail]
   |cons y r I=>
    intro q;have h1:=I λx G=>q x (mem_cons_of_mem _ G);have E:=q y mem_cons_self;have D:Lib.joinTail [c] (y::r)=[c]++y++Lib.joinTail [c] r:=by simp[Lib.joinTail]
    rw[D];simp only[length_append,length_cons,length_nil,Nat.add_mul];omega
  have h1:=this r λy H=>h y (mem_cons_of_mem _ H);have E:=h x mem_cons_self;simp only[length_append,length_cons,Nat.add_mul];omega
theorem Ek {a:Option Addr}{n c:Nat}{xs:List lU}(ac:Sl tS w A a n c xs)(sep:lU)(e:xs.length <=140737488355328)(X:(Lib.join xs sep).length <=140737488355328):
 Cf dq #[.slice a n c,vS sep] w (Ret λv w'=>v=vS (Lib.join xs sep)/\bW w w'):=by
 obtain⟨Y,Z,ad,D⟩:=ac;subst Y;rcases D with D|⟨b,off,rfl,M,_,cs,U,O⟩
 ·subst D;refine(Tryz.strings_Join_none a c (mkS sep) w).mono ?_;rintro _ _ ⟨rfl,rfl⟩;exact⟨_,rfl,rfl,Below.refl _ _⟩
 ·have G:=j0 U;have E:(xs.map mkS).map (λs=>s.data.toList)=xs:=by rw[List.map_map];exact List.map_id xs
  have H:=Tryz.strings_Join b off c (xs.map mkS) (mkS sep) w (λj x e=>by
   rw[List.getElem?_map]at e;cases q:xs[j]? with
   |none=>rw[q]at e;cases e
   |some y=>
    rw[q]at e;cases e;have V:=(List.getElem?_eq_some_iff.1 q).1;rw[O j (by rw[G];simpa using V),G,List.getElem?_map,q];rfl) M (by rw[length_map];omega) (by rw[length_map];exact Z) (by
    rw[E];exact X)
  rw[length_map]at H;refine H.mono ?_;rintro _ w' ⟨rfl,I⟩;rw[E];exact⟨_,rfl,rfl,I⟩
theorem Se (n:Nat)(h:n <=9223372036854775807)(w:World)(e:Env w):Cf kw #[vI (n:Int)] w (Ret λv w'=>v=vS (AP n)/\bW w w'):=by
 refine(Tryz.strconv_Itoa n (by omega) (by omega) w e.tab).mono ?_;rintro _ _ ⟨rfl,k,q,rfl⟩;rw[OT];exact⟨_,rfl,rfl,wG w k q⟩
theorem zZb (a:lU)(bs:a.length=16)(w:World)(ac:Env w):Cf rA #[adV a] w (Ret λv w'=>v=vS (FO a)/\bW w w'):=by
 apply GZ;intro E q aj O;have G:=(O▸ao w _:bW w q)
 have h1:au q E ay (adC a):=au.new aj O;have X:(if 16=(Int.toNat (12:Int))then(⟨E,0,none⟩:Addr)else Addr.add ⟨E,0,none⟩ ((Int.toNat (12:Int))*1))=⟨E,12,none⟩:=by
  rw[if_neg (by decide)];unfold Addr.add;split<;>simp_all
 have Y:(16-(Int.toNat (12:Int)):Nat)=4:=rfl;rw[X,Y];refine⟨⟨by decide,by decide⟩,?_⟩;refine⟨λm a3 U M i w'=>∃k:Nat,k <=4/\i=(k:Int)/\m=4-k/\Ow tS ak w' NoB a3 U M (((a.drop 12).take k).map λc=>AP c.toNat)/\bU q.heap.size a3/\bW q w',
  ⟨_,0,by omega,rfl,rfl,Ow.nil _ _ _ _,bU.none _,Below.refl _ _⟩,?_⟩
 intro m a3 U M i;refine aQ.of ?_ _;rintro bj ⟨k,b0,rfl,rfl,I,ad,e⟩;have an:(a.drop 12).length=4:=by rw[length_drop];omega
 refine af.of (λh=>?_) (λh=>?_)<;>simp only[dTx,dFx]at h
 ·have b1:k<4:=by omega
  rw[iw];have b3:=pa (a[12+k]'(by omega));refine⟨⟨⟨by omega,h⟩,rfl⟩,_,(h1.below e).load1 cE rfl (Dw (i:=12+k) (by omega)),?_⟩;rw[wrJ];refine aA (Se _ (by omega) bj ((ac.step G).step e)) ?_;rintro _ bk ⟨rfl,D⟩;have H:=ae e D e.size;refine⟨_,rfl,?_⟩;intro b4 b5 al a9;have b2:(((a.drop 12).take k).map λc=>AP c.toNat).length <=4:=by simp;omega
  obtain⟨bq,a5,bc,V,a8,a0,ag,Z⟩:=Ch (ty:=aO) (w0:=q) (cm:=1) (vs:=[_]) (ec _) dW cK (by decide) (I.below D) ad H al a9 (gB trivial) (by omega);refine⟨bq,a5,bc,V,a8,4-(k+1),by omega,k+1,by omega,by rw[wrJ];omega,rfl,?_,ag,Z⟩;rw[take_succ_eq_append_getElem (by omega),map_append];have:(a.drop 12)[k]'(by omega)=a[12+k]'(by omega):=by rw[List.getElem_drop]
  rw[this];exact a0
 ·have:k=4:=by omega
  subst this;rw[take_of_length_le (by omega)]at I;have ar:(FO a).length <=4*(21+1):=by
   have:=Em ((a.drop 12).map λc=>AP c.toNat) 46 21 (λx bb=>by
    obtain⟨c,_,rfl⟩:=List.mem_map.1 bb;have:=pa c;exact jr (by omega))
   rw[length_map,an]at this;exact this
  refine aA (Ek I.all [46] (by rw[length_map];omega) (Nat.le_trans ar (by decide))) ?_;rintro _ bk ⟨rfl,D⟩;have H:=ae e D e.size;exact⟨_,rfl,rfl,ae G H G.size⟩
theorem gp {w e:World}{d:Nat}(M:d<10){x:Int}(I:x=(d:Int))(E:n=w.heap.size)(q:e=w.alloc (.cells #[.int .u8 (IntKind.u8.wrap (i64.wrap ((48:Int)+x)))] bp)):
 ∀u,bW e u->(convert aV ak (.slice (some ⟨n,0,none⟩) 1 1)).run prog u=.ok (vS [UInt8.ofNat (48+d)]) u:=by
 intro u H;have D:IntKind.u8.wrap (i64.wrap ((48:Int)+x))=(((UInt8.ofNat (48+d)).toNat:Nat):Int):=by
  rw[I,wrJ,wrap_u8 (by omega) (by omega),MD (by omega)];omega
 rw[D]at q;have G:Ow tU8 bp e NoB (some ⟨n,0,none⟩) 1 1 [UInt8.ofNat (48+d)]:=Ow.newF r6 E q (gy.one (qJ rfl)) (show 1 <=maxLen by decide);exact oM bX ax cE (G.below H).all
theorem iM:∀(n:Nat) (h:n <=9223372036854775807) (w:World),Cf cV #[vI (n:Int)] w (Ret λv w'=>v=vS (AP n)/\bW w w')
 |n,Z,w=>by
  apply Av;refine af.of (λh=>?_) (λh=>?_)<;>simp only[dTx,dFx]at h
  ·intro M w8 D e;refine⟨_,gp (d:=n) (by omega) rfl D e w8 (Below.refl _ _),?_⟩;rw[Je (by omega)];exact⟨rfl,e▸ao _ _⟩
  ·have Y:n/10<n:=by omega
   refine⟨by decide,?_⟩;rintro _ rfl;refine⟨by decide,?_⟩;rintro _ rfl;have O:i64.wrap (Int.tdiv (n:Int) 10)=((n/10:Nat):Int):=by rw[cD (by omega),wrJ];omega
   have U:Int.tmod (n:Int) 10=((n%10:Nat):Int):=by rw[cY (by omega)];omega
   rw[O,U,DU (by omega)];have G:bW w (drew w):=lR rfl rfl rfl (Nat.le_refl _) (λ_ _=>rfl);have X:=jr (n:=n/10) (by omega);refine⟨?_,?_⟩
   ·refine aA (iM (n/10) (by omega) (drew w)) ?_;rintro _ H ⟨rfl,q⟩;refine⟨_,rfl,?_⟩;intro M w8 D e;refine⟨_,gp (d:=n%10) (by omega) rfl D e w8 (Below.refl _ _),fits (by simp;omega),?_⟩;rintro _ rfl;have I:=ae G q G.size;exact⟨rfl,ae I (e▸ao _ _) I.size⟩
   ·intro M w8 D e;have V:Below (drew w).heap.size (drew w) w8:=e▸ao _ _;have E:=ae G V G.size;refine⟨?_,_,gp (d:=n%10) (by omega) rfl D e w8 (Below.refl _ _),?_⟩
    ·refine aA (iM (n/10) (by omega) w8) ?_;rintro _ H ⟨rfl,q⟩;refine⟨_,rfl,_,gp (d:=n%10) (by omega) rfl D e H q,fits (by simp;omega),?_⟩;rintro _ rfl;exact⟨rfl,ae E q E.size⟩
    ·refine aA (iM (n/10) (by omega) w8) ?_;rintro _ H ⟨rfl,q⟩;refine⟨_,rfl,fits (by simp;omega),?_⟩;rintro _ rfl;exact⟨rfl,ae E q E.size⟩
 termination_by n=>n
theorem GO (a:lU)(U:a.length=16)(w:World):Cf pW #[adV a] w (Ret λv w'=>v=vS (FO a)/\bW w w'):=by
 apply Fa;intro M e V I;have G:=(I▸ao w _:bW w e)
 have h1:au e M ay (adC a):=au.new V I;have D:∀(i:Nat) (H:i<a.length) (u:World),bW e u->(Instr.loadAt bp (.pointer (av (some ⟨M,0,none⟩) (i:Int) 1))).run prog u=.ok (.int .u8 ((a[i].toNat:Nat):Int)) u:=λi H u E=>by
  rw[iw,Nat.zero_add];exact(h1.below E).load1 cE rfl (Dw H)
 have q:∀(c:UInt8) (u:World),bW e u->Cf cV #[vI (i64.wrap ((c.toNat:Nat):Int))] u λO w'=>O=.returned (vS (AP c.toNat))/\Below e.heap.size u w':=λc u E=>by
  have:=pa c;rw[wrJ];exact fF (iM c.toNat (by omega) u) E
 have Y:=jr (n:=a[12].toNat) (by have:=pa a[12];omega);have Z:=jr (n:=a[13].toNat) (by have:=pa a[13];omega);have ac:=jr (n:=a[14].toNat) (by have:=pa a[14];omega);have ad:=jr (n:=a[15].toNat) (by have:=pa a[15];omega);refine⟨⟨⟨by decide,by decide⟩,rfl⟩,_,D 12 (by omega),_,q _,fits (by simp;omega),?_⟩;rintro _ rfl;refine⟨⟨⟨by decide,by decide⟩,rfl⟩,_,D 13 (by omega),_,q _,fits (by simp;omega),?_⟩;rintro _ rfl;refine⟨fits (by simp;omega),?_⟩;rintro _ rfl;refine⟨⟨⟨by decide,by decide⟩,rfl⟩,_,D 14 (by omega),_,q _,fits (by simp;omega),?_⟩;rintro _ rfl;refine⟨fits (by simp;omega),?_⟩;rintro _ rfl;refine⟨⟨⟨by decide,by decide⟩,rfl⟩,_,D 15 (by omega),_,q _,fits (by simp;omega),?_⟩;rintro _ rfl;intro ag X;rw[N3 U];exact⟨by simp only[append_assoc],ae G X G.size⟩
def T4 (d:Nat):UInt8:=UInt8.ofNat (if d<10 then 48+d else 87+d)
def C5 (n:Nat):lU:=if n<16 then[T4 n]else C5 (n/16)++[T4 (n%16)]
termination_by n
theorem C7 (h:n<16):C5 n=[T4 n]:=by rw[C5,if_pos h]
theorem oW (h: ¬ n<16):C5 n=C5 (n/16)++[T4 (n%16)]:=by rw[C5,if_neg h]
theorem C6 (h:n<65536):(C5 n).length <=4:=by
 have step:∀m q:Nat,(m/16<q->(C5 (m/16)).length <=3)->True:=λ_ _ _=>trivial;have e:∀n,n<16->(C5 n).length=1:=λn h=>by rw[C7 h];rfl
 have D:∀n,n<256->(C5 n).length <=2:=λn h=>by
  by_cases c:n<16
  ·rw[e n c];omega
  ·rw[oW c,length_append,e (n/16) (by omega)];simp
 have E:∀n,n<4096->(C5 n).length <=3:=λn h=>by
  by_cases c:n<16
  ·rw[e n c];omega
  ·have:=D (n/16) (by omega);rw[oW c,length_append];simp;omega
 by_cases c:n<16
 ·rw[e n c];omega
 ·have:=E (n/16) (by omega);rw[oW c,length_append];simp;omega
def Zc:lU:=[48,49,50,51,52,53,54,55,56,57,97,98,99,100,101,102,103,104,105,106,107,108,109,110,111,112,113,114,115,116,117,118,119,120,121,122]
theorem Lg:∀d:Nat,d<16->be Zc (d:Int)=(((T4 d).toNat:Nat):Int):=by decide
theorem Lx:∀d:Nat,d<16->(([48,49,50,51,52,53,54,55,56,57,97,98,99,100,101,102]:lU).take (d+1)).drop d=[T4 d]:=by decide
theorem u64_in {n:Int}(q:0 <=n)(h1:n<18446744073709551616):IntKind.u64.wrap n=n:=by
 have e:IntKind.u64.wrap n=n%18446744073709551616:=rfl
 try dsimp only
 rw[e];omega
theorem Y8 {u:Nat}(h:u<65536):IntKind.u64.wrap (((BitVec.ofInt (IntKind.bits .u64) (u:Int)) &&& (BitVec.ofInt (IntKind.bits .u64) (IntKind.u64.wrap ((IntKind.u64.wrap (16:Int))-1)))).toNat:Nat)=((u%16:Nat):Int):=by
 have q:IntKind.u64.wrap ((IntKind.u64.wrap (16:Int))-1)=((15:Nat):Int):=by decide
 have e:∀n:Nat,n<65536->(BitVec.ofInt (IntKind.bits .u64) (n:Int)).toNat=n:=λn D=>by
  show(BitVec.ofInt 64 (n:Int)).toNat=n;rw[BitVec.toNat_ofInt];have h:((2 ^ 64:Nat):Int)=18446744073709551616:=by decide
  rw[h];omega
 rw[q,BitVec.toNat_and,e u h,e 15 (by decide)];have:u &&& 15=u%16:=Nat.and_two_pow_sub_one_eq_mod u 4;rw[this,u64_in (by omega) (by omega)]
theorem ZZ {u:Nat} :Int.fdiv (u:Int) (2 ^ (min (Int.toNat (IntKind.u64.wrap (4:Int))) (IntKind.bits .u64)))=((u/16:Nat):Int):=by
 have e:(2:Int) ^ (min (Int.toNat (IntKind.u64.wrap (4:Int))) (IntKind.bits .u64))=16:=by decide
 try dsimp only
 rw[e,Int.fdiv_eq_ediv_of_nonneg _ (by decide)];omega
theorem VG (k o j:Nat):Addr.add ⟨k,o,none⟩ j=⟨k,o+j,none⟩:=by unfold Addr.add;split<;>simp_all
theorem au.sl8 {T:TypeId}{p xs:lU}(h:au w k T (adC (p++xs)))(e:xs.length <=maxLen):Sl tU8 w Ds (some ⟨k,p.length,none⟩) xs.length xs.length xs:=by
 refine⟨rfl,Nat.le_refl _,e,.inr ⟨k,p.length,rfl,h.lt,trivial,adC xs,nq (λ_ _=>trivial),λj q=>?_⟩⟩;rw[h.cell];unfold adC;rw[map_append,List.getElem?_append_right (by simp)];simp
theorem rr (w:World)(E:Env w):Cf fh #[.int .u64 (IntKind.u64.wrap (16:Int))] w (Ret λv w'=>v=vI 4/\w'=w):=by
 have q:IntKind.u64.wrap (16:Int)=16:=by decide
 try dsimp only
 rw[q];apply mP;refine aA (K:=λv w'=>v=vI 4/\w'=w) ?_ ?_
 ·apply lg;refine af.no (by decide) ⟨by decide,⟨⟨by decide+kernel,by decide+kernel⟩,rfl⟩,4,?_,rfl,rfl⟩;have D:∀e:Int,e=15->(Instr.loadAt bp (.pointer (av (some ⟨5,0,none⟩) e 1))).run prog w=.ok (.int .u8 4) w:=by
   rintro _ rfl;exact mK cE rfl E.tz
  exact D _ (by decide+kernel)
 ·rintro _ H ⟨rfl,G⟩;exact⟨_,rfl,rfl,G⟩
theorem Ji (n:Nat)(bs:n<65536)(w:World)(bc:Env w):Cf ej #[.slice none 0 0,.int .u64 (n:Int),vI 16,.bool false,.bool false] w
 (Ret λv w'=>v=.tuple #[.slice none 0 0,vS (C5 n)]/\bW w w'):=by
 apply kg;refine jA (w:=w) True ?_ (λ_=>?_)
 ·refine⟨λb w'=>w'=w/\b=false,af.no (by decide) (af.no (by decide) ⟨rfl,by decide⟩),λb=>aQ.of ?_ _⟩;rintro ce ⟨b3,bb⟩;rw[b3,bb];exact af.no rfl ⟨rfl,trivial⟩
 intro k D bj aj;have X:=(aj▸ao w _:bW w D)
 have h1:au D k lC (adC (replicate 65 0++[])):=au.new bj aj;have ac:w.heap.size <=k:=by omega
 refine UL (w:=D) (n:Int) (af.no rfl ⟨rfl,rfl⟩) ?_;refine⟨λi w'=>∃xs:lU,i=((65-xs.length:Nat):Int)/\xs=C5 n/\au w' k lC (adC (replicate (65-xs.length) 0++xs))/\bW w w',?_,λi=>aQ.of ?_ _⟩
 ·refine aA (K:=λv w'=>v=.bool true/\w'=D) ?_ ?_
  ·apply jO;exact⟨congrArg Value.bool (by decide+kernel),rfl⟩
  rintro _ ca ⟨rfl,b4⟩;rw[b4];refine⟨_,rfl,af.yes rfl ?_⟩;refine aA (rr D (bc.step X)) ?_;rintro _ cb ⟨rfl,b5⟩;rw[b5];refine⟨_,rfl,?_⟩;refine⟨λm u i w'=>∃(q t:Nat) (xs:lU),u=(q:Int)/\m=q/\t=xs.length/\i=((65-t:Nat):Int)/\C5 n=C5 q++xs/\q*16 ^ t <=65535/\(t=0\/0<q)/\au w' k lC (adC (replicate (65-t) 0++xs))/\bW w w',
   ⟨_,n,0,[],rfl,rfl,rfl,rfl,by rw[append_nil],by omega,.inl rfl,h1,X⟩,?_⟩
  intro m u i;refine aQ.of ?_ _;rintro cc ⟨q,t,xs,rfl,bq,rfl,rfl,al,b0,b2,a8,Y⟩;obtain rfl:q=m:=bq.symm;have b9:xs.length <=3:=by
   rcases b2 with V|V
   ·omega
   ·refine Decidable.byContradiction λb7=>?_;have b6:16 ^ 4 <=16 ^ xs.length:=Nat.pow_le_pow_right (by decide) (by omega);have:16 ^ xs.length <=q*16 ^ xs.length:=Nat.le_mul_of_pos_left _ V;have O:(16:Nat) ^ 4=65536:=rfl;omega
  have b1:q<65536:=by
   have:q <=q*16 ^ xs.length:=Nat.le_mul_of_pos_right _ (Nat.pos_of_ne_zero (by simp));omega
  have U:IntKind.u64.wrap (16:Int)=16:=by decide
  have ar:i64.wrap (((65-xs.length:Nat):Int)-1)=((65-(xs.length+1):Nat):Int):=by rw[wrJ];omega
  have ag:∀c:UInt8,(adC (replicate (65-xs.length) 0++xs)).set (65-(xs.length+1)) (.int .u8 ((c.toNat:Nat):Int))=adC (replicate (65-(xs.length+1)) 0++(c::xs)):=λc=>by
   rw[wF,show 65-xs.length=(65-(xs.length+1))+1 by omega,List.replicate_succ' (n:=65-(xs.length+1)),append_assoc,List.set_append_right _ _ (by simp),List.length_replicate,Nat.sub_self];rfl
  have ad:=λc:UInt8=>a8.put (P:=prog) ik (i:=65-(xs.length+1)) (v:=.int .u8 ((c.toNat:Nat):Int)) (by rw[dt];simp;omega) rfl rfl;rw[ar,iw,Nat.zero_add];have Z:(0 <=((65-(xs.length+1):Nat):Int)/\((65-(xs.length+1):Nat):Int)<((65:Nat):Int))/\true=true:=⟨⟨by omega,by omega⟩,rfl⟩
  refine af.of (λh=>?_) (λh=>?_)
  ·rw[U]at h;simp only[ge_iff_le,dTx]at h;have H:16 <=q:=by omega
   rw[Y8 b1,ZZ,show be [48,49,50,51,52,53,54,55,56,57,97,98,99,100,101,102,103,104,105,106,107,108,109,110,111,112,113,114,115,116,117,118,119,120,121,122] ((q%16:Nat):Int)=_ from Lg (q%16) (by omega)];obtain⟨E,I,e,G⟩:=ad (T4 (q%16));rw[ag]at e;refine⟨⟨by omega,by simp;omega⟩,Z,E,I,by decide,q/16,by omega,q/16,xs.length+1,T4 (q%16)::xs,rfl,rfl,by simp,rfl,?_,?_,.inr (by omega),e,Below.put Y G ac⟩
   ·rw[al,oW (n:=q) (by omega)];simp
   ·have O:q/16*16 ^ (xs.length+1)=(q/16*16)*16 ^ xs.length:=by rw[Nat.pow_succ,Nat.mul_comm (16 ^ xs.length) 16,Nat.mul_assoc]
    rw[O];exact Nat.le_trans (Nat.mul_le_mul_right _ (by omega)) b0
  ·rw[U]at h;simp only[ge_iff_le,dFx]at h;have H:q<16:=by omega
   rw[show be [48,49,50,51,52,53,54,55,56,57,97,98,99,100,101,102,103,104,105,106,107,108,109,110,111,112,113,114,115,116,117,118,119,120,121,122] (q:Int)=_ from Lg q H];obtain⟨E,I,e,G⟩:=ad (T4 q);rw[ag]at e;refine⟨⟨by omega,by simp;omega⟩,Z,E,I,T4 q::xs,rfl,?_,e,Below.put Y G ac⟩;rw[al,C7 H];rfl
 ·rintro E ⟨xs,rfl,M,e,a9⟩;have bk:=C6 bs;rw[<- M]at bk;refine UL (w:=E) ((65-xs.length:Nat):Int) (af.no rfl ⟨rfl,rfl⟩) ?_;refine af.no rfl ⟨⟨by omega,by omega⟩,?_⟩;have b8:0<xs.length:=by
   rw[M];by_cases c:n<16
   ·rw[C7 c];exact Nat.one_pos
   ·rw[oW c];simp
  have an:(if 65=(Int.toNat ((65-xs.length:Nat):Int))then(⟨k,0,none⟩:Addr)else Addr.add ⟨k,0,none⟩ ((Int.toNat ((65-xs.length:Nat):Int))*1))=⟨k,(replicate (65-xs.length) (0:UInt8)).length,none⟩:=by
   rw[List.length_replicate,Int.toNat_natCast,if_neg (by omega),VG,Nat.zero_add,Nat.mul_one]
  have a0:65-(Int.toNat ((65-xs.length:Nat):Int))=xs.length:=by rw[Int.toNat_natCast];omega
  rw[an,a0];refine⟨xs,oM bX ax cE (e.sl8 (by unfold maxLen;omega)),?_⟩;rw[M];exact⟨rfl,a9⟩
theorem Jk (n:Nat)(D:n<65536)(w:World)(q:Env w):Cf iz #[.int .u64 (n:Int),vI 16] w (Ret λv w'=>v=vS (C5 n)/\bW w w'):=by
 apply ri;refine aA (K:=λv w'=>v=vS (C5 n)/\bW w w') ?_ ?_
 ·apply kf;refine af.no (by decide) ?_;refine aA (Ji n D w q) ?_;rintro _ E ⟨rfl,e⟩;exact⟨_,_,_,_,rfl,rfl,e⟩
 ·rintro _ E ⟨rfl,e⟩;exact⟨_,rfl,rfl,e⟩
theorem A7:∀(n:Nat) (h:n<65536) (w:World),Cf pZ #[vI (n:Int)] w (Ret λv w'=>v=vS (C5 n)/\bW w w')
 |n,M,w=>by
  apply Kk;refine af.of (λh=>?_) (λh=>?_)<;>simp only[dTx,dFx]at h
  ·have e:i64.wrap ((n:Int)+1)=((n+1:Nat):Int):=by rw[wrJ];omega
   try dsimp only
   rw[e];refine⟨⟨⟨by omega,by simp;omega⟩,by omega,by omega⟩,?_⟩;rintro _ rfl;simp only[Int.toNat_natCast];rw[Lx n (by omega),C7 (by omega)];exact⟨rfl,Below.refl _ _⟩
  ·have I:n/16<n:=by omega
   have q:i64.wrap (Int.tdiv (n:Int) 16)=((n/16:Nat):Int):=by rw[cD (by omega),wrJ];omega
   have D:Int.tmod (n:Int) 16=((n%16:Nat):Int):=by rw[cY (by omega)];omega
   refine⟨by decide,?_⟩;rintro _ rfl;rw[q,D];have H:=C6 (n:=n/16) (by omega);refine⟨_,λu E=>fF (A7 (n/16) (by omega) u) E,by decide,?_⟩;rintro _ rfl;refine⟨by decide,?_⟩;rintro _ rfl;have e:i64.wrap (((n%16:Nat):Int)+1)=((n%16+1:Nat):Int):=by rw[wrJ];omega
   try dsimp only
   rw[e];refine⟨⟨⟨by omega,by simp;omega⟩,by omega,by omega⟩,?_⟩;rintro _ rfl;simp only[Int.toNat_natCast];rw[Lx (n%16) (by omega)];refine⟨fits (by simp;omega),?_⟩;rintro _ rfl;intro O G;rw[oW (n:=n) (by omega)];exact⟨rfl,G⟩
 termination_by n=>n
def zN (a:lU)(k:Nat):Nat:=(a.getD (2*k) 0).toNat*256+(a.getD (2*k+1) 0).toNat
def gL (a:lU):List Nat:=[zN a 0,zN a 1,zN a 2,zN a 3,zN a 4,zN a 5,zN a 6,zN a 7]
theorem AW (a:lU):(gL a).length=8:=rfl
theorem Nr (a:lU)(k:Nat):zN a k<65536:=by
 have h1:=pa (a.getD (2*k) 0);have e:=pa (a.getD (2*k+1) 0);unfold zN;omega
theorem OJ (a:lU):∀(k:Nat) (h:k<(gL a).length),(gL a)[k]=zN a k
 |0,_=>rfl
 |1,_=>rfl
 |2,_=>rfl
 |3,_=>rfl
 |4,_=>rfl
 |5,_=>rfl
 |6,_=>rfl
 |7,_=>rfl
 |n+8,h=>by rw[AW]at h;omega
theorem Jm (a:lU):∀x∈gL a,x<65536:=λx e=>by
 obtain⟨i,q,rfl⟩:=List.mem_iff_getElem.1 e;rw[OJ];exact Nr a i
def wrL (l:List Nat):lU:=Lib.join (l.map C5) [58]
theorem qE {l:List Nat}(h:∀x∈l,x<65536):(wrL l).length <=l.length*5:=by
 have:=Em (l.map C5) 58 4 (λx q=>by
  obtain⟨c,e,rfl⟩:=List.mem_map.1 q;exact C6 (h c e))
 rwa [length_map]at this
def zst (s:Nat×Nat×Nat)(i:Nat)(z:Bool):Nat×Nat×Nat:=
 if s.2.1<(if z=true then s.2.2+1 else 0)then(i+1-(if z=true then s.2.2+1 else 0),(if z=true then s.2.2+1 else 0),(if z=true then s.2.2+1 else 0))else(s.1,s.2.1,(if z=true then s.2.2+1 else 0))
def ng (zs:List Bool):Nat->Nat×Nat×Nat
 |0=>(0,0,0)
 |k+1=>zst (ng zs k) k (zs.getD k false)
def dy (zs:List Bool):Nat×Nat:=((ng zs 8).1,(ng zs 8).2.1)
def TY (zs:List Bool)(p l:Nat):Bool:=(List.range l).all λj=>zs.getD (p+j) false
def zok (zs:List Bool):Bool:=
 decide ((dy zs).1+(dy zs).2 <=8)&&(decide ((dy zs).2<2) || TY zs (dy zs).1 (dy zs).2) &&
  (List.range 9).all λL=>(List.range 9).all λA=> !(decide (2 <=L)&&decide (A+L <=8)&&TY zs A L) || (decide (L<(dy zs).2) || (decide (L=(dy zs).2)&&decide ((dy zs).1 <=A)))
theorem XM:∀e q D E G H I M:Bool,zok [e,q,D,E,G,H,I,M]=true:=by decide+kernel
theorem IG {zs:List Bool}(h:zs.length=8):(dy zs).1+(dy zs).2 <=8/\(2 <=(dy zs).2->TY zs (dy zs).1 (dy zs).2=true)/\
 ∀L A,2 <=L->A+L <=8->TY zs A L=true->L<(dy zs).2\/(L=(dy zs).2/\(dy zs).1 <=A):=by
 match zs,h with
 |[q,D,E,G,H,I,M,O],_=>
  have:=XM q D E G H I M O;unfold zok at this;rw[Bool.and_eq_true,Bool.and_eq_true]at this;obtain⟨⟨h1,e⟩,U⟩:=this;refine⟨of_decide_eq_true h1,λY=>?_,λL A V hA X=>?_⟩
  ·rw[Bool.or_eq_true,dTx]at e;exact e.resolve_left (by omega)
  ·have:=List.all_eq_true.1 (List.all_eq_true.1 U L (List.mem_range.2 (by omega))) A (List.mem_range.2 (by omega));rw[decide_eq_true V,decide_eq_true hA,X]at this;simpa using this
theorem MP (zs:List Bool):∀k,(ng zs k).2.2 <=k/\(ng zs k).2.1 <=k/\(ng zs k).1 <=k
 |0=>⟨Nat.le_refl _,Nat.le_refl _,Nat.le_refl _⟩
 |k+1=>by
  obtain⟨h1,e,q⟩:=MP zs k;unfold ng zst;cases zs.getD k false<;>simp only[Bool.false_eq_true,if_false,if_true]<;>split<;>simp<;>omega
def zsA (a:lU):List Bool:=(gL a).map (· ==0)
theorem TW (a:lU):(zsA a).length=8:=rfl
def FQ (a:lU):lU:=
 if(dy (zsA a)).2<2 then wrL (gL a)else wrL ((gL a).take (dy (zsA a)).1)++[58,58]++wrL ((gL a).drop ((dy (zsA a)).1+(dy (zsA a)).2))
theorem Zq {a d:Nat}(M:a<256)(H:d<256):IntKind.u16.wrap (((BitVec.ofInt (IntKind.bits .u16) (IntKind.u16.wrap ((IntKind.u16.wrap (a:Int))*2 ^ (min (Int.toNat (8:Int)) (IntKind.bits .u16))))) ||| (BitVec.ofInt (IntKind.bits .u16) (IntKind.u16.wrap (d:Int)))).toNat:Nat)=((a*256+d:Nat):Int):=by
 have D:(2:Int) ^ (min (Int.toNat (8:Int)) (IntKind.bits .u16))=256:=by decide
 have e:∀n:Nat,n<65536->IntKind.u16.wrap (n:Int)=(n:Int):=λn I=>by
  have:IntKind.u16.wrap (n:Int)=(n:Int)%65536:=rfl;rw[this];omega
 have E:(a:Int)*256=((a*256:Nat):Int):=by omega
 have q:∀n:Nat,n<65536->(BitVec.ofInt (IntKind.bits .u16) (n:Int)).toNat=n:=λn I=>by
  show(BitVec.ofInt 16 (n:Int)).toNat=n;rw[BitVec.toNat_ofInt];have h:((2 ^ 16:Nat):Int)=65536:=by decide
  rw[h];omega
 rw[D,e a (by omega),E,e (a*256) (by omega),e d (by omega),BitVec.toNat_or,q (a*256) (by omega),q d (by omega)];have G:a*256 ||| d=a*256+d:=by
  have:=Nat.two_pow_add_eq_or_of_lt (i:=8) H a;rw[Nat.mul_comm a 256];exact this.symm
 rw[G,e _ (by omega)]
def Gz (l:List Nat):List Value:=i16 (l.map λx:Nat=>(x:Int))
theorem Ju (l:List Nat):(Gz l).length=l.length:=by simp[Gz,i16]
theorem OQ (l:List Nat):BS (Gz l):=R3 _
theorem UJ (l:List Nat)(i x:Nat):(Gz l).set i (.int .u16 (x:Int))=Gz (l.set i x):=by unfold Gz i16;rw[List.map_set,List.map_set]
theorem Jt {l:List Nat}(h:i<l.length):(Gz l)[i]? =some (.int .u16 ((l[i]:Nat):Int)):=by
 unfold Gz i16;rw[List.getElem?_map,List.getElem?_map,List.getElem?_eq_getElem h];rfl
theorem au.sl16 {T:TypeId}{l:List Nat}(h:au w k T (Gz l)){o n c:Nat}{A:Addr}(hA:0<n->A=⟨k,o,none⟩)(I:o+n <=l.length)(D:n <=c)(G:c <=maxLen):Sl Xq w Ds (some A) n c (((l.drop o).take n).map λx:Nat=>(x:Int)):=by
 have E:(((l.drop o).take n).map λx:Nat=>(x:Int)).length=n:=by simp;omega
 refine⟨E.symm,D,G,?_⟩;by_cases q:0<n
 ·refine .inr ⟨k,o,by rw[hA q],h.lt,trivial,Gz ((l.drop o).take n),nq (h1:=λ_=>rfl) (λ_ _=>trivial),λj e=>?_⟩;rw[Ju]at e;have H:j<n:=by rw[length_take]at e;omega
  rw[h.cell,Jt (by omega),Jt e];simp
 ·exact .inl (List.length_eq_zero_iff.1 (by omega))
theorem Gr (a:lU)(c1:a.length=16)(w:World):Cf pF #[adV a] w (Ret λv w'=>v=.agg (Gz (gL a)).toArray/\bW w w'):=by
 apply EH;intro D E cf a8;have ag:=(a8▸ao w _:bW w E)
 have X:au E D ay (adC a):=au.new cf a8;intro V G ch a9;have aj:=(a9▸ao E _:bW E G)
 have I:=ae ag aj ag.size;have Z:au G V bh (Gz [0,0,0,0,0,0,0,0]):=au.new ch a9;intro k3 bk cj bb;have O:=(bb▸ao G _:bW G bk)
 have b7:=ae I O I.size;have b6:au bk k3 bh (Gz [0,0,0,0,0,0,0,0]):=au.new cj bb;have b4:=Z.below O;have b3:=(X.below aj).below O;have c4:=X.lt;have c5:=Z.lt;have ck:w.heap.size <=k3:=by have:=I.size;omega
 refine⟨λm i w'=>∃k:Nat,k <=8/\i=(k:Int)/\m=8-k/\au w' k3 bh (Gz ((gL a).take k++replicate (8-k) 0))/\au w' V bh (Gz [0,0,0,0,0,0,0,0])/\au w' D ay (adC a)/\bW w w',
  ⟨_,0,by omega,rfl,rfl,b6,b4,b3,b7⟩,?_⟩
 intro m i;refine aQ.of ?_ _;rintro cu ⟨k,c2,rfl,rfl,H,ac,Y,M⟩;refine af.of (λh=>?_) (λh=>?_)<;>simp only[dTx,dFx]at h
 ·have c3:k<8:=by omega
  have b1:i64.wrap (2*(k:Int))=((2*k:Nat):Int):=by rw[wrJ];omega
  have b2:i64.wrap (((2*k:Nat):Int)+1)=((2*k+1:Nat):Int):=by rw[wrJ];omega
  rw[b1,b2,iw,iw,iw];simp only[Nat.zero_add];have cb:(0 <=(k:Int)/\(k:Int)<((8:Nat):Int))/\True:=⟨⟨by omega,by omega⟩,trivial⟩
  have cc:(0 <=((2*k:Nat):Int)/\((2*k:Nat):Int)<((16:Nat):Int))/\True:=⟨⟨by omega,by omega⟩,trivial⟩
  have ce:(0 <=((2*k+1:Nat):Int)/\((2*k+1:Nat):Int)<((16:Nat):Int))/\True:=⟨⟨by omega,by omega⟩,trivial⟩
  have bc:∀(i:Nat) (an:i<a.length) (u:World),bW cu u->(Instr.loadAt bp (.pointer (some ⟨D,i,none⟩))).run prog u=.ok (.int .u8 ((a[i].toNat:Nat):Int)) u:=λi an u cr=>(Y.below cr).load1 cE rfl (Dw an);refine⟨cc,_,bc _ (by omega),by decide,ce,_,bc _ (by omega),cb,?_⟩;intro c6 q;have b8:=ae M q M.size;have b0:=H.below q;have bs:=ac.below q;have bq:=Y.below q;have ct:(a[2*k]'(by omega)).toNat*256+(a[2*k+1]'(by omega)).toNat=zN a k:=by
   unfold zN;rw[List.getD_eq_getElem?_getD,List.getD_eq_getElem?_getD,List.getElem?_eq_getElem (by omega),List.getElem?_eq_getElem (by omega)];rfl
  have ar:=Zq (a:=(a[2*k]'(by omega)).toNat) (d:=(a[2*k+1]'(by omega)).toNat) (by have:=pa (a[2*k]'(by omega));omega) (by have:=pa (a[2*k+1]'(by omega));omega);rw[ct]at ar;have al:=AW a;have e:((gL a).take k++replicate (8-k) 0).length=8:=by simp[al];omega
  obtain⟨w8,a0,ad,U⟩:=b0.put (P:=prog) Mz (i:=k) (v:=.int .u16 ((zN a k:Nat):Int)) (by rw[Ju,e];omega) rfl rfl;have cp:((gL a).take k++replicate (8-k) 0).set k (zN a k)=(gL a).take (k+1)++replicate (8-(k+1)) 0:=by
   have cl:((gL a).take k).length=k:=by rw[length_take,al];omega
   rw[List.set_append_right _ _ (by omega),cl,Nat.sub_self,show 8-k=(8-(k+1))+1 by omega,List.replicate_succ (n:=8-(k+1)),List.set_cons_zero,take_succ_eq_append_getElem (by omega),OJ,append_assoc];rfl
  rw[UJ,cp]at ad;rw[<- ar]at a0;have b9:∃bj:Nat,bj<8-k/\∃k':Nat,k' <=8/\i64.wrap ((k:Int)+1)=(k':Int)/\bj=8-k'/\au w8 k3 bh (Gz ((gL a).take k'++replicate (8-k') 0))/\au w8 V bh (Gz [0,0,0,0,0,0,0,0])/\au w8 D ay (adC a)/\bW w w8:=
   ⟨8-(k+1),by omega,k+1,by omega,by rw[wrJ];omega,rfl,ad,bs.grown U (bA (by omega)),bq.grown U (bA (by omega)),Below.put b8 U ck⟩
  exact⟨w8,a0,b9⟩
 ·have:k=8:=by omega
  subst this;have e8:(gL a).take 8++replicate (8-8) 0=gL a:=by rw[take_of_length_le (by rw[AW];exact Nat.le_refl _)];simp
  rw[e8]at H;have e:(Gz (gL a)).length=8:=by rw[Ju];rfl
  obtain⟨c0,cn,b5,ca⟩:=AJ.store0 e (OQ _) ac rfl;refine⟨_,_,_,_,_,_,_,_,AJ.load0 H e,c0,cn,_,_,_,_,_,_,_,_,au.res (AJ.load0 b5 e),rfl,Below.put M ca (by omega)⟩
theorem ml {A:Bl}{a:Option Addr}{n c:Nat}{l:List Nat}(M:Sl Xq w Ds a n c (l.map λx:Nat=>(x:Int)))(bs:l.length <=8)(G:∀x∈l,x<65536)(ac:Env w):
 Cf iC #[.slice a n c] w (Ret λv w'=>v=vS (wrL l)/\bW w w'):=by
 apply Cm;have an:=M.len;rw[length_map]at an;refine⟨λm a3 V E i w'=>∃k:Nat,k <=l.length/\i=(k:Int)/\m=l.length-k/\Ow tS ak w' NoB a3 V E ((l.take k).map C5)/\bU w.heap.size a3/\bW w w',
  ⟨_,0,by omega,rfl,rfl,Ow.nil _ _ _ _,bU.none _,Below.refl _ _⟩,?_⟩
 intro m a3 V E i;refine aQ.of ?_ _;rintro bc ⟨k,bq,rfl,rfl,D,ad,e⟩;refine af.of (λh=>?_) (λh=>?_)<;>simp only[dTx,dFx]at h
 ·have H:k<l.length:=by omega
  have O:=M.below e;obtain⟨v,U,I⟩:=O.load1 (i:=(k:Int)) FZ rfl rfl (by simp;omega);simp only[Int.toNat_natCast,getElem_map]at U I;obtain⟨a8,-⟩:=I;obtain rfl:=(List.cons.inj a8).1;have aj:=G l[k] (getElem_mem H);refine⟨⟨⟨by omega,h⟩,O.isSome (by simp;omega)⟩,_,U,?_⟩;rw[u64_in (by omega) (by omega)];refine aA (Jk _ aj bc (ac.step e)) ?_;rintro _ bj ⟨rfl,q⟩;have Y:=ae e q e.size;refine⟨_,rfl,?_⟩;intro b2 b3 al a9;have b1:((l.take k).map C5).length <=8:=by simp;omega
  obtain⟨bk,a5,bb,X,a0,ar,ag,Z⟩:=Ch (ty:=aO) (w0:=w) (cm:=1) (vs:=[_]) (ec _) dW cK (by decide) (D.below q) ad Y al a9 (gB trivial) (by omega);refine⟨bk,a5,bb,X,a0,l.length-(k+1),by omega,k+1,by omega,by rw[wrJ];omega,rfl,?_,ag,Z⟩;rw[take_succ_eq_append_getElem H,map_append];exact ar
 ·have:k=l.length:=by omega
  subst this;rw[take_length]at D;have b0:=qE G;refine aA (Ek D.all [58] (by rw[length_map];omega) (by show(wrL l).length <=_;omega)) ?_;rintro _ bj ⟨rfl,q⟩;exact⟨_,rfl,rfl,ae e q e.size⟩
theorem IW (E G H I M O U V:Nat)(w:World):
 Cf rD #[.agg #[.int .u16 (E:Int),.int .u16 (G:Int),.int .u16 (H:Int),.int .u16 (I:Int),.int .u16 (M:Int),.int .u16 (O:Int),.int .u16 (U:Int),.int .u16 (V:Int)]] w
  (Ret λv w'=>v=.tuple #[vI ((dy ([E,G,H,I,M,O,U,V].map (· ==0))).1:Int),vI ((dy ([E,G,H,I,M,O,U,V].map (· ==0))).2:Int)]/\bW w w'):=by
 apply G3;intro a8 X ar ad;have an:=(ad▸ao w _:bW w X)
 have Z:au X a8 bh (Gz [E,G,H,I,M,O,U,V]):=au.new ar ad;obtain⟨e,Y⟩:∃e,e=[E,G,H,I,M,O,U,V]:=⟨_,rfl⟩
 have bq:e.length=8:=by rw[Y];rfl
 rw[<- Y]at Z ⊢;clear Y;refine⟨λm p aj ru i w'=>∃k:Nat,k <=8/\i=(k:Int)/\m=8-k/\p=((ng (e.map (· ==0)) k).1:Int)/\aj=((ng (e.map (· ==0)) k).2.1:Int)/\ru=((ng (e.map (· ==0)) k).2.2:Int)/\w'=X,⟨_,0,by omega,rfl,rfl,rfl,rfl,rfl,rfl⟩,?_⟩;intro m p aj ru i;refine aQ.of ?_ _;rintro b0 ⟨k,bk,rfl,rfl,rfl,rfl,rfl,ag⟩;rw[ag];clear ag;obtain⟨bb,bc,bj⟩:=MP (e.map (· ==0)) k;refine af.of (λh=>?_) (λh=>?_)<;>simp only[dTx,dFx]at h
 ·have ac:k<e.length:=by omega
  have a0:(e.map (· ==0)).getD k false=(e[k]==0):=by
   rw[List.getD_eq_getElem?_getD,List.getElem?_map,List.getElem?_eq_getElem ac];rfl
  rw[iw,Nat.zero_add];have al:i64.wrap ((k:Int)+1)=((k+1:Nat):Int):=by rw[wrJ];omega
  try dsimp only
  rw[al];refine UL (B:=λJ=>_/\∃a9:Int,_/\af (a9 !=0) (J 0 X) (J _ X)) ((if(e[k]==0)=true then(ng (e.map (· ==0)) k).2.2+1 else 0:Nat):Int) ⟨⟨⟨by omega,by omega⟩,rfl⟩,_,Z.load1 FZ rfl (Jt ac),af.of (λD=>⟨rfl,?_⟩) (λD=>⟨rfl,?_⟩)⟩ ?_
  ·rw[if_neg (by simp at D ⊢;omega)];rfl
  ·rw[if_pos (by simp at D ⊢;omega),wrJ];omega
  ·have q:ng (e.map (· ==0)) (k+1)=zst (ng (e.map (· ==0)) k) k (e[k]==0):=by rw[<- a0];rfl
   have bs:(if(e[k]==0)=true then(ng (e.map (· ==0)) k).2.2+1 else 0) <=k+1:=by split<;>omega
   unfold zst at q;generalize (if(e[k]==0)=true then(ng (e.map (· ==0)) k).2.2+1 else 0)=ru at*;refine af.of (λD=>?_) (λD=>?_)<;>simp only[gt_iff_lt,dTx,dFx]at D
   ·rw[if_pos (by omega)]at q;refine⟨8-(k+1),by omega,k+1,by omega,rfl,rfl,?_,?_,?_,rfl⟩
    ·rw[q,wrJ];show _=((k+1-ru:Nat):Int);omega
    ·rw[q]
    ·rw[q]
   ·rw[if_neg (by omega)]at q;exact⟨8-(k+1),by omega,k+1,by omega,rfl,rfl,by rw[q],by rw[q],by rw[q],rfl⟩
 ·have:k=8:=by omega
  subst this;exact⟨rfl,an⟩
theorem KZ (zs:List Bool)(p l:Nat):TY zs p (l+1)=(TY zs p l&&zs.getD (p+l) false):=by
 unfold TY;rw[List.range_succ,List.all_append];simp
theorem XN (a:lU)(h:k<8):(zsA a).getD k false=(zN a k==0):=by
 unfold zsA;rw[List.getD_eq_getElem?_getD,List.getElem?_map,List.getElem?_eq_getElem (by rw[AW];exact h),OJ];rfl
theorem LC (sep:lU)(r:List lU)(y:lU):Lib.joinTail sep (r++[y])=Lib.joinTail sep r++(sep++y):=by simp[Lib.joinTail]
theorem VB (l:List Nat)(x:Nat):wrL (l++[x])=if l=[]then C5 x else wrL l++[58]++C5 x:=by
 unfold wrL;cases l with
 |nil=>simp[Lib.join_one]
 |cons y r=>
  rw[if_neg (by simp),map_append,map_cons,cons_append,map_cons,map_nil,Lib.join_cons,Lib.join_cons,LC];simp
theorem IU (a:lU)(ac:a.length=16)(w:World)(I:Env w):Cf rB #[adV a] w (Ret λv w'=>v=vS (FQ a)/\bW w w'):=by
 apply G1;intro bs U bj an;have X:=(an▸ao w _:bW w U)
 have a8:au U bs ay (adC a):=au.new bj an;refine⟨_,cH.load0 a8 (by rw[dt,ac]),?_⟩;refine aA (Gr a ac U) ?_;rintro _ b4 ⟨rfl,a9⟩;have Y:=ae X a9 X.size;refine⟨_,_,_,_,_,_,_,_,rfl,?_⟩;refine AJ.new (zs:=Gz [0,0,0,0,0,0,0,0]) (cs:=Gz (gL a)) rfl rfl (OQ _) b4 λG b5 b6 V bb=>?_;have Z:=ae Y bb Y.size;refine⟨_,_,_,_,_,_,_,_,AJ.load0 V rfl,?_⟩;refine aA (IW (zN a 0) (zN a 1) (zN a 2) (zN a 3) (zN a 4) (zN a 5) (zN a 6) (zN a 7) b5) ?_;rintro _ b9 ⟨rfl,aj⟩;have D:=ae Z aj Z.size;have H:=V.below aj;have bq:=IG (TW a);show ∃b2 b3:Int,(Ending.returned (.tuple #[vI ((dy (zsA a)).1:Int),vI ((dy (zsA a)).2:Int)]):Ending)=.returned (.tuple #[vI b2,vI b3])/\_;have al:FQ a=if(dy (zsA a)).2<2 then wrL (gL a)else wrL ((gL a).take (dy (zsA a)).1)++[58,58]++wrL ((gL a).drop ((dy (zsA a)).1+(dy (zsA a)).2)):=rfl;rw[al];clear al;generalize dy (zsA a)=ar at*;obtain⟨p,e⟩:=ar;have b8:p+e <=8:=bq.1;refine⟨(p:Int),(e:Int),rfl,?_⟩;show af _ _ _;have M:=AW a;refine af.of (λh=>?_) (λh=>?_)<;>simp only[dTx,dFx]at h
 ·rw[if_pos (show e<2 by omega)];have q:=H.sl16 (o:=0) (n:=8) (c:=8) (A:=⟨G,0,none⟩) (λ_=>rfl) (by rw[M];omega) (Nat.le_refl _) (by unfold maxLen;omega);have e8:((gL a).drop 0).take 8=gL a:=by rw[List.drop_zero,take_of_length_le (by omega)]
  rw[e8]at q;refine⟨trivial,?_⟩;refine aA (ml (A:=Ds) q (by omega) (Jm a) (I.step D)) ?_;rintro _ ca ⟨rfl,bc⟩;exact⟨_,rfl,rfl,ae D bc D.size⟩
 ·rw[if_neg (show ¬ e<2 by omega)];have a0:i64.wrap ((p:Int)+(e:Int))=((p+e:Nat):Int):=by rw[wrJ];omega
  try dsimp only
  rw[a0];simp only[Int.toNat_natCast];have ad:∀x∈(gL a).take p,x<65536:=λx O=>Jm a x (mem_of_mem_take O);have ag:∀x∈(gL a).drop (p+e),x<65536:=λx O=>Jm a x (List.mem_of_mem_drop O);have b0:=qE ad;have b1:=qE ag;rw[length_take]at b0;rw[length_drop]at b1;refine⟨⟨by omega,by omega⟩,wrL ((gL a).take p),λu E=>?_,fits (by simp;omega),?_⟩
  ·have q:=(H.below E).sl16 (o:=0) (n:=p) (c:=8) (A:=⟨G,0,none⟩) (λ_=>rfl) (by rw[M];omega) (by omega) (by unfold maxLen;omega);rw[List.drop_zero]at q;exact fF (ml (A:=Ds) q (by rw[length_take];omega) ad ((I.step D).step E)) E
  rintro _ rfl;refine⟨⟨by omega,by omega⟩,wrL ((gL a).drop (p+e)),λu E=>?_,fits (by simp;omega),?_⟩
  ·have q:=(H.below E).sl16 (o:=p+e) (n:=8-(p+e)) (c:=8-(p+e)) (A:=if 8=p+e then⟨G,0,none⟩ else Addr.add ⟨G,0,none⟩ ((p+e)*1)) (λb7=>by rw[if_neg (by omega),VG,Nat.zero_add,Nat.mul_one]) (by rw[M];omega) (Nat.le_refl _) (by unfold maxLen;omega);rw[take_of_length_le (by rw[length_drop];omega)]at q;exact fF (ml (A:=Ds) q (by rw[length_drop];omega) ag ((I.step D).step E)) E
  rintro _ rfl;intro cb bk;exact⟨by simp only[append_assoc],ae D bk D.size⟩
theorem uY (a:lU)(V:a.length=16)(k:Nat)(X:k<8)(w:World):Cf lK #[adV a,vI (k:Int)] w (Ret λv w'=>v=vI ((zN a k:Nat):Int)/\bW w w'):=by
 apply E9;intro U E I D;have q:=(D▸ao w _:bW w E)
 have h1:au E U ay (adC a):=au.new I D;have G:i64.wrap (2*(k:Int))=((2*k:Nat):Int):=by rw[wrJ];omega
 have H:i64.wrap (((2*k:Nat):Int)+1)=((2*k+1:Nat):Int):=by rw[wrJ];omega
 rw[G,H,iw,iw,Nat.zero_add,Nat.zero_add];refine⟨⟨⟨by omega,by omega⟩,rfl⟩,_,λu e=>(h1.below e).load1 cE rfl (Dw (a:=a) (i:=2*k) (by omega)),⟨⟨by omega,by omega⟩,rfl⟩,_,λu e=>(h1.below e).load1 cE rfl (Dw (a:=a) (i:=2*k+1) (by omega)),λac O=>⟨?_,ae q O q.size⟩⟩;have Y:=pa (a[2*k]'(by omega));have Z:=pa (a[2*k+1]'(by omega));have M:(a[2*k]'(by omega)).toNat*256+(a[2*k+1]'(by omega)).toNat=zN a k:=by
  unfold zN;rw[List.getD_eq_getElem?_getD,List.getD_eq_getElem?_getD,List.getElem?_eq_getElem (by omega),List.getElem?_eq_getElem (by omega)];rfl
 rw[<- M,wrap_i64 (n:=(((a[2*k]'(by omega)).toNat:Nat):Int)) (by omega) (by omega),wrap_i64 (n:=(((a[2*k+1]'(by omega)).toNat:Nat):Int)) (by omega) (by omega),wrJ (n:=_*_),wrJ];congr 1
theorem qs (a:lU)(M:a.length=16)(p q:Nat)(bc:p <=q)(bj:q <=8)(w:World):Cf gY #[adV a,vI (p:Int),vI (q:Int)] w
 (Ret λv w'=>v=vS (wrL (((gL a).drop p).take (q-p)))/\bW w w'):=by
 apply Hm;intro an E aj U;have H:=(U▸ao w _:bW w E)
 have h1:au E an ay (adC a):=au.new aj U;have a0:=AW a;have ad:∀j,∀x∈((gL a).drop p).take j,x<65536:=λj x e=>Jm a x (List.mem_of_mem_drop (mem_of_mem_take e));refine⟨λm s i w'=>∃j:Nat,j <=q-p/\i=((p+j:Nat):Int)/\m=q-p-j/\s=wrL (((gL a).drop p).take j)/\bW E w',⟨_,0,by omega,rfl,rfl,rfl,Below.refl _ _⟩,?_⟩;intro m s i;refine aQ.of ?_ _;rintro G ⟨j,a8,rfl,rfl,rfl,D⟩;have al:=qE (ad j);rw[length_take,length_drop]at al;refine af.of (λh=>?_) (λh=>?_)<;>simp only[dTx,dFx]at h
 ·have bb:p+j<q:=by omega
  refine NZ (B:=λJ=>af _ (_/\∀V,V=(_++[58])->J V G) (J _ G)) (if j=0 then[]else wrL (((gL a).drop p).take j)++[58]) (af.of (λe=>⟨fits (by simp;omega),?_⟩) (λe=>⟨rfl,?_⟩)) ?_
  ·rintro _ rfl;simp only[gt_iff_lt,dTx]at e;exact⟨rfl,by rw[if_neg (by omega)]⟩
  ·simp only[gt_iff_lt,dFx]at e;have:j=0:=by omega
   subst this;rw[if_pos rfl];rfl
  ·refine⟨_,cH.load0 (h1.below D) (by rw[dt,M]),?_⟩;refine aA (uY a M (p+j) (by omega) G) ?_;rintro _ ar ⟨rfl,Z⟩;have I:=ae D Z D.size;refine⟨_,rfl,?_⟩;refine aA (A7 (zN a (p+j)) (Nr _ _) ar) ?_;rintro _ bk ⟨rfl,ac⟩;have Y:=ae I ac I.size;have a9:=C6 (Nr a (p+j));refine⟨_,rfl,fits (by split<;>simp<;>omega),?_⟩;rintro _ rfl;refine⟨q-p-(j+1),by omega,j+1,by omega,by rw[wrJ];omega,rfl,?_,Y⟩;have ag:j<((gL a).drop p).length:=by rw[length_drop];omega
   rw[take_succ_eq_append_getElem ag,VB,List.getElem_drop,OJ];by_cases O:j=0
   ·subst O;rfl
   ·rw[if_neg O,if_neg];intro X;have:=congrArg length X;rw[length_take]at this;simp at this;omega
 ·have:j=q-p:=by omega
  subst this;exact⟨rfl,ae H D H.size⟩
theorem GP (a:lU)(H:a.length=16)(w:World):Cf pX #[adV a] w (Ret λv w'=>v=vS (FQ a)/\bW w w'):=by
 apply Fb;intro b6 I b1 bb;have O:=(bb▸ao w _:bW w I)
 have h1:au I b6 ay (adC a):=au.new b1 bb;have V:(adC a).length=16:=by rw[dt,H]
 have ch:=AW a;obtain⟨bc,al,cb⟩:=IG (TW a);have a8:FQ a=if(dy (zsA a)).2<2 then wrL (gL a)else wrL ((gL a).take (dy (zsA a)).1)++[58,58]++wrL ((gL a).drop ((dy (zsA a)).1+(dy (zsA a)).2)):=rfl;refine⟨λm i w'=>∃L:Nat,1 <=L/\L <=8/\i=(L:Int)/\m=L/\(∀D A,L<D->A+D <=8->TY (zsA a) A D=false)/\bW I w',⟨_,8,by omega,by omega,rfl,rfl,λD A h1 X=>by omega,Below.refl _ _⟩,?_⟩;intro m i;refine aQ.of ?_ _;rintro b9 ⟨L,ce,cf,rfl,b2,ad,U⟩;obtain rfl:L=m:=b2.symm;refine af.of (λh=>?_) (λh=>?_)<;>simp only[ge_iff_le,dTx,dFx]at h
 ·have bs:2 <=L:=by omega
  refine⟨λm i w'=>∃A:Nat,A+L <=9/\i=(A:Int)/\m=9-A/\(∀A',A'<A->TY (zsA a) A' L=false)/\bW I w',⟨_,0,by omega,rfl,rfl,λA' h=>by omega,U⟩,?_⟩;intro m i;refine aQ.of ?_ _;rintro cp ⟨A,hA,rfl,rfl,ac,a0⟩;have bj:i64.wrap ((A:Int)+(L:Int))=((A+L:Nat):Int):=by rw[wrJ];omega
  try dsimp only
  rw[bj];refine af.of (λX=>?_) (λX=>?_)<;>simp only[dTx,dFx]at X
  ·have bq:A+L <=8:=by omega
   refine⟨λm b i w'=>∃j:Nat,j <=L/\i=((A+j:Nat):Int)/\m=L-j/\b=TY (zsA a) A j/\bW I w',⟨_,0,by omega,rfl,rfl,rfl,a0⟩,?_⟩;intro m b i;refine aQ.of ?_ _;rintro M ⟨j,cj,rfl,rfl,rfl,q⟩;have bk:i64.wrap (((A+j:Nat):Int)+1)=((A+(j+1):Nat):Int):=by rw[wrJ];omega
   try dsimp only
   rw[bk];refine af.of (λan=>?_) (λan=>?_)<;>simp only[dTx,dFx]at an
   ·have ck:j<L:=by omega
    refine af.of (λG=>?_) (λG=>?_)
    ·refine⟨_,cH.load0 (h1.below q) V,?_⟩;refine aA (uY a H (A+j) (by omega) M) ?_;rintro _ ca ⟨rfl,Y⟩;refine⟨_,rfl,L-(j+1),by omega,j+1,by omega,rfl,rfl,?_,ae q Y q.size⟩;rw[KZ,G,Bool.true_and,XN a (by omega),Bool.eq_iff_iff];simp
    ·exact⟨L-(j+1),by omega,j+1,by omega,rfl,rfl,by rw[KZ,G,Bool.false_and],q⟩
   ·have:j=L:=by omega
    subst this;refine af.of (λG=>?_) (λG=>?_)
    ·have e:=cb j A bs bq G;have ar:j=(dy (zsA a)).2/\A=(dy (zsA a)).1:=by
      rcases e with e|⟨a9,cn⟩
      ·exfalso;have:=al (by omega);rw[ad _ _ e bc]at this;cases this
      ·refine⟨a9,?_⟩;rcases Nat.lt_or_ge (dy (zsA a)).1 A with Z|Z
       ·exfalso;have:=al (by omega);rw[<- a9,ac _ Z]at this;cases this
       ·omega
     have b7:=qE (l:=(gL a).take A) λx aj=>Jm a x (mem_of_mem_take aj);have b8:=qE (l:=(gL a).drop (A+j)) λx aj=>Jm a x (List.mem_of_mem_drop aj);rw[length_take]at b7;rw[length_drop]at b8;have b3:∀u,bW M u->Cf gY #[adV a,vI 0,vI (A:Int)] u λE w'=>E=.returned (vS (wrL ((gL a).take A)))/\Below M.heap.size u w':=λu e=>by
      have:=qs a H 0 A (by omega) (by omega) u;rw[List.drop_zero,Nat.sub_zero]at this;exact fF this e
     have b4:∀u,bW M u->Cf gY #[adV a,vI ((A+j:Nat):Int),vI 8] u λE w'=>E=.returned (vS (wrL ((gL a).drop (A+j))))/\Below M.heap.size u w':=λu e=>by
      have:=qs a H (A+j) 8 (by omega) (by omega) u;rw[take_of_length_le (by rw[length_drop];omega)]at this;exact fF this e
     refine⟨_,λu e=>cH.load0 ((h1.below q).below e) V,_,b3,fits (by simp;omega),?_⟩;rintro _ rfl;refine⟨_,λu e=>cH.load0 ((h1.below q).below e) V,_,b4,fits (by simp;omega),?_⟩;rintro _ rfl;intro cr b5;have ag:=ae q b5 q.size;refine⟨?_,ae O ag O.size⟩;rw[a8,if_neg (by omega),<- ar.1,<- ar.2]
    ·refine⟨9-(A+1),by omega,A+1,by omega,by rw[wrJ];omega,rfl,λA' cc=>?_,q⟩;by_cases E:A'=A
     ·subst E;exact G
     ·exact ac A' (by omega)
  ·refine⟨L-1,by omega,L-1,by omega,by omega,by rw[wrJ];omega,rfl,λD A' cl b0=>?_,a0⟩;by_cases E:D=L
   ·subst E;exact ac A' (by omega)
   ·exact ad D A' (by omega) b0
 ·refine⟨_,cH.load0 (h1.below U) V,?_⟩;have:=qs a H 0 8 (by omega) (by omega) b9;rw[List.drop_zero,take_of_length_le (by omega)]at this;refine aA this ?_;rintro _ ca ⟨rfl,Y⟩;have ag:=ae U Y U.size;refine⟨_,rfl,?_,ae O ag O.size⟩;rw[a8,if_pos];refine Decidable.byContradiction λZ=>?_;have:=al (by omega);rw[ad _ _ (by omega) bc]at this;cases this
def eqV (P:Program):Nat->TypeId->Value->Value->Option Bool
 |0,_,_,_=>none
 |d+1,t,x,y=>match P.underlying t,x,y with
  |some .bool,.bool a,.bool b=>some (a==b)
  |some (.int _),.int k a,.int k' b=>if k=k' then some (a==b)else none
  |some .string,.string a,.string b=>some (toL a==toL b)
  |some (.struct fs),.agg xs,.agg ys=>if P.stoodInHeld t then none else
   fs.toList.foldr (λf r=>if f.name= "_" then r else match LV P f.type xs f.offset,LV P f.type ys f.offset with
    |some a,some b=>match eqV P d f.type a b,r with
     |some p,some q=>some (p&&q)
     |_,_=>none
    |_,_=>none) (some true)
  |some (.array n e),.agg xs,.agg ys=>match P.info? e with
   |some i=>(List.range n).foldr (λj r=>match LV P e xs (j*i.size),LV P e ys (j*i.size)with
    |some a,some b=>match eqV P d e a b,r with
     |some p,some q=>some (p&&q)
     |_,_=>none
    |_,_=>none) (some true)
   |none=>none
  |_,_,_=>none
theorem Rx:∀(d:Nat) (t:TypeId) (x y:Value) (b:Bool) (w:World),eqV P d t x y=some b->(Op.equalIn d t x y).run P w=.ok b w:=by
 intro d;induction d with
 |zero=>intro t x y b w h;cases h
 |succ d Y=>
  intro t x y b w h;unfold eqV at h;split at h
  ·rename_i e;cases h;exact run_equalIn_bool' w d t _ _ e
  ·rename_i ad k a k' c e;split at h
   ·rename_i E;subst E;cases h;exact run_equalIn_int w d t _ _ _ _ e
   ·cases h
  ·rename_i a c e;cases h;rw[run_equalIn_string w d t _ _ e];rw[ByteArray.toList_eq,ByteArray.toList_eq];rfl
  ·rename_i fs xs ys e;split at h
   ·cases h
   ·rename_i ac;have X:P.fieldsOf t=fs:=by unfold Program.fieldsOf;rw[e]
    rw[run_equalIn_struct w d t xs ys (by rw[X];exact e) (by simpa using ac),X];revert h;generalize fs.toList=l;induction l generalizing b with
    |nil=>intro h;cases h;rfl
    |cons f l D=>
     intro h;rw[List.foldr_cons]at h;unfold Op.eqFields;by_cases q:f.name= "_"
     ·rw[if_pos q]at h;rw[if_neg (by simpa using q)];exact D b h
     ·rw[if_neg q]at h;rw[if_pos q];split at h
      ·rename_i a c H I;split at h
       ·rename_i p U M O;cases h;have h1:=Y f.type a c p w M;have G:=D U O;simp only[Sem.run_bind,yl H,yl I,Result.andThen_ok,h1];cases p
        ·simp
        ·simpa using G
       ·cases h
      ·cases h
  ·rename_i n E xs ys e;split at h
   ·rename_i i Z;simp only[Op.equalIn,Sem.run_bind,bQ e,Result.andThen_ok,fx Z];rw[Std.Legacy.Range.forIn_eq_forIn_range'];have V:List.range' 0 ([0:n]:Std.Legacy.Range).size 1=List.range n:=by
     rw[List.range_eq_range'];simp[Std.Legacy.Range.size]
    rw[V];clear V;revert h;generalize List.range n=l;induction l generalizing b with
    |nil=>intro h;cases h;simp
    |cons j l D=>
     intro h;rw[List.foldr_cons]at h;split at h
     ·rename_i a c H I;split at h
      ·rename_i p U M O;cases h;have h1:=Y E a c p w M;have G:=D U O;simp only[List.forIn_cons,Sem.run_bind,yl H,yl I,Result.andThen_ok,h1];cases p
       ·simp
       ·simpa using G
      ·cases h
     ·cases h
   ·cases h
  ·cases h
theorem Iw {x y:Operand}{xs ys:Array Value}{b:Bool}(e:P.eqGuardType P.depth t=false)(h:eqV P 10000 t (.agg xs) (.agg ys)=some b)(w:World):
 ((do eqGuard .eql t x y (.agg xs) (.agg ys);binOp .eql t (.agg xs) (.agg ys):Sem Value)).run P w=.ok (.bool b) w:=by
 rw[Sem.run_bind,run_eqGuard_agg w .eql t x y xs ys e,Result.andThen_ok,run_eql_struct,Rx _ _ _ _ _ w h,Result.andThen_ok]
theorem VX {x y:Operand}{xs ys:Array Value}{b:Bool}(e:P.eqGuardType P.depth t=false)(h:eqV P 10000 t (.agg xs) (.agg ys)=some b)(w:World):
 ((do eqGuard .neq t x y (.agg xs) (.agg ys);binOp .neq t (.agg xs) (.agg ys):Sem Value)).run P w=.ok (.bool (!b)) w:=by
 rw[Sem.run_bind,run_eqGuard_agg w .neq t x y xs ys e,Result.andThen_ok,run_neq_struct,Rx _ _ _ _ _ w h,Result.andThen_ok]
structure Hst where
 kind:Int
 name:lU
 ad:lU
def Hst.cells (h:Hst):List Value:=vI h.kind::vS h.name::adC h.ad
def Hst.v (h:Hst):Value:=.agg h.cells.toArray
def gO:Hst:=⟨0,[],ad0⟩
def Hst.ok (h:Hst):Prop:=h.ad.length=16
theorem Hst.len {h:Hst}(o:h.ok):h.cells.length=18:=by unfold Hst.cells;rw[length_cons,length_cons,dt,o]
theorem Hst.one (h:Hst):BS h.cells:=aY rfl (aY rfl (fz _))
def Wf:lU->lU->Bool
 |x::xs,y::ys=>((((x.toNat:Nat):Int))==((y.toNat:Nat):Int))&&Wf xs ys
 |_,_=>true
theorem Oh:∀(xs ys:lU),xs.length=ys.length->(Wf xs ys=true↔xs=ys)
 |[],[],_=>by simp[Wf]
 |x::xs,[],h=>by simp at h
 |[],y::ys,h=>by simp at h
 |x::xs,y::ys,h=>by
  unfold Wf;rw[Bool.and_eq_true,Oh xs ys (by simpa using h),beq_iff_eq];have e:((x.toNat:Nat):Int)=((y.toNat:Nat):Int)↔x=y:=⟨λh=>UInt8.toNat_inj.1 (by omega),λh=>by rw[h]⟩
  rw[e];simp
theorem fP {α:Type} :∀(a:List α),a.length=16->∃e q O U V X Y Z ac ad D E G H I M,a=[e,q,O,U,V,X,Y,Z,ac,ad,D,E,G,H,I,M]
 |[e,q,O,U,V,X,Y,Z,ac,ad,D,E,G,H,I,M],_=>⟨e,q,O,U,V,X,Y,Z,ac,ad,D,E,G,H,I,M,rfl⟩
def gA (h g:Hst):Bool:=(h.kind==g.kind)&&((h.name==g.name)&&(Wf h.ad g.ad&&true))
theorem gi {h g:Hst}(o:h.ok)(p:g.ok):gA h g=true↔h=g:=by
 unfold gA;rw[Bool.and_eq_true,Bool.and_eq_true,Bool.and_true,Oh _ _ (o.trans p.symm),beq_iff_eq,beq_iff_eq];cases h;cases g;simp
def oX (c:UInt8):Bool:=(decide (97 <=c.toNat)&&decide (c.toNat <=122)) || (decide (48 <=c.toNat)&&decide (c.toNat <=57)) || c==45 || c==95
def gj (s:lU):Bool:=decide (1 <=s.length)&&decide (s.length <=63)&&s.all oX
def GD (L:List lU):lU:=L[L.length-1]?.getD []
def bV (s:lU):Option Hst:=
 if s.head?=some 91 then(if s.getLast?=some 93 then(v6A ((s.drop 1).take (s.length-2))).map λa=>⟨3,[],a⟩ else none)
 else if dG (GD (bR 46 [] (cv s)))=true then(v4V s).map λa=>⟨2,[],a⟩
 else if s.length <=253/\(bR 46 [] (cv s)).all gj=true then some ⟨1,cv s,ad0⟩ else none
def RZ:Option Hst->Value
 |some h=>.tuple #[h.v,vI 0]
 |none=>.tuple #[gO.v,.int .i64 31]
theorem gG {h:Hst}(e:bV s=some h):h.ok:=by
 unfold bV at e;split at e
 ·split at e
  ·cases q:v6A ((s.drop 1).take (s.length-2))with
   |none=>rw[q]at e;cases e
   |some a=>rw[q]at e;cases e;exact TT _ a q
  ·cases e
 split at e
 ·cases q:v4V s with
  |none=>rw[q]at e;cases e
  |some a=>rw[q]at e;cases e;exact XI _ a q
 split at e
 ·cases e;rfl
 ·cases e
theorem jG (c:UInt8):∀(s cur:lU),Lib.join (bR c cur s) [c]=cur++s
 |[],cur=>by simp[bR,Lib.join_one]
 |x::r,cur=>by
  show Lib.join (if x=c then cur::bR c [] r else bR c (cur++[x]) r) [c]=_;split
  ·rename_i h;subst h;have q:=jG x r [];have E:=gT x r [];cases e:bR x [] r with
   |nil=>exact absurd e E
   |cons y l=>
    rw[e,Lib.join_cons,nil_append]at q;rw[Lib.join_cons];have D:Lib.joinTail [x] (y::l)=[x]++y++Lib.joinTail [x] l:=by simp[Lib.joinTail]
    rw[D,append_assoc [x] y,q];rfl
  ·rw[jG c r (cur++[x])];simp
theorem Di (s:lU)(c:UInt8):Lib.hasSuffix s [c]=decide (s.getLast?=some c)/\Lib.trimSuffix s [c]=if s.getLast?=some c then s.take (s.length-1)else s:=by
 have h1:Lib.hasSuffix s [c]=decide (s.getLast?=some c):=by
  unfold Lib.hasSuffix;rw[Bool.eq_iff_iff,dTx,List.isSuffixOf_iff_suffix];constructor
  ·rintro⟨t,rfl⟩;simp
  ·intro h;obtain⟨t,rfl⟩:=List.getLast?_eq_some_iff.1 h;exact⟨t,rfl⟩
 refine⟨h1,?_⟩;unfold Lib.trimSuffix;rw[h1];by_cases h:s.getLast?=some c
 ·rw[if_pos (decide_eq_true h),if_pos h];rfl
 ·rw[if_neg (by rw[decide_eq_false h];decide),if_neg h]
theorem Sr (h:s.head?=some 91):((s.drop 1).getLast?=some 93↔s.getLast?=some 93):=by
 cases s with
 |nil=>cases h
 |cons x r=>
  obtain rfl:x=91:=Option.some.inj h;cases r with
  |nil=>simp
  |cons y r=>simp[List.getLast?_cons_cons]
theorem ya {L:List lU}(h:0<L.length):GD L=L[L.length-1]'(by omega):=by unfold GD;rw[List.getElem?_eq_getElem (by omega)];rfl
theorem aR:Whl prog ai 18:=⟨⟨_,_,N5⟩,by kernel_rfl⟩
theorem Rw {h g:Hst}(o:h.ok)(p:g.ok):eqV prog 10000 ai h.v g.v=some (gA h g):=by
 obtain⟨k,n,a⟩:=h;obtain⟨k',e,a'⟩:=g;obtain⟨q,D,U,V,X,Y,Z,ac,ad,ag,E,G,H,I,M,O,rfl⟩:=fP a o;obtain⟨aj,al,bc,bj,bk,bq,bs,b0,b1,b2,an,ar,a0,a8,a9,bb,rfl⟩:=fP a' p;kernel_rfl
theorem Lu:prog.eqGuardType prog.depth ai=false:=by kernel_rfl
theorem xY {h g:Hst}(o:h.ok)(p:g.ok){x y:Operand}(w:World):((do eqGuard .eql ai x y h.v g.v;binOp .eql ai h.v g.v:Sem Value)).run prog w=.ok (.bool (gA h g)) w:=
 Iw Lu (Rw o p) w
theorem R1 {h g:Hst}(o:h.ok)(p:g.ok){x y:Operand}(w:World):((do eqGuard .neq ai x y h.v g.v;binOp .neq ai h.v g.v:Sem Value)).run prog w=.ok (.bool (!gA h g)) w:=
 VX Lu (Rw o p) w
theorem zS (k:Int){a:lU}(o:a.length=16)(w:World):(Instr.build ai #[(0,vI k),(2,adV a)]).run prog w=.ok (Hst.v ⟨k,[],a⟩) w:=by
 obtain⟨e,q,O,U,V,X,Y,Z,ac,ad,D,E,G,H,I,M,rfl⟩:=fP a o;kernel_rfl
theorem Gy (c:UInt8)(w:World):Cf pK #[.int .u8 ((c.toNat:Nat):Int)] w (Ret λv w'=>v=.bool (oX c)/\w'=w):=by
 apply EO;have G:=im c 45;have H:=im c 95;rw[show(((45:UInt8).toNat:Nat):Int)=45 from rfl]at G;rw[show(((95:UInt8).toNat:Nat):Int)=95 from rfl]at H;rw[G,H];unfold oX;have e:∀{b:Bool} {x:Bool},b=x->(.bool b:Value)=.bool x/\w=w:=λh=>⟨by rw[h],rfl⟩
 refine af.of (λh=>?_) (λh=>?_)<;>simp only[ge_iff_le,dTx,dFx]at h
 ·refine af.of (λE=>e ?_) (λE=>?_)<;>simp only[ge_iff_le,dTx,dFx]at E
  ·rw[decide_eq_true (p:=97 <=c.toNat) (by omega),decide_eq_true (p:=c.toNat <=122) (by omega)];rfl
  ·rw[decide_eq_false (p:=c.toNat <=122) (by omega),Bool.and_false,Bool.false_or];refine af.yes (by simp;omega) (af.no (by simp;omega) ?_);rw[decide_eq_false (p:=c.toNat <=57) (by omega),Bool.and_false,Bool.false_or];exact af.of (λD=>e (by rw[D];rfl)) (λD=>e (by rw[D,Bool.false_or]))
 ·rw[decide_eq_false (p:=97 <=c.toNat) (by omega),Bool.false_and,Bool.false_or];refine af.of (λE=>?_) (λE=>?_)<;>simp only[ge_iff_le,dTx,dFx]at E
  ·rw[decide_eq_true (p:=48 <=c.toNat) (by omega),Bool.true_and];refine af.of (λD=>e ?_) (λD=>?_)<;>simp only[ge_iff_le,dTx,dFx]at D
   ·rw[decide_eq_true (p:=c.toNat <=57) (by omega)];rfl
   ·rw[decide_eq_false (p:=c.toNat <=57) (by omega),Bool.false_or];exact af.of (λq=>e (by rw[q];rfl)) (λq=>e (by rw[q,Bool.false_or]))
  ·rw[decide_eq_false (p:=48 <=c.toNat) (by omega),Bool.false_and,Bool.false_or];exact af.of (λq=>e (by rw[q];rfl)) (λq=>e (by rw[q,Bool.false_or]))
theorem Js (s:lU)(ar:s.length <=9223372036854775800)(w:World):Cf rJ #[vS s] w (Ret λv w'=>v=.bool (gj s)/\bW w w'):=by
 apply Hd;refine af.of (λh=>?_) (λh=>⟨?_,Below.refl _ _⟩)
 ·have G:s≠[]:=by simpa using h
  have h1:1 <=s.length:=List.length_pos_iff.2 G;refine af.of (λO=>?_) (λO=>⟨?_,Below.refl _ _⟩)<;>simp only[dTx,dFx]at O
  ·obtain⟨q,a,n,c,ag,I,X,al⟩:=pz (P:=prog) ax bX cE w s (by omega) NoB;have ad:=I.len;subst ad;refine⟨q,a,_,c,ag,?_⟩;have ac:gj s=s.all oX:=by unfold gj;rw[decide_eq_true h1,decide_eq_true (by omega),Bool.true_and,Bool.true_and]
   refine aA (K:=λv w'=>v=.bool (!(s.all oX))/\w'=q) ?_ ?_
   ·apply fk;refine aA (K:=λv w'=>∃i:Int,v=vI i/\(decide (i >=0))=(!(s.all oX))/\w'=q) ?_ ?_
    ·apply fK;refine⟨λm i w'=>∃k:Nat,k <=s.length/\i=(k:Int)/\m=s.length-k/\(s.take k).all oX=true/\w'=q,⟨_,0,by omega,rfl,rfl,rfl,rfl⟩,?_⟩;intro m i;refine aQ.of ?_ _;rintro w' ⟨k,an,rfl,rfl,H,V⟩;rw[V];clear V;refine af.of (λh=>?_) (λh=>?_)<;>simp only[dTx,dFx]at h
     ·have E:k<s.length:=by omega
      obtain⟨v,U,aj⟩:=I.all.load1 (i:=(k:Int)) cE rfl rfl (by simpa using E);have:=FY aj;subst this;simp only[Int.toNat_natCast]at U;refine⟨⟨⟨by omega,h⟩,I.all.isSome E⟩,_,U,?_⟩;refine aA (K:=λv w'=>v=.bool (!oX s[k])/\w'=q) ?_ ?_
      ·apply Aq;refine aA (Gy _ q) ?_;rintro _ M ⟨rfl,e⟩;exact⟨_,rfl,rfl,e⟩
      rintro _ M ⟨rfl,e⟩;rw[e];refine⟨_,rfl,af.of (λD=>?_) (λD=>?_)⟩
      ·refine⟨_,rfl,?_,rfl⟩;have:s.all oX=false:=by
        rw[Bool.eq_false_iff];intro Y;rw[List.all_eq_true.1 Y _ (getElem_mem E)]at D;cases D
       rw[this,decide_eq_true (by omega)];rfl
      ·refine⟨s.length-(k+1),by omega,k+1,by omega,by rw[wrJ];omega,rfl,?_,rfl⟩;rw[take_succ_eq_append_getElem E,List.all_append,H];simpa using D
     ·have:k=s.length:=by omega
      subst this;rw[take_length]at H;exact⟨_,rfl,by rw[H];decide,rfl⟩
    ·rintro _ M ⟨i,rfl,Z,e⟩;exact⟨_,rfl,by rw[Z],e⟩
   ·rintro _ M ⟨rfl,e⟩;rw[e];exact⟨_,rfl,by rw[ac,Bool.not_not],X⟩
  ·unfold gj;rw[decide_eq_false (p:=s.length <=63) (by omega),Bool.and_false,Bool.false_and]
 ·have G:s=[]:=by simpa using h
  subst G;rfl
theorem GR (s:lU)(ar:s.length <=9223372036854775800)(w:World):Cf qa #[vS s] w (Ret λv w'=>v=.bool (gj s)/\w'=w):=by
 apply Fi;refine⟨λm i w'=>∃k:Nat,k <=s.length/\i=(k:Int)/\m=s.length-k/\(s.take k).all oX=true/\w'=w,⟨_,0,by omega,rfl,rfl,rfl,rfl⟩,?_⟩;intro m i;refine aQ.of ?_ _;rintro w' ⟨k,an,rfl,rfl,U,Z⟩;rw[Z];clear Z;refine af.of (λh=>?_) (λh=>?_)<;>simp only[dTx,dFx]at h
 ·have O:k<s.length:=by omega
  rw[byte_at O];have X:=im s[k] 45;have Y:=im s[k] 95;rw[show(((45:UInt8).toNat:Nat):Int)=45 from rfl]at X;rw[show(((95:UInt8).toNat:Nat):Int)=95 from rfl]at Y;simp only[bne,X,Y];have G:oX s[k]=true->∃E:Nat,E<s.length-k/\∃e:Nat,e <=s.length/\i64.wrap ((k:Int)+1)=(e:Int)/\E=s.length-e/\(s.take e).all oX=true/\True:=λq=>
   ⟨s.length-(k+1),by omega,k+1,by omega,by rw[wrJ];omega,rfl,by rw[take_succ_eq_append_getElem O,List.all_append,U];simp[q],trivial⟩
  have V:oX s[k]=false->(.bool false:Value)=.bool (gj s)/\True:=λq=>⟨by
   have:s.all oX=false:=by
    rw[Bool.eq_false_iff];intro ag;rw[List.all_eq_true.1 ag _ (getElem_mem O)]at q;cases q
   unfold gj;rw[this,Bool.and_false],trivial⟩
  refine⟨⟨by omega,h⟩,?_⟩;generalize s[k]=c at*;have tail: ¬ (97 <=c.toNat/\c.toNat <=122)-> ¬ (48 <=c.toNat/\c.toNat <=57)->af (!(c==45)) (af (!(c==95)) ((.bool false:Value)=.bool (gj s)/\True) (∃E:Nat,E<s.length-k/\∃e:Nat,e <=s.length/\i64.wrap ((k:Int)+1)=(e:Int)/\E=s.length-e/\(s.take e).all oX=true/\True)) (∃E:Nat,E<s.length-k/\∃e:Nat,e <=s.length/\i64.wrap ((k:Int)+1)=(e:Int)/\E=s.length-e/\(s.take e).all oX=true/\True):=λaj al=>by
   have ac:(decide (97 <=c.toNat)&&decide (c.toNat <=122))=false:=by rw[Bool.eq_false_iff];intro q;simp at q;exact aj q
   have ad:(decide (48 <=c.toNat)&&decide (c.toNat <=57))=false:=by rw[Bool.eq_false_iff];intro q;simp at q;exact al q
   have q:oX c=(c==45 || c==95):=by unfold oX;rw[ac,ad];simp
   rw[q]at G V;refine af.of (λD=>af.of (λM=>V ?_) (λM=>G ?_)) (λD=>G ?_)
   ·rw[Bool.not_eq_true']at D M;rw[D,M];rfl
   ·rw[Bool.not_eq_false']at M;rw[M];simp
   ·rw[Bool.not_eq_false']at D;rw[D];simp
  refine af.of (λH=>?_) (λH=>?_)<;>simp only[dTx,dFx]at H
  ·refine af.of (λI=>tail (by omega) ?_) (λI=>?_)<;>simp only[gt_iff_lt,dTx,dFx]at I
   ·omega
   ·refine af.of (λD=>tail (by omega) ?_) (λD=>G ?_)<;>simp only[gt_iff_lt,dTx,dFx]at D
    ·omega
    ·unfold oX;rw[decide_eq_true (p:=48 <=c.toNat) (by omega),decide_eq_true (p:=c.toNat <=57) (by omega)];simp
  ·refine af.of (λI=>?_) (λI=>G ?_)<;>simp only[gt_iff_lt,dTx,dFx]at I
   ·refine af.no (by simp;omega) (af.yes (by simp;omega) (tail (by omega) (by omega)))
   ·unfold oX;rw[decide_eq_true (p:=97 <=c.toNat) (by omega),decide_eq_true (p:=c.toNat <=122) (by omega)];simp
 ·have:k=s.length:=by omega
  subst this;rw[take_length]at U;unfold gj;rw[U,Bool.and_true];refine af.of (λH=>⟨?_,rfl⟩) (λH=>⟨?_,rfl⟩)<;>simp only[ge_iff_le,dTx,dFx]at H
  ·rw[decide_eq_true (p:=1 <=s.length) (by omega),Bool.true_and];congr 1;rw[Bool.eq_iff_iff];simp;omega
  ·rw[decide_eq_false (p:=1 <=s.length) (by omega),Bool.false_and]
theorem ii (o:Option Hst):RZ o=.tuple #[(o.getD gO).v,vI (if o.isSome then 0 else 31)]:=by cases o<;>rfl
theorem kZ {o:Option Hst}(h:∀x,o=some x->x.ok):(o.getD gO).ok:=by
 cases o with
 |none=>rfl
 |some x=>exact h x rfl
theorem mI (k:Int)(a:lU)(o:a.length=16)(b:Bool)(w:World):Cf iE #[vI k,adV a,.bool b] w (Ret λv w'=>v=RZ (if b=true then some ⟨k,[],a⟩ else none)/\bW w w'):=by
 apply Ct;intro ad D Z V;have E:=(V▸ao w _:bW w D)
 have Y:au D ad ay (adC a):=au.new Z V;intro k6 H ac X;have O:=(X▸ao D _:bW D H)
 have M:=ae E O E.size;have I:au H k6 ai gO.cells:=au.new ac X;have U:w.heap.size <=k6:=by have:=E.size;omega
 refine af.of (λh=>?_) (λh=>?_)
 ·have e:b=false:=by simpa using h
  rw[e];exact aR.fin (K:=λG q=>(.tuple #[G,vI 31]:Value)=RZ (if false=true then some ⟨k,[],a⟩ else none)/\bW w q) (cs:=gO.cells) rfl (Hst.one _) I rfl M U λq e=>⟨rfl,e⟩
 ·have e:b=true:=by simpa using h
  rw[e];refine⟨_,cH.load0 (Y.below O) (by rw[dt,o]),_,zS k o H,?_⟩;exact aR.fin (K:=λG q=>(.tuple #[G,vI 0]:Value)=RZ (if true=true then some ⟨k,[],a⟩ else none)/\bW w q) (cs:=Hst.cells ⟨k,[],a⟩) (Hst.len o) (Hst.one _) I rfl M U λq e=>⟨rfl,e⟩
theorem So {A:Bl}{a:Option Addr}{n c:Nat}{L:List lU}(I:Sl tS w Ds a n c L)(Y:∀x∈L,x.length <=9223372036854775800)(Z:L.length <=9223372036854775800):
 Cf db #[.slice a n c,.func (.func du) #[] #[]] w (Ret λv w'=>v=.bool (!(L.all gj))/\bW w w'):=by
 have ad:=I.len;apply eL;refine aA (K:=λv w'=>∃i:Int,v=vI i/\(decide (i >=0))=(!(L.all gj))/\bW w w') ?_ ?_
 ·apply fa;refine⟨λm i w'=>∃k:Nat,k <=L.length/\i=(k:Int)/\m=L.length-k/\(L.take k).all gj=true/\bW w w',⟨_,0,by omega,rfl,rfl,rfl,Below.refl _ _⟩,?_⟩;intro m i;refine aQ.of ?_ _;rintro O ⟨k,ac,rfl,rfl,H,q⟩;refine af.of (λh=>?_) (λh=>?_)<;>simp only[dTx,dFx]at h
  ·have E:k<L.length:=by omega
   have M:=I.below q;refine⟨⟨⟨by omega,h⟩,M.isSome (by omega)⟩,_,M.text ax E,?_⟩;refine aA (K:=λv w'=>v=.bool (!gj L[k])/\bW O w') ?_ ?_
   ·apply Ap;refine aA (Js _ (Y _ (getElem_mem E)) O) ?_;rintro _ U ⟨rfl,G⟩;exact⟨_,rfl,rfl,G⟩
   rintro _ U ⟨rfl,G⟩;have D:=ae q G q.size;refine⟨_,rfl,af.of (λe=>?_) (λe=>?_)⟩
   ·refine⟨_,rfl,?_,D⟩;have:L.all gj=false:=by
     rw[Bool.eq_false_iff];intro V;rw[List.all_eq_true.1 V _ (getElem_mem E)]at e;cases e
    rw[this,decide_eq_true (by omega)];rfl
   ·refine⟨L.length-(k+1),by omega,k+1,by omega,by rw[wrJ];omega,rfl,?_,D⟩;rw[take_succ_eq_append_getElem E,List.all_append,H];simpa using e
  ·have:k=L.length:=by omega
   subst this;rw[take_length]at H;exact⟨_,rfl,by rw[H];decide,q⟩
 ·rintro _ U ⟨i,rfl,X,D⟩;exact⟨_,rfl,by rw[X],D⟩
def tW (s:lU)(w:World)(v:Value)(w':World):Prop:=v=RZ (bV s)/\bW w w'
theorem jD (s:lU)(dg:s.length <=2000000000)(w:World)(b0:Env w):Cf gV #[vS s] w (Ret (tW s w)):=by
 apply Ha;intro k2 V c5 ch;have Y:=(ch▸ao w _:bW w V)
 have b6:au V k2 ai gO.cells:=au.new c5 ch;have c6:w.heap.size <=k2:=by omega
 refine aA (K9 s 91 V) ?_;rintro _ b3 ⟨rfl,al⟩;rw[al];clear al;refine⟨_,_,rfl,?_⟩;have X:∀{bc:World} (o:Option Hst),(∀x,o=some x->x.ok)->bV s=o->au bc k2 ai gO.cells->bW w bc->
  ∃wy,(Instr.storeAt ai (.pointer (some ⟨k2,0,none⟩)) (o.getD gO).v).run prog bc=.ok () wy/\∃a8:Value,(aS ai (.pointer (some ⟨k2,0,none⟩))).run prog wy=.ok a8 wy/\tW s w (.tuple #[a8,vI (if o.isSome then 0 else 31)]) wy:=fun{bc} o U G cu c1=>
  aR.fin (K:=λa8 wy=>tW s w (.tuple #[a8,vI (if o.isSome then 0 else 31)]) wy) (cs:=(o.getD gO).cells) (Hst.len (kZ U)) (Hst.one _) cu rfl c1 c6 λwy c2=>⟨by rw[G,ii];rfl,c2⟩
 by_cases I:s.head?=some 91
 ·rw[if_pos I,decide_eq_true I];refine af.yes rfl ?_;have G:bV s=if s.getLast?=some 93 then(v6A ((s.drop 1).take (s.length-2))).map λa=>⟨3,[],a⟩ else none:=by unfold bV;rw[if_pos I]
  have cc:=Sr I;refine(Tryz.strings_CutSuffix (mkS (s.drop 1)) (mkS [93]) V (by show(s.drop 1).length <=_;rw[length_drop];omega)).mono ?_;rintro _ b3 ⟨rfl,al⟩;rw[al];clear al;have ce:=Di (s.drop 1) 93;have cl:(mkS (s.drop 1)).data.toList=s.drop 1:=rfl;have cn:(mkS [93]).data.toList=[93]:=rfl;rw[cl,cn,ce.1,ce.2];obtain⟨inner,a0⟩:∃inner,inner=if(s.drop 1).getLast?=some 93 then(s.drop 1).take ((s.drop 1).length-1)else s.drop 1:=⟨_,rfl⟩
  rw[<- a0];have dd:inner.length <=s.length:=by rw[a0];split<;>simp<;>omega
  refine⟨inner,_,rfl,?_⟩;refine aA (PE inner (by omega) V (b0.step Y)) ?_;rintro _ b4 ⟨rfl,ag⟩;have Z:=ae Y ag Y.size;refine⟨_,_,by rw[H2],?_⟩;have E:=AN (TT inner);refine cH.new (zs:=adC ad0) (cs:=adC ((v6A inner).getD ad0)) rfl E (fz _) b4 λc9 bb c7 bk aj=>?_;have O:=ae Z aj Z.size;have an:=(b6.below ag).below aj;refine⟨_,cH.load0 bk E,?_⟩;have cf:bV s=if(v6A inner).isSome=true/\(s.drop 1).getLast?=some 93 then some ⟨3,[],(v6A inner).getD ad0⟩ else none:=by
   rw[G];by_cases D:s.getLast?=some 93
   ·have b9:=cc.2 D;rw[if_pos D,if_pos b9]at*;rw[length_drop,show s.length-1-1=s.length-2 by omega]at a0;rw[<- a0];cases v6A inner with
    |none=>rw[if_neg (λh=>by cases h.1)];rfl
    |some x=>rw[if_pos ⟨rfl,b9⟩];rfl
   ·rw[if_neg D,if_neg (λh=>D (cc.1 h.2))]
  refine af.of (λb2=>?_) (λb2=>?_)
  ·refine aA (mI 3 _ (by rw[<- dt];exact E) _ bb) ?_;rintro _ ck ⟨rfl,H⟩;have ad:=ae O H O.size;refine⟨_,_,by rw[ii],?_⟩;refine X _ (λx e=>?_) ?_ (an.below H) ad
   ·split at e
    ·cases e;show((v6A inner).getD ad0).length=16;rw[<- dt];exact E
    ·cases e
   ·rw[cf,b2];by_cases D:(s.drop 1).getLast?=some 93
    ·rw[if_pos ⟨rfl,D⟩,if_pos (by simpa using D)]
    ·rw[if_neg (λh=>D h.2),if_neg (by simpa using D)]
  ·refine aA (mI 3 _ (by rw[<- dt];exact E) _ bb) ?_;rintro _ ck ⟨rfl,H⟩;have ad:=ae O H O.size;refine⟨_,_,by rw[ii],?_⟩;refine X _ (λx e=>by cases e) ?_ (an.below H) ad;rw[cf,b2,if_neg (λh=>by cases h.1)];rfl
 ·rw[if_neg I,decide_eq_false I];refine af.no rfl ?_;have G:bV s=if dG (GD (bR 46 [] (cv s)))=true then(v4V s).map λa=>⟨2,[],a⟩ else if s.length <=253/\(bR 46 [] (cv s)).all gj=true then some ⟨1,cv s,ad0⟩ else none:=by unfold bV;rw[if_neg I]
  refine aA (eA s (by omega) V) ?_;rintro _ b3 ⟨rfl,b7⟩;have bq:=ae Y b7 Y.size;refine⟨_,rfl,?_⟩;have cj:(cv s).length=s.length:=by simp[cv]
  refine aA (eB (cv s) 46 (by omega) b3 (b0.step bq)) ?_;rintro _ b4 ⟨a,n,c,rfl,U,dc,ag⟩;have Z:=ae bq ag bq.size;have cr:=(b6.below b7).below ag;have c8:=U.len;subst c8;have cb:∀x∈bR 46 [] (cv s),x.length <=s.length:=λx e=>by have:=ia 46 (cv s) [] x e;simp[cj]at this;omega
  have da:=dJ 46 (cv s) [];have b1:0<(bR 46 [] (cv s)).length:=List.length_pos_iff.2 (gT 46 (cv s) []);have ca:=jG 46 (cv s) [];refine⟨_,_,_,rfl,?_⟩;generalize bR 46 [] (cv s)=L at*;have cp:i64.wrap (((L.length:Nat):Int)-1)=((L.length-1:Nat):Int):=by rw[wrJ];omega
  try dsimp only
  rw[cp];refine⟨⟨⟨by omega,by omega⟩,U.all.isSome b1⟩,_,U.all.text ax (by omega),?_⟩;rw[<- ya b1];have de:(GD L).length <=s.length:=by rw[ya b1];exact cb _ (getElem_mem _)
  refine aA (mL (GD L) (by omega) b4) ?_;rintro _ b5 ⟨rfl,ar⟩;have M:=ae Z ar Z.size;have bj:=cr.below ar;refine⟨_,rfl,af.of (λbs=>?_) (λbs=>?_)⟩
  ·rw[if_pos bs]at G;refine aA (PD s (by omega) b5 (b0.step M)) ?_;rintro _ a9 ⟨rfl,q⟩;have ac:=ae M q M.size;refine⟨_,_,by rw[H2],?_⟩;have E:=AN (XI s);refine cH.new (zs:=adC ad0) (cs:=adC ((v4V s).getD ad0)) rfl E (fz _) a9 λc9 bb c7 bk aj=>?_;have O:=ae ac aj ac.size;have an:=(bj.below q).below aj;refine⟨_,cH.load0 bk E,?_⟩;refine aA (mI 2 _ (by rw[<- dt];exact E) _ bb) ?_;rintro _ ck ⟨rfl,H⟩;have ad:=ae O H O.size;refine⟨_,_,by rw[ii],?_⟩;refine X _ (λx e=>?_) ?_ (an.below H) ad
   ·split at e
    ·cases e;show((v4V s).getD ad0).length=16;rw[<- dt];exact E
    ·cases e
   ·rw[G];cases v4V s<;>rfl
  ·rw[if_neg (by rw[bs];decide)]at G;have c3: ¬ (s.length <=253/\L.all gj=true)->bV s=none:=λh=>by rw[G,if_neg h]
   refine eC (λw'=>(s.length <=253/\L.all gj=true)/\bW b5 w') ?_ ?_
   ·refine rv (λb w'=>b=(!decide (s.length <=253/\L.all gj=true))/\bW b5 w') ?_ ?_
    ·refine af.of (λh=>⟨?_,Below.refl _ _⟩) (λh=>?_)<;>simp only[gt_iff_lt,dTx,dFx]at h
     ·rw[decide_eq_false (λD=>by have:=D.1;omega)];rfl
     ·refine aA (So (A:=Ds) (U.below ar).all (λx e=>by have:=cb x e;omega) (by omega)) ?_;rintro _ a9 ⟨rfl,q⟩;refine⟨_,rfl,?_,q⟩;have ct:s.length <=253:=by omega
      congr 1;rw[Bool.eq_iff_iff,dTx];exact⟨λh=>⟨ct,h⟩,λh=>h.2⟩
    ·rintro b a9 ⟨rfl,q⟩;refine af.of (λh=>?_) (λh=>⟨by rw[Bool.not_eq_false']at h;exact of_decide_eq_true h,q⟩);exact X none (λx e=>by cases e) (c3 (by rw[Bool.not_eq_true']at h;exact of_decide_eq_false h)) (bj.below q) (ae M q M.size)
   ·rintro a9 ⟨c4,q⟩;have ac:=ae M q M.size;refine aA (Ek ((U.below ar).below q).all [46] (by omega) (by rw[ca];simp[cj];omega)) ?_;rintro _ dk ⟨rfl,b8⟩;have c0:=ae ac b8 ac.size;rw[ca,nil_append];refine⟨_,rfl,?_⟩;exact X (some ⟨1,cv s,ad0⟩) (λx e=>by cases e;rfl) (by rw[G,if_pos c4]) ((bj.below q).below b8) c0
def lT (h:Hst):lU:=if h.kind=1 then h.name else if h.kind=2 then FO h.ad else if h.kind=3 then[91]++FQ h.ad++[93]else[]
def cT (h:Hst):Bool:=match bV (lT h)with|some g=>gA g h|none=>false
def aF (h:Hst):List lU:=if h.kind=1/\cT h=true then bR 46 [] h.name else[]
theorem TJ {a:lU}(h:a.length=16):(FO a).length <=88:=by
 have:=Em ((a.drop 12).map λc=>AP c.toNat) 46 21 (λx e=>by
  obtain⟨c,_,rfl⟩:=List.mem_map.1 e;have:=pa c;exact jr (by omega))
 rw[length_map,length_drop,h]at this;exact this
theorem FR (a:lU):(FQ a).length <=90:=by
 have E:=AW a;unfold FQ;split
 ·have:=qE (Jm a);omega
 ·have q:=qE (l:=(gL a).take (dy (zsA a)).1) λx e=>Jm a x (mem_of_mem_take e);have D:=qE (l:=(gL a).drop ((dy (zsA a)).1+(dy (zsA a)).2)) λx e=>Jm a x (List.mem_of_mem_drop e);rw[length_take]at q;rw[length_drop]at D;simp;omega
theorem Lz {h:Hst}(o:h.ok):(lT h).length <=h.name.length+100:=by
 have e:=TJ o;have q:=FR h.ad;unfold lT;split
 ·omega
 split
 ·omega
 split
 ·simp;omega
 ·simp
theorem Ui {h:Hst}(j:Nat):h.cells[2+j]? =(adC h.ad)[j]? :=by rw[Nat.add_comm];rfl
theorem OP {h:Hst}(o:h.ok){T:TypeId}(e:au w k T h.cells):(Instr.loadAt ay (.pointer (some ⟨k,2,none⟩))).run prog w=.ok (adV h.ad) w:=
 cH.load e (i:=2) (us:=adC h.ad) (by rw[dt,o]) λj _=>Ui j
theorem oH (s:lU)(de:s.length <=90000000)(w:World):Cf jx #[vS s] w (Ret (tW s w)):=by
 apply Ff;intro k2 U ct ch;have ad:=(ch▸ao w _:bW w U)
 have bq:au U k2 ai gO.cells:=au.new ct ch;have cu:w.heap.size <=k2:=by omega
 have a9:∀{M:World} (o:Option Hst),(∀x,o=some x->x.ok)->bV s=o->au M k2 ai gO.cells->bW w M->
  ∃wy,(Instr.storeAt ai (.pointer (some ⟨k2,0,none⟩)) (o.getD gO).v).run prog M=.ok () wy/\∃bj:Value,(aS ai (.pointer (some ⟨k2,0,none⟩))).run prog wy=.ok bj wy/\tW s w (.tuple #[bj,vI (if o.isSome then 0 else 31)]) wy:=fun{M} o q e bs b0=>
  aR.fin (K:=λbj wy=>tW s w (.tuple #[bj,vI (if o.isSome then 0 else 31)]) wy) (cs:=(o.getD gO).cells) (Hst.len (kZ q)) (Hst.one _) bs rfl b0 cu λwy I=>⟨by rw[e,ii];rfl,I⟩
 have X:=fun{M:World} (e:bV s=none) (bs:au M k2 ai gO.cells) (b0:bW w M)=>a9 none (λx a8=>by cases a8) e bs b0;refine jA (w:=U) (¬ s.head?=some 91) ?_ (λac=>?_)
 ·refine⟨λb w'=>w'=U/\b=decide (s.head?=some 91),af.of (λh=>⟨⟨by decide,by simpa using h⟩,rfl,?_⟩) (λh=>⟨rfl,?_⟩),λb=>aQ.of ?_ _⟩
  ·have an:0<s.length:=by simpa using h
   have I:=byte_at (s:=s) (k:=0) an;rw[show((0:Nat):Int)=0 from rfl]at I;have ar:=im s[0] 91;rw[show(((91:UInt8).toNat:Nat):Int)=91 from rfl]at ar;rw[I,ar,List.head?_eq_getElem?,List.getElem?_eq_getElem an,Bool.eq_iff_iff];simp
  ·have an:s=[]:=by
    simp only[gt_iff_lt,dFx]at h;exact List.length_eq_zero_iff.1 (by omega)
   subst an;rfl
  ·rintro dk ⟨ck,I⟩;rw[ck,I];clear ck I;refine af.of (λh=>?_) (λh=>⟨rfl,of_decide_eq_false h⟩);have ac:s.head?=some 91:=of_decide_eq_true h;have c2:s≠[]:=by rintro rfl;cases ac
   have an:0<s.length:=List.length_pos_iff.2 c2;have e:bV s=if s.getLast?=some 93 then(v6A ((s.drop 1).take (s.length-2))).map λa=>⟨3,[],a⟩ else none:=by unfold bV;rw[if_pos ac]
   have bk:i64.wrap (((s.length:Nat):Int)-1)=((s.length-1:Nat):Int):=by rw[wrJ];omega
   try dsimp only
   rw[bk,byte_at (show s.length-1<s.length by omega)];have ce:s.getLast?=some (s[s.length-1]'(by omega)):=by rw[List.getLast?_eq_getElem?,List.getElem?_eq_getElem (by omega)]
   have ar:=im (s[s.length-1]'(by omega)) 93;rw[show(((93:UInt8).toNat:Nat):Int)=93 from rfl]at ar;refine⟨⟨by omega,by omega⟩,?_⟩;simp only[bne,ar];refine af.of (λG=>X ?_ bq ad) (λG=>?_)
   ·rw[e,if_neg];rw[ce];intro cn;rw[Option.some.inj cn]at G;simp at G
   ·have b2:s.getLast?=some 93:=by rw[ce];simpa using G
    have dc:2 <=s.length:=by
     refine Decidable.byContradiction λc7=>?_;have cp:s.length=1:=by omega
     obtain⟨x,rfl⟩:=List.length_eq_one_iff.1 cp;rw[Option.some.inj (show some x=some 91 from ac)]at b2;cases b2
    rw[if_pos b2]at e;simp only[Int.toNat_natCast];refine⟨⟨⟨by omega,by omega⟩,by decide,by omega⟩,?_⟩;intro O cr;have b7:O=(s.drop 1).take (s.length-2):=by
     rw[cr,show(Int.toNat 1)=1 from rfl,List.drop_take,show s.length-1-1=s.length-2 by omega]
    rw[<- b7]at e;have dg:O.length <=s.length:=by rw[b7];simp;omega
    refine aA (NN O (by omega) U) ?_;rintro _ V ⟨rfl,aj⟩;have E:=ae ad aj ad.size;refine⟨_,_,by rw[H2],?_⟩;have D:=AN (TT O);refine cH.new (zs:=adC ad0) (cs:=adC ((v6A O).getD ad0)) rfl D (fz _) V λc3 b6 c0 Z al=>?_;have ag:=ae E al E.size;have Y:=(bq.below aj).below al;cases q:v6A O with
    |none=>
     exact af.yes rfl (X (by rw[e,q];rfl) Y ag)
    |some x=>
     rw[q]at Z D;refine af.no rfl ⟨_,cH.load0 Z D,_,zS 3 (by rw[<- dt];exact D) b6,?_⟩;exact a9 (some ⟨3,[],x⟩) (λy b5=>by cases b5;show x.length=16;rw[<- dt];exact D) (by rw[e,q];rfl) Y ag
 ·have e:bV s=if dG (GD (bR 46 [] (cv s)))=true then(v4V s).map λa=>⟨2,[],a⟩ else if s.length <=253/\(bR 46 [] (cv s)).all gj=true then some ⟨1,cv s,ad0⟩ else none:=by unfold bV;rw[if_neg ac]
  refine aA (iI s (by omega) U) ?_;rintro _ c5 ⟨rfl,ca⟩;have b8:=ae ad ca ad.size;refine⟨_,rfl,?_⟩;have c4:(cv s).length=s.length:=by simp[cv]
  refine aA (gx (cv s) 46 (by omega) c5) ?_;rintro _ V ⟨a,n,c,rfl,q,c9,aj⟩;have E:=ae b8 aj b8.size;have bb:=(bq.below ca).below aj;have c1:=q.len;subst c1;have cf:∀x∈bR 46 [] (cv s),x.length <=s.length:=λx a8=>by have:=ia 46 (cv s) [] x a8;simp[c4]at this;omega
  have c8:=dJ 46 (cv s) [];have b4:0<(bR 46 [] (cv s)).length:=List.length_pos_iff.2 (gT 46 (cv s) []);refine⟨_,_,_,rfl,?_⟩;generalize bR 46 [] (cv s)=L at*;have bk:i64.wrap (((L.length:Nat):Int)-1)=((L.length-1:Nat):Int):=by rw[wrJ];omega
  try dsimp only
  rw[bk];refine⟨⟨⟨by omega,by omega⟩,q.all.isSome b4⟩,_,q.all.text ax (by omega),?_⟩;rw[<- ya b4];have dd:(GD L).length <=s.length:=by rw[ya b4];exact cf _ (getElem_mem _)
  refine aA (jK (GD L) (by omega) V) ?_;rintro _ c6 ⟨rfl,a0⟩;rw[a0];clear a0;refine⟨_,rfl,af.of (λb1=>?_) (λb1=>?_)⟩
  ·rw[if_pos b1]at e;refine aA (NM s (by omega) V) ?_;rintro _ cl ⟨rfl,cb⟩;have b9:=ae E cb E.size;refine⟨_,_,by rw[H2],?_⟩;have D:=AN (XI s);refine cH.new (zs:=adC ad0) (cs:=adC ((v4V s).getD ad0)) rfl D (fz _) cl λc3 b6 c0 Z al=>?_;have ag:=ae b9 al b9.size;have Y:=(bb.below cb).below al;cases q:v4V s with
   |none=>
    rw[q]at e;exact af.yes rfl (X e Y ag)
   |some x=>
    rw[q]at e Z D;refine af.no rfl ⟨_,cH.load0 Z D,_,zS 2 (by rw[<- dt];exact D) b6,?_⟩;exact a9 (some ⟨2,[],x⟩) (λy b5=>by cases b5;show x.length=16;rw[<- dt];exact D) e Y ag
  ·rw[if_neg (by rw[b1];decide)]at e;have cc: ¬ (s.length <=253/\L.all gj=true)->bV s=none:=λh=>by rw[e,if_neg h]
   refine⟨λm i w'=>∃k:Nat,k <=L.length/\i=(k:Int)/\m=L.length-k/\(L.take k).all gj=true/\w'=V,⟨_,0,by omega,rfl,rfl,rfl,rfl⟩,?_⟩;intro m i;refine aQ.of ?_ _;rintro c6 ⟨k,da,rfl,rfl,b3,a0⟩;rw[a0];clear a0;refine af.of (λh=>?_) (λh=>?_)<;>simp only[dTx,dFx]at h
   ·have bc:k<L.length:=by omega
    refine⟨⟨⟨by omega,h⟩,q.all.isSome (by omega)⟩,_,q.all.text ax bc,?_⟩;refine aA (GR L[k] (by have:=cf _ (getElem_mem bc);omega) V) ?_;rintro _ cl ⟨rfl,cj⟩;rw[cj];clear cj;refine⟨_,rfl,af.of (λH=>X (cc λG=>?_) bb E) (λH=>?_)⟩
    ·rw[List.all_eq_true.1 G.2 _ (getElem_mem bc)]at H;cases H
    ·refine⟨L.length-(k+1),by omega,k+1,by omega,by rw[wrJ];omega,rfl,?_,rfl⟩;rw[take_succ_eq_append_getElem bc,List.all_append,b3];simpa using H
   ·have:k=L.length:=by omega
    subst this;rw[take_length]at b3;refine af.of (λH=>X (cc λG=>?_) bb E) (λH=>?_)<;>simp only[gt_iff_lt,dTx,dFx]at H
    ·have:=G.1;omega
    ·exact a9 (some ⟨1,cv s,ad0⟩) (λx a8=>by cases a8;rfl) (by rw[e,if_pos ⟨by omega,b3⟩]) bb E
theorem se {h:Hst}(o:h.ok)(w:World)(I:Env w):Cf my #[h.v] w (Ret λv w'=>v=vS (lT h)/\bW w w'):=by
 apply Kj;intro U G O M;have e:=(M▸ao w _:bW w G)
 have h1:au G U ai h.cells:=au.new O M;refine⟨rfl,_,h1.load1 bC rfl rfl,?_⟩;unfold lT;refine af.of (λq=>?_) (λq=>?_)<;>simp only[beq_iff_eq,beq_eq_false_iff_ne,ne_eq]at q
 ·rw[if_pos q];exact⟨rfl,_,h1.load1 ax rfl rfl,rfl,e⟩
 rw[if_neg q];refine af.of (λD=>?_) (λD=>?_)<;>simp only[beq_iff_eq,beq_eq_false_iff_ne,ne_eq]at D
 ·rw[if_pos D];refine⟨rfl,_,OP o h1,?_⟩;refine aA (zZb h.ad o G (I.step e)) ?_;rintro _ V ⟨rfl,H⟩;exact⟨_,rfl,rfl,ae e H e.size⟩
 rw[if_neg D];refine af.of (λE=>?_) (λE=>?_)<;>simp only[beq_iff_eq,beq_eq_false_iff_ne,ne_eq]at E
 ·rw[if_pos E];refine⟨rfl,_,OP o h1,?_⟩;refine aA (IU h.ad o G (I.step e)) ?_;rintro _ V ⟨rfl,H⟩;have X:=FR h.ad;refine⟨_,rfl,fits (by simp;omega),?_⟩;rintro _ rfl;refine⟨fits (by simp;omega),?_⟩;rintro _ rfl;exact⟨rfl,ae e H e.size⟩
 ·rw[if_neg E];exact⟨rfl,e⟩
theorem qt {h:Hst}(o:h.ok)(w:World):Cf kJ #[h.v] w (Ret λv w'=>v=vS (lT h)/\bW w w'):=by
 apply Ho;intro O G M I;have e:=(I▸ao w _:bW w G)
 have h1:au G O ai h.cells:=au.new M I;refine⟨rfl,_,h1.load1 bC rfl rfl,?_⟩;unfold lT;refine af.of (λq=>?_) (λq=>?_)<;>simp only[beq_iff_eq,beq_eq_false_iff_ne,ne_eq]at q
 ·rw[if_pos q];exact⟨rfl,_,h1.load1 ax rfl rfl,rfl,e⟩
 rw[if_neg q];refine⟨rfl,_,h1.load1 bC rfl rfl,?_⟩;refine af.of (λD=>?_) (λD=>?_)<;>simp only[beq_iff_eq,beq_eq_false_iff_ne,ne_eq]at D
 ·rw[if_pos D];refine⟨rfl,_,OP o h1,?_⟩;refine aA (GO h.ad o G) ?_;rintro _ U ⟨rfl,H⟩;exact⟨_,rfl,rfl,ae e H e.size⟩
 rw[if_neg D];refine⟨rfl,_,h1.load1 bC rfl rfl,?_⟩;refine af.of (λE=>?_) (λE=>?_)<;>simp only[beq_iff_eq,beq_eq_false_iff_ne,ne_eq]at E
 ·rw[if_pos E];refine⟨rfl,_,OP o h1,?_⟩;refine aA (GP h.ad o G) ?_;rintro _ U ⟨rfl,H⟩;have V:=FR h.ad;refine⟨_,rfl,fits (by simp;omega),?_⟩;rintro _ rfl;refine⟨fits (by simp;omega),?_⟩;rintro _ rfl;exact⟨rfl,ae e H e.size⟩
 ·rw[if_neg E];exact⟨rfl,e⟩
theorem ij {h:Hst}(o:h.ok)(a0:h.name.length <=1000000000)(w:World)(V:Env w):Cf fM #[h.v] w (Ret λv w'=>v=.bool (cT h)/\bW w w'):=by
 apply Hb;have a8:=Lz o;intro ag E Z X;have q:=(X▸ao w _:bW w E)
 have h1:au E ag ai h.cells:=au.new Z X;refine⟨_,aR.load0 h1 (Hst.len o),?_⟩;refine aA (se o E (V.step q)) ?_;rintro _ aj ⟨rfl,M⟩;have D:=ae q M q.size;refine⟨_,rfl,?_⟩;refine aA (jD (lT h) (by omega) aj (V.step D)) ?_;rintro _ al ⟨rfl,O⟩;have H:=ae D O D.size;refine⟨_,_,by rw[ii],?_⟩;have e:((bV (lT h)).getD gO).ok:=kZ λx ad=>gG ad;refine aR.new (zs:=gO.cells) (cs:=((bV (lT h)).getD gO).cells) rfl (Hst.len e) (Hst.one _) al λa9 an ar G U=>?_;have I:=ae H U H.size;have Y:=((h1.below M).below O).below U;unfold cT;cases ac:bV (lT h)with
 |none=>exact af.no rfl ⟨rfl,I⟩
 |some g=>
  rw[ac]at G e;exact af.yes rfl ⟨_,aR.load0 G (Hst.len e),_,aR.load0 Y (Hst.len o),_,xY e o an,rfl,I⟩
theorem iJ {h:Hst}(o:h.ok)(ar:h.name.length <=80000000)(w:World):Cf fW #[h.v] w (Ret λv w'=>v=.bool (cT h)/\bW w w'):=by
 apply Fg;have a0:=Lz o;intro ad q Y V;have E:=(V▸ao w _:bW w q)
 have h1:au q ad ai h.cells:=au.new Y V;refine⟨_,aR.load0 h1 (Hst.len o),?_⟩;refine aA (qt o q) ?_;rintro _ ag ⟨rfl,M⟩;have G:=ae E M E.size;refine⟨_,rfl,?_⟩;refine aA (oH (lT h) (by omega) ag) ?_;rintro _ aj ⟨rfl,O⟩;have H:=ae G O G.size;refine⟨_,_,by rw[ii],?_⟩;have e:((bV (lT h)).getD gO).ok:=kZ λx ac=>gG ac;refine aR.new (zs:=gO.cells) (cs:=((bV (lT h)).getD gO).cells) rfl (Hst.len e) (Hst.one _) aj λa8 al an D U=>?_;have I:=ae H U H.size;have X:=((h1.below M).below O).below U;unfold cT;cases Z:bV (lT h)with
 |none=>exact af.no rfl ⟨rfl,I⟩
 |some g=>
  rw[Z]at D e;exact af.yes rfl ⟨_,aR.load0 D (Hst.len e),_,aR.load0 X (Hst.len o),_,xY e o al,rfl,I⟩
def II (h:Hst)(w:World)(v:Value)(w':World):Prop:=∃(a:Option Addr) (n c:Nat),v=.slice a n c/\Ow tS ak w' NoB a n c (aF h)/\bU w.heap.size a/\bW w w'
theorem gw {h:Hst}(o:h.ok)(ad:h.name.length <=1000000000)(w:World)(I:Env w):Cf cI #[h.v] w (Ret (II h w)):=by
 apply EN;intro aj H ac M;have q:=(M▸ao w _:bW w H)
 have h1:au H aj ai h.cells:=au.new ac M;have O:∀{wx:World},¬ (h.kind=1/\cT h=true)->bW w wx->II h w (.slice none 0 0) wx:=λe V=>⟨none,0,0,rfl,by unfold aF;rw[if_neg e];exact Ow.nil _ _ _ _,bU.none _,V⟩
 refine eC (λw'=>(h.kind=1/\cT h=true)/\bW H w') ⟨rfl,_,h1.load1 bC rfl rfl,?_⟩ ?_
 ·refine af.of (λc=>O (λe=>?_) q) (λc=>?_)
  ·rw[e.1]at c;simp at c
  ·have Z:h.kind=1:=by simpa using c
   refine⟨_,aR.load0 h1 (Hst.len o),?_⟩;refine aA (ij o ad H (I.step q)) ?_;rintro _ U ⟨rfl,D⟩;refine⟨_,rfl,af.of (λE=>O (λe=>?_) (ae q D q.size)) (λE=>⟨⟨Z,by simpa using E⟩,D⟩)⟩;rw[e.2]at E;cases E
 ·rintro U ⟨e,D⟩;have G:=ae q D q.size;refine⟨rfl,_,(h1.below D).load1 ax rfl rfl,?_⟩;refine aA (eB h.name 46 (by omega) U (I.step G)) ?_;rintro _ al ⟨a,n,c,rfl,ag,Y,X⟩;exact⟨_,_,_,rfl,_,_,_,rfl,by unfold aF;rw[if_pos e];exact ag,Y.mono G.size,ae G X G.size⟩
theorem fG {h:Hst}(o:h.ok)(ac:h.name.length <=80000000)(w:World):Cf eu #[h.v] w (Ret (II h w)):=by
 apply CD;intro ag G Z I;have q:=(I▸ao w _:bW w G)
 have h1:au G ag ai h.cells:=au.new Z I;have M:∀{wx:World},¬ (h.kind=1/\cT h=true)->bW w wx->II h w (.slice none 0 0) wx:=λe U=>⟨none,0,0,rfl,by unfold aF;rw[if_neg e];exact Ow.nil _ _ _ _,bU.none _,U⟩
 refine eC (λw'=>(h.kind=1/\cT h=true)/\bW G w') ⟨rfl,_,h1.load1 bC rfl rfl,?_⟩ ?_
 ·refine af.of (λc=>M (λe=>?_) q) (λc=>?_)
  ·rw[e.1]at c;simp at c
  ·have Y:h.kind=1:=by simpa using c
   refine⟨_,aR.load0 h1 (Hst.len o),?_⟩;refine aA (iJ o ac G) ?_;rintro _ O ⟨rfl,D⟩;refine⟨_,rfl,af.of (λE=>M (λe=>?_) (ae q D q.size)) (λE=>⟨⟨Y,by simpa using E⟩,D⟩)⟩;rw[e.2]at E;cases E
 ·rintro O ⟨e,D⟩;have H:=ae q D q.size;refine⟨rfl,_,(h1.below D).load1 ax rfl rfl,?_⟩;refine aA (gx h.name 46 (by omega) O) ?_;rintro _ aj ⟨a,n,c,rfl,ad,X,V⟩;exact⟨_,_,_,rfl,_,_,_,rfl,by unfold aF;rw[if_pos e];exact ad,X.mono H.size,ae H V H.size⟩
theorem gy.drop {α:Type}{T:Ty α}{l:List Value}{xs:List α}(h:gy T w A l xs)(j:Nat):gy T w A (l.drop (j*T.k)) (xs.drop j):=by
 refine⟨by rw[length_drop,length_drop,h.len,Nat.sub_mul],λi e=>?_⟩;have q:j+i<xs.length:=by rw[length_drop]at e;omega
 have:=h.rep (j+i) q;rw[List.drop_drop,List.getElem_drop];rw[Nat.add_mul]at this;exact this
theorem Sl.from {α:Type}{T:Ty α}{a:Option Addr}{n c:Nat}{xs:List α}(h:Sl T w A a n c xs)(j:Nat)(X:j <=xs.length)(O:T.k=k):Sl T w A (bw a c j k) (n-j) (c-j) (xs.drop j):=by
 subst O;obtain⟨h1,U,V,e⟩:=h;refine⟨by rw[length_drop,h1],by omega,by omega,?_⟩;rcases e with e|⟨b,off,q,H,G,l,D,E⟩
 ·left;rw[e];simp
 ·by_cases I:c=j
  ·left;exact List.drop_eq_nil_of_le (by omega)
  ·right;refine⟨b,off+j*T.k,?_,H,G,l.drop (j*T.k),D.drop j,λi M=>?_⟩
   ·unfold bw;rw[if_neg I,q,map_some,fu]
   ·rw[length_drop]at M;rw[Nat.add_assoc,E _ (by omega),List.getElem?_drop]
def xt (L:List lU)(n:Nat):lU:=Lib.join (L.drop (L.length-n)) [46]
def N1 (L:List lU)(n:Nat):Value:=if 1 <=n/\n <=L.length then .tuple #[(⟨1,xt L n,ad0⟩:Hst).v,.bool true]else .tuple #[gO.v,.bool false]
def kO (h d:Hst):Bool:=if(aF d).length=0\/(aF h).length <=(aF d).length then false else gA ⟨1,xt (aF h) (aF d).length,ad0⟩ d
def Pw (h d:Hst):Bool:=if(aF h).length=0\/(aF d).length=0 then false else decide (d.name.length+1<h.name.length)&&(h.name.drop (h.name.length-(d.name.length+1))==46::d.name)
theorem MK {o:Option lU}{h:Hst}(e:(o.map λa=>(⟨3,[],a⟩:Hst))=some h):h.kind=3:=by
 cases o with
 |none=>cases e
 |some a=>cases e;rfl
theorem ka {d:Hst}(o:d.ok)(O:d.kind=1)(q:cT d=true):d=⟨1,d.name,ad0⟩/\cv d.name=d.name/\(bR 46 [] d.name).all gj=true/\d.name.length <=253/\dG (GD (bR 46 [] d.name))=false/\bV d.name=some d:=by
 have U:lT d=d.name:=by unfold lT;rw[if_pos O]
 unfold cT at q;rw[U]at q;cases D:bV d.name with
 |none=>rw[D]at q;cases q
 |some g=>
  rw[D]at q;obtain rfl:=(gi (gG D) o).1 q;have e:=D;unfold bV at e;split at e
  ·split at e
   ·have:=MK e;omega
   ·cases e
  split at e
  ·cases I:v4V g.name with
   |none=>rw[I]at e;cases e
   |some a=>
    rw[I]at e;have:g.kind=2:=by rw[<- Option.some.inj e]
    omega
  rename_i M;split at e
  ·rename_i G;have E:=Option.some.inj e;have H:cv g.name=g.name:=congrArg Hst.name E;rw[H]at G E M;exact⟨E.symm,H,G.2,G.1,by simpa using M,rfl⟩
  ·cases e
theorem iV {d:Hst}(o:d.ok)(h:(aF d).length≠0):(d.kind=1/\cT d=true)/\aF d=bR 46 [] d.name:=by
 unfold aF at h ⊢;split at h
 ·rename_i e;exact⟨e,by rw[if_pos e]⟩
 ·exact absurd rfl h
theorem Db (c:UInt8)(A B:List lU)(hA:A≠[])(hB:B≠[]):Lib.join (A++B) [c]=Lib.join A [c]++c::Lib.join B [c]:=by
 cases A with
 |nil=>exact absurd rfl hA
 |cons x A=>
  cases B with
  |nil=>exact absurd rfl hB
  |cons y B=>
   rw[cons_append,Lib.join_cons,Lib.join_cons,Lib.join_cons];unfold Lib.joinTail;simp
theorem Ej (c:UInt8):∀(L:List lU) (k:Nat),(Lib.join (L.drop k) [c]).length <=(Lib.join L [c]).length
 |L,0=>by simp
 |[],k+1=>by simp
 |x::r,k+1=>by
  rw[List.drop_succ_cons];refine Nat.le_trans (Ej c r k) ?_;cases r with
  |nil=>simp[Lib.join_nil]
  |cons y l=>
   rw[Lib.join_cons,Lib.join_cons];unfold Lib.joinTail;simp;omega
theorem IA {h d:Hst}(X:h.ok)(M:d.ok):kO h d=Pw h d:=by
 unfold kO Pw;by_cases D:(aF d).length=0
 ·rw[if_pos (.inl D),if_pos (.inr D)]
 by_cases H:(aF h).length=0
 ·rw[if_pos (.inr (by omega)),if_pos (.inl H)]
 rw[if_neg (show ¬ ((aF h).length=0\/(aF d).length=0) from λh=>h.elim H D)];obtain⟨⟨Z,ad⟩,ac⟩:=iV M D;obtain⟨⟨an,bb⟩,ar⟩:=iV X H;obtain⟨Y,-,bc,-,-,-⟩:=ka M Z ad;obtain⟨h1,-,aj,-,-,-⟩:=ka X an bb;have U:=jG 46 h.name [];have O:=jG 46 d.name [];rw[nil_append]at U O;rw[ac,ar];have a8:=gT 46 h.name [];have bq:0<(bR 46 [] h.name).length:=List.length_pos_iff.2 a8;have bj:0<(bR 46 [] d.name).length:=List.length_pos_iff.2 (gT 46 d.name []);have ag:∀x:lU,gA ⟨1,x,ad0⟩ d=(x==d.name):=λx=>by
  rw[Bool.eq_iff_iff,gi (show(⟨1,x,ad0⟩:Hst).ok from rfl) M,beq_iff_eq];constructor
  ·intro e;exact congrArg Hst.name e
  ·intro e;rw[Y];simp[e]
 rw[ag,Bool.eq_iff_iff];by_cases V:(bR 46 [] h.name).length <=(bR 46 [] d.name).length
 ·rw[if_pos (show(bR 46 [] d.name).length=0\/(bR 46 [] h.name).length <=(bR 46 [] d.name).length from .inr V)];refine⟨(λh=>by cases h),λE=>?_⟩;rw[Bool.and_eq_true,dTx,beq_iff_eq]at E;exfalso;have I:h.name=h.name.take (h.name.length-(d.name.length+1))++46::d.name:=by rw[<- E.2,take_append_drop]
  have q:=congrArg (λs=>(bR 46 [] s).length) I;simp only[ff,length_append]at q;have:0<(bR 46 [] (h.name.take (h.name.length-(d.name.length+1)))).length:=List.length_pos_iff.2 (gT 46 _ []);omega
 ·rw[if_neg (show ¬ ((bR 46 [] d.name).length=0\/(bR 46 [] h.name).length <=(bR 46 [] d.name).length) from λh=>h.elim (λh=>by omega) V),beq_iff_eq,Bool.and_eq_true,dTx,beq_iff_eq];unfold xt;constructor
  ·intro al;have hA:(bR 46 [] h.name).take ((bR 46 [] h.name).length-(bR 46 [] d.name).length)≠[]:=by
    intro e;have:=congrArg length e;rw[length_take,length_nil]at this;omega
   have hB:(bR 46 [] h.name).drop ((bR 46 [] h.name).length-(bR 46 [] d.name).length)≠[]:=by
    intro e;have:=congrArg length e;rw[length_drop,length_nil]at this;omega
   have G:=Db 46 _ _ hA hB;rw[take_append_drop,U,al]at G;have a9:Lib.join ((bR 46 [] h.name).take ((bR 46 [] h.name).length-(bR 46 [] d.name).length)) [46]≠[]:=by
    cases q:(bR 46 [] h.name).take ((bR 46 [] h.name).length-(bR 46 [] d.name).length)with
    |nil=>exact absurd q hA
    |cons x A=>
     rw[Lib.join_cons];intro e;have E:x∈bR 46 [] h.name:=mem_of_mem_take (by rw[q];exact mem_cons_self);have:=List.all_eq_true.1 aj x E;rw[(List.append_eq_nil_iff.1 e).1]at this;cases this
   generalize Lib.join ((bR 46 [] h.name).take ((bR 46 [] h.name).length-(bR 46 [] d.name).length)) [46]=p at*;have bk:0<p.length:=List.length_pos_iff.2 a9;have a0:=congrArg length G;rw[length_append,length_cons]at a0;refine⟨by omega,?_⟩;rw[show h.name.length-(d.name.length+1)=p.length by omega,G];simp
  ·rintro⟨hl',hdr⟩;have I:h.name=h.name.take (h.name.length-(d.name.length+1))++46::d.name:=by rw[<- hdr,take_append_drop]
   have q:bR 46 [] h.name=bR 46 [] (h.name.take (h.name.length-(d.name.length+1)))++bR 46 [] d.name:=by
    conv=>lhs;rw[I]
    exact ff 46 _ _ _
   rw[q,length_append,Nat.add_sub_cancel,List.drop_left];exact O
theorem iU (h:Hst):(aF h).length <=h.name.length+1:=by
 unfold aF;split
 ·exact dJ 46 _ _
 ·simp
theorem AX {h:Hst}(o:h.ok)(bj:h.name.length <=1000000000)(n:Nat)(b1:n <=4000000000)(w:World)(a0:Env w):Cf iQ #[h.v,vI (n:Int)] w (Ret λv w'=>v=N1 (aF h) n/\bW w w'):=by
 apply Ki;intro bk q a9 ad;have D:=(ad▸ao w _:bW w q)
 have al:au q bk ai h.cells:=au.new a9 ad;intro k4 M bb ag;have U:=(ag▸ao q _:bW q M)
 have E:=ae D U D.size;have an:au M k4 ai gO.cells:=au.new bb ag;have Z:w.heap.size <=k4:=by have:=D.size;omega
 refine⟨_,aR.load0 (al.below U) (Hst.len o),?_⟩;refine aA (gw o bj M (a0.step E)) ?_;rintro _ bq ⟨a,l,c,rfl,ac,bs,V⟩;have G:=ae E V E.size;have O:=an.below V;have b0:=iU h;have a8:∀n,(xt (aF h) n).length <=140737488355328:=λn=>by
  unfold xt;refine Nat.le_trans (Ej 46 (aF h) _) ?_;unfold aF;split
  ·rw[jG,nil_append];omega
  ·simp[Lib.join_nil]
 have bc:=ac.len;subst bc;generalize aF h=L at*;refine⟨_,_,_,rfl,?_⟩;unfold N1;refine jA (w:=bq) (1 <=n/\n <=L.length) ?_ (λY=>?_)
 ·refine orJ (af.of (λh=>?_) (λh=>⟨rfl,?_⟩))
  ·rw[if_neg (λY=>by simp at h;omega)];exact aR.fin (K:=λI e=>(.tuple #[I,.bool false]:Value)=.tuple #[gO.v,.bool false]/\bW w e) (cs:=gO.cells) rfl (Hst.one _) O rfl G Z λe H=>⟨rfl,H⟩
  ·simp at h;omega
 ·rw[if_pos Y];have aj:i64.wrap (((L.length:Nat):Int)-(n:Int))=((L.length-n:Nat):Int):=by rw[wrJ];omega
  try dsimp only
  rw[aj];simp only[Int.toNat_natCast];refine⟨⟨by omega,by omega⟩,?_⟩;refine aA (Ek ((ac.all).from (L.length-n) (by omega) rfl) [46] (by simp;omega) (a8 n)) ?_;rintro _ b2 ⟨rfl,X⟩;have ar:=ae G X G.size;refine⟨_,rfl,?_⟩;exact aR.fin (K:=λI e=>(.tuple #[I,.bool true]:Value)=.tuple #[(⟨1,xt L n,ad0⟩:Hst).v,.bool true]/\bW w e) (cs:=(⟨1,xt L n,ad0⟩:Hst).cells) rfl (Hst.one _) (O.below X) rfl ar Z λe H=>⟨rfl,H⟩
theorem Jr {h d:Hst}(O:h.ok)(I:d.ok)(b6:h.name.length <=1000000000)(ch:d.name.length <=1000000000)(w:World)(al:Env w):Cf kG #[h.v,d.v] w (Ret λv w'=>v=.bool (kO h d)/\bW w w'):=by
 apply Hc;intro a0 U c0 b7;have b0:=(b7▸ao w _:bW w U)
 have cl:au U a0 ai h.cells:=au.new c0 b7;intro a8 q c1 b8;have b3:=(b8▸ao U _:bW U q)
 have b1:=ae b0 b3 b0.size;have cp:au q a8 ai d.cells:=au.new c1 b8;have cn:=cl.below b3;have H:bW w (drew q):=ae b1 (lR rfl rfl rfl (Nat.le_refl _) (λ_ _=>rfl)) b1.size;have bs:au (drew q) a0 ai h.cells:=cn;have ac:au (drew q) a8 ai d.cells:=cp;have b9:=aR.load0 (P:=prog) bs (Hst.len O);have ca:=aR.load0 (P:=prog) ac (Hst.len I);have c5:=iU h;have c4:=iU d;have a9:∀{Q:Nat->World->Prop},(∀e,Below (drew q).heap.size (drew q) e->Q (aF h).length e)->
  Cf cI #[h.v] (drew q) λad w'=>∃(a:Option Addr) (l c:Nat),ad=.returned (.slice a l c)/\Q l w':=λag=>by
  refine aA (gw O b6 _ (al.step H)) ?_;rintro _ bk ⟨a,l,c,rfl,an,-,aj⟩;refine⟨_,_,_,rfl,?_⟩;rw[an.len];exact ag bk aj
 have bb:∀{Q:Nat->World->Prop} (Y:World),Below (drew q).heap.size (drew q) Y->(∀e,Below (drew q).heap.size (drew q) e->Q (aF d).length e)->
  Cf cI #[d.v] Y λad w'=>∃(a:Option Addr) (l c:Nat),ad=.returned (.slice a l c)/\Q l w':=λY ar ag=>by
  refine aA (gw I ch Y (al.step (ae H ar H.size))) ?_;rintro _ bk ⟨a,l,c,rfl,an,-,aj⟩;refine⟨_,_,_,rfl,?_⟩;rw[an.len];exact ag bk (ae ar aj ar.size)
 have bc:∀e,Below (drew q).heap.size (drew q) e->∃J:FP [],
  (af ((((aF d).length:Nat):Int)==0) ((.bool false:Value)=.bool (kO h d)/\bW w e)
   (af (decide ((((aF d).length:Nat):Int) >=(((aF h).length:Nat):Int))) ((.bool false:Value)=.bool (kO h d)/\bW w e) (J e)))/\
  aQ 11 (∀(X:World),J X->∃(cb:Value),(Instr.loadAt ai (.pointer (some ⟨a0,0,none⟩))).run prog X=.ok cb X/\
   Cf iQ #[cb,vI (((aF d).length:Nat):Int)] X λcj ce=>∃(cc:Value) (cf:Bool),cj=.returned (.tuple #[cc,.bool cf])/\
   ∀(M:Nat) (V:World),M=ce.heap.size->V=ce.alloc (.cells bu ai)->
   ∃(e:World),(Instr.storeAt ai (.pointer (some ⟨M,0,none⟩)) cc).run prog V=.ok () e/\
   ∃(v30:Value),(Instr.loadAt ai (.pointer (some ⟨M,0,none⟩))).run prog e=.ok v30 e/\
   ∃(bj:Value),(Instr.loadAt ai (.pointer (some ⟨a8,0,none⟩))).run prog e=.ok bj e/\
   ∃(bq:Bool),((do eqGuard .eql ai (.tmp 30) (.tmp 31) v30 bj;binOp .eql ai v30 bj:Sem Value)).run prog e=.ok (.bool bq) e/\
   ((.bool bq:Value)=.bool (kO h d)/\bW w e)):=λe D=>by
  have G:=ae H D H.size;have u:kO h d=if(aF d).length=0\/(aF h).length <=(aF d).length then false else gA ⟨1,xt (aF h) (aF d).length,ad0⟩ d:=rfl;refine jA (w:=e) (¬ ((aF d).length=0\/(aF h).length <=(aF d).length)) ?_ (λcu=>?_)
  ·refine af.of (λE=>⟨?_,G⟩) (λE=>af.of (λZ=>⟨?_,G⟩) (λZ=>⟨rfl,?_⟩))
   ·rw[u,if_pos (.inl (by simp at E;simp[E]))]
   ·rw[u,if_pos (.inr (by simp at Z;omega))]
   ·simp at E Z;rintro(hx|hx)
    ·exact E (List.length_eq_zero_iff.1 hx)
    ·omega
  ·refine⟨_,aR.load0 (bs.below D) (Hst.len O),?_⟩;refine aA (AX O b6 (aF d).length (by omega) e (al.step G)) ?_;rintro _ c2 ⟨rfl,b4⟩;have b2:=ae G b4 G.size;have ck:N1 (aF h) (aF d).length=.tuple #[(⟨1,xt (aF h) (aF d).length,ad0⟩:Hst).v,.bool true]:=if_pos ⟨by omega,by omega⟩;rw[ck,u,if_neg cu];refine⟨_,_,rfl,?_⟩;refine aR.new (zs:=gO.cells) (cs:=(⟨1,xt (aF h) (aF d).length,ad0⟩:Hst).cells) rfl rfl (Hst.one _) c2 λM V c3 cr b5=>?_;have ct:=ae b2 b5 b2.size;exact⟨_,aR.load0 cr rfl,_,aR.load0 (((ac.below D).below b4).below b5) (Hst.len I),_,xY (show(⟨1,xt (aF h) (aF d).length,ad0⟩:Hst).ok from rfl) I V,rfl,ct⟩
 refine⟨⟨_,b9,?_,_,ca,?_⟩,_,ca,_,b9,?_⟩
 ·exact a9 λe D=>⟨_,aR.load0 (ac.below D) (Hst.len I),bb e D bc⟩
 ·exact a9 λe D=>bb e D bc
 ·exact a9 λe D=>bb e D bc
theorem va {h d:Hst}(U:h.ok)(O:d.ok)(bj:h.name.length <=80000000)(al:d.name.length <=80000000)(w:World):Cf lN #[h.v,d.v] w (Ret λv w'=>v=.bool (kO h d)/\bW w w'):=by
 rw[IA U O];apply Fh;intro bs H a9 ad;have Y:=(ad▸ao w _:bW w H)
 have ar:au H bs ai h.cells:=au.new a9 ad;intro b0 I bb ag;have Z:=(ag▸ao H _:bW H I)
 have G:=ae Y Z Y.size;have X:au I b0 ai d.cells:=au.new bb ag;have V:=ar.below Z;have u:Pw h d=if(aF h).length=0\/(aF d).length=0 then false else decide (d.name.length+1<h.name.length)&&(h.name.drop (h.name.length-(d.name.length+1))==46::d.name):=rfl;refine eC (λw'=> ¬ ((aF h).length=0\/(aF d).length=0)/\bW I w') ?_ ?_
 ·refine⟨_,aR.load0 V (Hst.len U),?_⟩;refine aA (fG U bj I) ?_;rintro _ aj ⟨a,l,c,rfl,bk,-,q⟩;have D:=ae G q G.size;refine⟨_,_,_,rfl,?_⟩;rw[bk.len];refine af.of (λe=>⟨?_,D⟩) (λe=>?_)
  ·rw[u,if_pos (.inl (by simp at e;simp[e]))]
  refine⟨_,aR.load0 (X.below q) (Hst.len O),?_⟩;refine aA (fG O al aj) ?_;rintro _ b3 ⟨a5,b2,b1,rfl,bq,-,ac⟩;have a0:=ae D ac D.size;refine⟨_,_,_,rfl,?_⟩;rw[bq.len];refine af.of (λE=>⟨?_,a0⟩) (λE=>⟨?_,ae q ac q.size⟩)
  ·rw[u,if_pos (.inr (by simp at E;simp[E]))]
  ·simp at e E;rintro(hx|hx)
   ·exact e (List.length_eq_zero_iff.1 hx)
   ·exact E (List.length_eq_zero_iff.1 hx)
 ·rintro aj ⟨a8,q⟩;have D:=ae G q G.size;have M:=(V.below q).load1 (P:=prog) (i:=1) (v:=vS h.name) ax rfl rfl;refine⟨rfl,_,(X.below q).load1 ax rfl rfl,fits (by simp;omega),?_⟩;rintro _ rfl;refine⟨rfl,_,M,?_⟩;rw[u,if_neg a8];refine af.of (λe=>?_) (λe=>⟨?_,D⟩)
  ·have bc:d.name.length+1<h.name.length:=by simp at e;omega
   have an:i64.wrap (((h.name.length:Nat):Int)-((([46]++d.name).length:Nat):Int))=((h.name.length-(d.name.length+1):Nat):Int):=by
    rw[wrap_i64 (by simp;omega) (by simp;omega)];simp;omega
   refine⟨rfl,_,M,rfl,_,M,?_⟩;rw[an];simp only[Int.toNat_natCast];refine⟨⟨by omega,by omega⟩,?_⟩;rintro _ rfl;rw[decide_eq_true bc,Bool.true_and];exact⟨rfl,D⟩
  ·have: ¬ d.name.length+1<h.name.length:=by simp at e;omega
   rw[decide_eq_false this,Bool.false_and]
end Go.Pk
