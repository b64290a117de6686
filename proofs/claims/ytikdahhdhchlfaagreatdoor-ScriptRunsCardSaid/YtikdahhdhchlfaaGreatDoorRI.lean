/- What the laws lean on: MatA, Elem, OpR, ScrP, MapG, KeyS, V20, WrdE, WrdF, Fnv, V21, V22, ScrA, ScrB, ScrC, WrdA, WrdB, WrdC, UrlY, Idx; what is used. Its conditions: none. -/
import Derived.Test.YtikdahhdhchlfaaGreatDoorRH
import Derived.Lib.LastIndexByte
import Derived.Lib.Join
import Derived.Laws.RangeAny
import Derived.WalkMore
import Derived.Lib.OthersKept
import Derived.Shelf.RegionOpenPlain
set_option linter.unusedVariables false
set_option linter.unusedSimpArgs false
set_option linter.unusedSectionVars false
set_option maxRecDepth 100000
open List (append_assoc append_nil drop_eq_getElem_cons getElem_mem length length_append length_cons length_map length_nil length_take map_append map_cons map_nil mem_of_mem_take take_length take_of_length_le take_succ_eq_append_getElem take_take)
open Option (map_some)
open Go.World (drew)
variable {n i j k:Nat}{w:Go.World}{t:Go.TypeId}{A B:Go.Pk.Bl}{P:Go.Program}{p q:Option Go.Addr}
open Go.IntKind (i64)
open Go.Proofs.Tryz
open List (length)
open Option (isSome)
namespace Go.Pk
open Go.RowKit (Below)
open Go.Proofs
def AQ (h d:Hst):Bool:=cT h&&(cT d&&(gA h d || kO h d))
theorem AZ {h:Hst}(e:(aF h).length≠0):cT h=true:=by
 unfold aF at e;split at e
 ·rename_i c;exact c.2
 ·exact absurd rfl e
theorem Uv {h d:Hst}(I:h.ok)(H:d.ok):((gA h d&&cT h) || kO h d)=AQ h d:=by
 unfold AQ;by_cases e:kO h d=true
 ·have M: ¬ ((aF d).length=0\/(aF h).length <=(aF d).length):=λD=>by unfold kO at e;rw[if_pos D]at e;cases e
  rw[e,AZ (h:=h) (by omega),AZ (h:=d) (by omega)];simp
 ·have G:kO h d=false:=by simpa using e
  rw[G,Bool.or_false,Bool.or_false];by_cases q:gA h d=true
  ·have:=(gi I H).1 q;subst this;rw[q];cases cT h<;>rfl
  ·have E:gA h d=false:=by simpa using q
   rw[E];cases cT h<;>cases cT d<;>rfl
def uA (s:lU):Nat->Nat
 |0=>0
 |k+1=>if s[k]? =some 47 then k else uA s k
theorem JE (s:lU):∀k,uA s k <=k
 |0=>Nat.le_refl _
 |k+1=>by
  have:=JE s k;unfold uA;split<;>omega
def Nb (s:lU):lU:=if uA s s.length=0\/s.head?≠some 47 then[47]else s.take (uA s s.length)
theorem Sp (s:lU):∀k,k <=s.length->(0<Lib.lastIdx (mkS s) 47 k↔uA s k≠0)/\(0<Lib.lastIdx (mkS s) 47 k->Lib.lastIdx (mkS s) 47 k=(uA s k:Nat))
 |0,_=>⟨by simp[Lib.lastIdx,uA],by simp[Lib.lastIdx]⟩
 |k+1,h=>by
  have q:(mkS s).data[k]! =s[k]'(by omega):=by
   have:(mkS s).data=s.toArray:=rfl;rw[this,getElem!_pos s.toArray k (by simp;omega)];simp
  have D:=Sp s k (by omega);unfold Lib.lastIdx uA;rw[q,List.getElem?_eq_getElem (by omega)];by_cases c:s[k]'(by omega)=47
  ·rw[if_pos (by rw[c];rfl),if_pos (by rw[c])];exact⟨by omega,λ_=>rfl⟩
  ·rw[if_neg (λe=>c (UInt8.toNat_inj.1 (by rw[show(UInt8.toNat 47)=47 from rfl];omega))),if_neg (λe=>c (Option.some.inj e))];exact D
def Ag (p o:lU):Bool:=(p==o) || (decide (o.length<p.length)&&((p.take o.length==o)&&(decide (p[o.length]? =some 47) || decide (o.getLast?=some 47))))
structure Cky where
 name:lU
 value:lU
 host:Hst
 only:Bool
 path:lU
 sec:Bool
 http:Bool
 same:Int
 exp:Int
 born:Int
 used:Int
 seq:Int
def Cky.tail (c:Cky):List Value:=[.bool c.only,vS c.path,.bool c.sec,.bool c.http,vI c.same,vI c.exp,vI c.born,vI c.used,vI c.seq]
def Cky.cells (c:Cky):List Value:=vS c.name::vS c.value::(c.host.cells++c.tail)
def Cky.v (c:Cky):Value:=.agg c.cells.toArray
def mq:Cky:=⟨[],[],gO,false,[],false,false,0,0,0,0,0⟩
def Cky.ok (c:Cky):Prop:=c.host.ok
theorem Cky.len {c:Cky}(o:c.ok):c.cells.length=29:=by unfold Cky.cells;rw[length_cons,length_cons,length_append,Hst.len o];rfl
theorem Cky.one (c:Cky):BS c.cells:=aY rfl (aY rfl (xh (Hst.one _) (aY rfl (aY rfl (aY rfl (aY rfl (aY rfl (aY rfl (aY rfl (aY rfl (aY rfl fj)))))))))))
theorem jp {c:Cky}(o:c.ok)(h:j<18):c.cells[2+j]? =c.host.cells[j]? :=by
 unfold Cky.cells;rw[show 2+j=j+1+1 by omega,List.getElem?_cons_succ,List.getElem?_cons_succ,List.getElem?_append_left (by rw[Hst.len o];exact h)]
theorem bi {c:Cky}(o:c.ok)(j:Nat):c.cells[20+j]? =c.tail[j]? :=by
 unfold Cky.cells;rw[show 20+j=(18+j)+1+1 by omega,List.getElem?_cons_succ,List.getElem?_cons_succ,List.getElem?_append_right (by rw[Hst.len o];omega),Hst.len o];congr 1;omega
structure Req where
 sec:Bool
 host:Hst
 path:lU
 cross:Int
def Req.tail (r:Req):List Value:=[vS r.path,vI r.cross]
def Req.cells (r:Req):List Value:=.bool r.sec::(r.host.cells++r.tail)
def Req.v (r:Req):Value:=.agg r.cells.toArray
def Req.ok (r:Req):Prop:=r.host.ok
theorem Req.len {r:Req}(o:r.ok):r.cells.length=21:=by unfold Req.cells;rw[length_cons,length_append,Hst.len o];rfl
theorem Req.one (r:Req):BS r.cells:=aY rfl (xh (Hst.one _) (aY rfl (aY rfl fj)))
theorem Kc {r:Req}(o:r.ok)(h:j<18):r.cells[1+j]? =r.host.cells[j]? :=by
 unfold Req.cells;rw[Nat.add_comm,List.getElem?_cons_succ,List.getElem?_append_left (by rw[Hst.len o];exact h)]
theorem qv {r:Req}(o:r.ok)(j:Nat):r.cells[19+j]? =r.tail[j]? :=by
 unfold Req.cells;rw[show 19+j=(18+j)+1 by omega,List.getElem?_cons_succ,List.getElem?_append_right (by rw[Hst.len o];omega),Hst.len o];congr 1;omega
def ry (same cross:Int):Bool:=if cross=1 then same !=3 else if cross=2 then same==1 else cross==0
def eQ (c:Cky)(r:Req)(now:Int):Bool:=
 !(c.only && !gA c.host r.host)&&(AQ r.host c.host&&(Ag r.path c.path&&(!(c.sec && !r.sec)&&(!(decide (now >=c.exp))&&ry c.same r.cross))))
theorem jH {h d:Hst}(q:h.ok)(G:d.ok)(aj:h.name.length <=1000000000)(bj:d.name.length <=1000000000)(w:World)(ag:Env w):Cf gq #[h.v,d.v] w (Ret λv w'=>v=.bool (AQ h d)/\bW w w'):=by
 rw[<- Uv q G];apply Cw;intro ar M bs al;have ac:=(al▸ao w _:bW w M)
 have bq:au M ar ai h.cells:=au.new bs al;intro a0 D b0 an;have ad:=(an▸ao M _:bW M D)
 have E:=ae ac ad ac.size;have Z:au D a0 ai d.cells:=au.new b0 an;have U:=bq.below ad;have a8:∀e,bW D e->∃a9:Value,(Instr.loadAt ai (.pointer (some ⟨ar,0,none⟩))).run prog e=.ok a9 e/\∃bb:Value,(Instr.loadAt ai (.pointer (some ⟨a0,0,none⟩))).run prog e=.ok bb e/\
  Cf kG #[a9,bb] e λbk b1=>∃(Y:Bool),bk=.returned (.bool Y)/\((.bool Y:Value)=.bool (kO h d)/\bW w b1):=λe X=>by
  refine⟨_,aR.load0 (U.below X) (Hst.len q),_,aR.load0 (Z.below X) (Hst.len G),?_⟩;have V:=ae E X E.size;refine aA (Jr q G aj bj e (ag.step V)) ?_;rintro _ bc ⟨rfl,I⟩;exact⟨_,rfl,rfl,ae V I V.size⟩
 refine⟨_,aR.load0 U (Hst.len q),_,aR.load0 Z (Hst.len G),_,xY q G D,?_⟩;refine af.of (λH=>?_) (λH=>?_)
 ·refine⟨_,aR.load0 U (Hst.len q),?_⟩;refine aA (ij q aj D (ag.step E)) ?_;rintro _ bc ⟨rfl,I⟩;refine⟨_,rfl,af.of (λO=>⟨by rw[H,O];rfl,ae E I E.size⟩) (λO=>?_)⟩;rw[H,O];exact a8 bc I
 ·rw[H];exact a8 D (Below.refl _ _)
theorem jM {h d:Hst}(E:h.ok)(D:d.ok)(ag:h.name.length <=80000000)(Z:d.name.length <=80000000)(w:World):Cf ez #[h.v,d.v] w (Ret λv w'=>v=.bool (AQ h d)/\bW w w'):=by
 apply CL;intro a8 M ar aj;have ac:=(aj▸ao w _:bW w M)
 have an:au M a8 ai h.cells:=au.new ar aj;intro a9 O a0 al;have ad:=(al▸ao M _:bW M O)
 have H:=ae ac ad ac.size;have Y:au O a9 ai d.cells:=au.new a0 al;have X:=an.below ad;unfold AQ;refine eC (λw'=>cT h=true/\cT d=true/\bW O w') ?_ ?_
 ·refine⟨_,aR.load0 X (Hst.len E),?_⟩;refine aA (iJ E ag O) ?_;rintro _ U ⟨rfl,e⟩;have q:=ae H e H.size;refine⟨_,rfl,af.of (λc=>⟨?_,q⟩) (λc=>?_)⟩
  ·rw[Bool.not_eq_true']at c;rw[c];rfl
  rw[Bool.not_eq_false']at c;refine⟨_,aR.load0 (Y.below e) (Hst.len D),?_⟩;refine aA (iJ D Z U) ?_;rintro _ bj ⟨rfl,I⟩;refine⟨_,rfl,af.of (λG=>⟨?_,ae q I q.size⟩) (λG=>⟨c,?_,ae e I e.size⟩)⟩
  ·rw[Bool.not_eq_true']at G;rw[c,G];rfl
  ·rwa [Bool.not_eq_false']at G
 ·rintro U ⟨bb,bc,e⟩;have q:=ae H e H.size;rw[bb,bc,Bool.true_and,Bool.true_and];refine⟨_,aR.load0 (X.below e) (Hst.len E),_,aR.load0 (Y.below e) (Hst.len D),_,xY E D U,?_⟩;refine af.of (λV=>⟨by rw[V];rfl,q⟩) (λV=>?_);refine⟨_,aR.load0 (X.below e) (Hst.len E),_,aR.load0 (Y.below e) (Hst.len D),?_⟩;refine aA (va E D ag Z U) ?_;rintro _ bj ⟨rfl,I⟩;exact⟨_,rfl,by rw[V];rfl,ae q I q.size⟩
theorem Cc (s:lU)(U:s.length<4611686018427387904)(w:World):Cf mA #[vS s] w (Ret λv w'=>v=vS (Nb s)/\w'=w):=by
 apply As;refine(Tryz.strings_LastIndexByte (mkS s) 47 (show s.toArray.size<_ by simpa using U) w).mono ?_;rintro _ w' ⟨rfl,I⟩;rw[I];clear I;refine⟨_,rfl,?_⟩;have q:=Sp s s.length (Nat.le_refl _);have M:Lib.lastIndexByte (mkS s) 47=Lib.lastIdx (mkS s) 47 s.length:=by unfold Lib.lastIndexByte;rw[show(mkS s).size=s.length from by show s.toArray.size=_;simp]
 rw[M];generalize Lib.lastIdx (mkS s) 47 s.length=n at*;have V:=JE s s.length;refine gS (w:=w) (decide (¬ (uA s s.length=0\/s.head?≠some 47))) ?_ ?_
 ·refine af.of (λh=>?_) (λh=>⟨rfl,?_⟩)<;>simp only[gt_iff_lt,dTx,dFx]at h
  ·have D:=q.1.1 h;have G:0<s.length:=by omega
   have E:=byte_at (s:=s) (k:=0) G;rw[show((0:Nat):Int)=0 from rfl]at E;have H:=im s[0] 47;rw[show(((47:UInt8).toNat:Nat):Int)=47 from rfl]at H;refine⟨⟨by decide,by omega⟩,rfl,?_⟩;rw[E,H,List.head?_eq_getElem?,List.getElem?_eq_getElem G,Bool.eq_iff_iff];simp[D]
  ·have D:uA s s.length=0:=Decidable.byContradiction λe=>h (q.1.2 e);rw[eq_comm,dFx];exact λe=>e (.inl D)
 ·refine af.of (λh=>?_) (λh=>⟨?_,rfl⟩)
  ·have h:=of_decide_eq_true h;have O:=q.2 (q.1.2 λe=>h (.inl e));subst O;refine⟨⟨by omega,by omega⟩,?_⟩;rintro _ rfl;exact⟨by unfold Nb;rw[if_neg h];rfl,rfl⟩
  ·have h:=of_decide_eq_false h;unfold Nb;rw[if_pos (Decidable.not_not.1 h)]
theorem Ck (s:lU)(Z:s.length <=9223372036854775800)(w:World):Cf mD #[vS s] w (Ret λv w'=>v=vS (Nb s)/\w'=w):=by
 apply Ax;refine⟨λm l i w'=>∃k:Nat,k <=s.length/\i=(k:Int)/\m=s.length-k/\l=((uA s k:Nat):Int)/\w'=w,⟨_,0,by omega,rfl,rfl,rfl,rfl⟩,?_⟩;intro m l i;refine aQ.of ?_ _;rintro w' ⟨k,X,rfl,rfl,rfl,M⟩;rw[M];clear M;refine af.of (λh=>?_) (λh=>?_)<;>simp only[dTx,dFx]at h
 ·have I:k<s.length:=by omega
  have D:=im s[k] 47;rw[show(((47:UInt8).toNat:Nat):Int)=47 from rfl]at D;rw[byte_at I,D];have q:uA s (k+1)=if s[k]? =some 47 then k else uA s k:=rfl;rw[List.getElem?_eq_getElem I]at q;refine⟨⟨by omega,h⟩,af.of (λc=>?_) (λc=>?_)⟩
  ·rw[if_pos (by rw[eq_of_beq c])]at q;exact⟨s.length-(k+1),by omega,k+1,by omega,by rw[wrJ];omega,rfl,by rw[q],rfl⟩
  ·rw[if_neg (λe=>by rw[Option.some.inj e]at c;simp at c)]at q;exact⟨s.length-(k+1),by omega,k+1,by omega,by rw[wrJ];omega,rfl,by rw[q],rfl⟩
 ·have:k=s.length:=by omega
  subst this;have Y:=JE s s.length;unfold Nb;refine af.of (λc=>⟨?_,rfl⟩) (λc=>?_)
  ·have c:uA s s.length=0:=by have:=eq_of_beq c;omega
   rw[if_pos (.inl c)]
  ·have c:uA s s.length≠0:=by have:=beq_eq_false_iff_ne.1 c;omega
   have H:0<s.length:=by omega
   have G:=byte_at (s:=s) (k:=0) H;rw[show((0:Nat):Int)=0 from rfl]at G;have D:=im s[0] 47;rw[show(((47:UInt8).toNat:Nat):Int)=47 from rfl]at D;have U:((be s 0) !=47)= !(s[0]==47):=by rw[G];show(!_)=_;rw[D]
   have V:s.head?=some s[0]:=by rw[List.head?_eq_getElem?,List.getElem?_eq_getElem H]
   rw[U,V];refine⟨⟨by decide,by omega⟩,af.of (λE=>⟨?_,rfl⟩) (λE=>⟨⟨by omega,by omega⟩,?_⟩)⟩
   ·rw[if_pos (.inr (λe=>by rw[Option.some.inj e]at E;simp at E))]
   ·rintro _ rfl;have O:s[0]=47:=by simpa using E
    exact⟨by rw[if_neg (by rintro(e|e);exact c e;exact e (by rw[O]))];rfl,rfl⟩
theorem yt (p o:lU)(O:p.length <=9223372036854775800)(M:o.length <=9223372036854775800)(w:World):Cf nG #[vS p,vS o] w (Ret λv w'=>v=.bool (Ag p o)/\w'=w):=by
 apply Hz;unfold Ag;refine af.of (λc=>⟨by rw[c];rfl,rfl⟩) (λc=>?_);rw[c,Bool.false_or];refine jA (w:=w) (o.length<p.length/\p.take o.length=o) ?_ ?_
 ·refine af.of (λh=>⟨?_,rfl⟩) (λh=>⟨⟨by omega,?_⟩,?_⟩)<;>simp only[dTx,dFx]at h
  ·rw[decide_eq_false (p:=o.length<p.length) (by omega),Bool.false_and]
  ·omega
  ·rintro _ rfl;rw[Int.toNat_natCast];refine af.of (λe=>⟨?_,rfl⟩) (λe=>⟨rfl,by omega,?_⟩)
   ·rw[Bool.not_eq_true']at e;rw[e,Bool.false_and,Bool.and_false]
   ·rw[Bool.not_eq_false']at e;exact eq_of_beq e
 ·rintro⟨h1,e⟩;rw[decide_eq_true h1,e,beq_self_eq_true,Bool.true_and,Bool.true_and];have q:=im p[o.length] 47;rw[show(((47:UInt8).toNat:Nat):Int)=47 from rfl]at q;rw[byte_at h1,q,List.getElem?_eq_getElem h1];refine⟨⟨by omega,by omega⟩,af.of (λD=>⟨?_,rfl⟩) (λD=>?_)⟩
  ·rw[eq_of_beq D];rfl
  ·rw[decide_eq_false (p:=some p[o.length]=some 47) (λI=>by rw[Option.some.inj I]at D;simp at D),Bool.false_or];refine af.of (λE=>?_) (λE=>⟨?_,rfl⟩)<;>simp only[gt_iff_lt,dTx,dFx]at E
   ·have G:o.length-1<o.length:=by omega
    have H:i64.wrap (((o.length:Nat):Int)-1)=((o.length-1:Nat):Int):=by rw[wrJ];omega
    have q:=im o[o.length-1] 47;rw[show(((47:UInt8).toNat:Nat):Int)=47 from rfl]at q;rw[H,byte_at G,q,List.getLast?_eq_getElem?,List.getElem?_eq_getElem G];refine⟨⟨by omega,by omega⟩,?_,rfl⟩;congr 1;rw[Bool.eq_iff_iff];simp
   ·have:o=[]:=List.length_eq_zero_iff.1 (by omega);subst this;rfl
theorem aN:Whl prog ah 29:=⟨⟨_,_,mg⟩,by kernel_rfl⟩
theorem io:Whl prog aX 21:=⟨⟨_,_,HW⟩,by kernel_rfl⟩
theorem GW {c:Cky}{r:Req}(D:c.ok)(or:r.ok)(b5:c.host.name.length <=80000000)(cf:r.host.name.length <=80000000)(b6:c.path.length <=9223372036854775800)(ch:r.path.length <=9223372036854775800)(M:Int)(w:World):
 Cf qf #[c.v,r.v,vI M] w (Ret λv w'=>v=.bool (eQ c r M)/\bW w w'):=by
 apply Fv;intro b1 Z cc bs;have bc:=(bs▸ao w _:bW w Z)
 have O:au Z b1 ah c.cells:=au.new cc bs;intro b2 E ce b0;have bj:=(b0▸ao Z _:bW Z E)
 have V:=ae bc bj bc.size;have e:au E b2 aX r.cells:=au.new ce b0;have ag:=O.below bj;have a0:∀{wx},bW E wx->(Instr.loadAt ai (.pointer (some ⟨b1,2,none⟩))).run prog wx=.ok c.host.v wx:=λq=>aR.load (ag.below q) (i:=2) (us:=c.host.cells) (Hst.len D) (λj an=>jp D an);have a8:∀{wx},bW E wx->(Instr.loadAt ai (.pointer (some ⟨b2,1,none⟩))).run prog wx=.ok r.host.v wx:=λq=>aR.load (e.below q) (i:=1) (us:=r.host.cells) (Hst.len or) (λj an=>Kc or an);have H:=Below.refl E.heap.size E;have bb:∀{wx:World} {J:FP []},bW E wx->(c.only && !gA c.host r.host)=false->(∀ad,bW E ad->AQ r.host c.host=true->J ad)->
  Cf ez #[r.host.v,c.host.v] wx λb9 b4=>∃(a9:Bool),b9=.returned (.bool a9)/\af (!a9) ((.bool false:Value)=.bool (eQ c r M)/\bW w b4) (J b4):=fun{wx J} bk ck ca=>by
  refine aA (jM or D cf b5 wx) ?_;rintro _ ac ⟨rfl,X⟩;have q:=ae bk X bk.size;refine⟨_,rfl,af.of (λh=>⟨?_,ae V q V.size⟩) (λh=>ca ac q ?_)⟩
  ·rw[Bool.not_eq_true']at h;unfold eQ;rw[h,Bool.false_and,Bool.and_false]
  ·rwa [Bool.not_eq_false']at h
 refine eC (λw'=>(c.only && !gA c.host r.host)=false/\AQ r.host c.host=true/\bW E w') ?_ ?_
 ·refine⟨rfl,_,ag.load1 bK rfl (bi D 0),af.of (λh=>?_) (λh=>?_)⟩
  ·refine⟨rfl,_,a0 H,rfl,_,a8 H,_,R1 D or E,af.of (λG=>⟨?_,V⟩) (λG=>?_)⟩
   ·unfold eQ;rw[h,G];rfl
   ·exact⟨rfl,_,a8 H,rfl,_,a0 H,bb H (by rw[h,G];rfl) λad q al=>⟨by rw[h,G];rfl,al,q⟩⟩
  ·exact⟨rfl,_,a8 H,rfl,_,a0 H,bb H (by rw[h];rfl) λad q al=>⟨by rw[h];rfl,al,q⟩⟩
 ·rintro ac ⟨b7,b8,X⟩;have I:=ae V X V.size;have U:=ag.below X;have aj:=e.below X;have bq:eQ c r M=(Ag r.path c.path&&(!(c.sec && !r.sec)&&(!(decide (M >=c.exp))&&ry c.same r.cross))):=by unfold eQ;rw[b7,b8];rfl
  refine eC (λw'=>eQ c r M=ry c.same r.cross/\w'=ac) ?_ ?_
  ·refine⟨rfl,_,aj.load1 ax rfl (qv or 0),rfl,_,U.load1 ax rfl (bi D 1),?_⟩;refine aA (yt r.path c.path ch b6 ac) ?_;rintro _ cj ⟨rfl,Y⟩;rw[Y];clear Y;refine⟨_,rfl,af.of (λh=>⟨?_,I⟩) (λh=>?_)⟩
   ·rw[Bool.not_eq_true']at h;rw[bq,h];rfl
   rw[Bool.not_eq_false']at h;rw[bq,h,Bool.true_and];refine⟨rfl,_,U.load1 bK rfl (bi D 2),af.of (λG=>?_) (λG=>?_)⟩
   ·refine⟨rfl,_,aj.load1 bK rfl (i:=0) rfl,af.of (λO=>⟨?_,I⟩) (λO=>?_)⟩
    ·rw[G,O];rfl
    ·rw[G,O];refine⟨rfl,_,U.load1 bB rfl (bi D 5),af.of (λe=>⟨?_,I⟩) (λe=>⟨?_,rfl⟩)⟩
     ·rw[e];rfl
     ·rw[e];rfl
   ·rw[G];refine⟨rfl,_,U.load1 bB rfl (bi D 5),af.of (λe=>⟨?_,I⟩) (λe=>⟨?_,rfl⟩)⟩
    ·rw[e];rfl
    ·rw[e];rfl
  ·rintro cj ⟨cb,Y⟩;rw[Y,cb];unfold ry;have ar:=aj.load1 (P:=prog) bC rfl (qv or 1);have b3:=U.load1 (P:=prog) bC rfl (bi D 4);refine⟨rfl,_,ar,af.of (λh=>?_) (λh=>?_)⟩
   ·rw[if_pos (eq_of_beq h)];exact⟨rfl,_,b3,rfl,I⟩
   rw[if_neg (beq_eq_false_iff_ne.1 h)];refine⟨rfl,_,ar,af.of (λh=>?_) (λh=>?_)⟩
   ·rw[if_pos (eq_of_beq h)];exact⟨rfl,_,b3,rfl,I⟩
   rw[if_neg (beq_eq_false_iff_ne.1 h)];exact⟨rfl,_,ar,rfl,I⟩
theorem Whl.elem {α:Type}{T:Ty α}(D:Whl P t n)(G:T.k=n){a:Option Addr}{l c:Nat}{xs:List α}(h:Sl T w A a l c xs)(E:i<xs.length):
 ∃vs,(Instr.loadAt t (.pointer (av a (i:Int) n))).run P w=.ok (.agg vs.toArray) w/\T.rep w A vs xs[i]:=by
 obtain⟨bytes,z,M⟩:=D.tf;obtain⟨O,I,H,_,_⟩:=M.info;have e:=D.ag;cases q:P.underlying t with
 |none=>rw[q]at e;cases e
 |some d=>
  rw[q]at e;simp only[map_some,Option.some.injEq]at e;have:=h.loadA q e I G H (i:=(i:Int)) (by simpa using E);simpa using this
structure OpR where
 kind:Int
 url:Url
 text:lU
 req:Req
 n:Int
structure OpR.ok (o:OpR):Prop where
 uo:o.url.ok
 ro:o.req.host.ok
 up:o.url.path.length <=1000000
 un:o.url.host.name.length <=1000000
 rp:o.req.path.length <=1000000
 rn:o.req.host.name.length <=1000000
 tx:o.text.length <=1000000
def OpR.cells (o:OpR):List Value:=vI o.kind::(o.url.cells++(vS o.text::(o.req.cells++[vI o.n])))
def OpR.v (o:OpR):Value:=.agg o.cells.toArray
theorem OpR.len {o:OpR}(k:o.ok):o.cells.length=45:=by
 unfold OpR.cells;rw[length_cons,length_append,length_cons,length_append,Url.len k.uo,Req.len k.ro];rfl
theorem OpR.one (o:OpR):BS o.cells:=aY rfl (xh (Url.one _) (aY rfl (xh (Req.one _) (aY rfl fj))))
theorem SV {o:OpR}(k:o.ok)(h:j<21):o.cells[1+j]? =o.url.cells[j]? :=by
 unfold OpR.cells;rw[Nat.add_comm,List.getElem?_cons_succ,List.getElem?_append_left (by rw[Url.len k.uo];exact h)]
theorem SU {o:OpR}(k:o.ok):o.cells[22]? =some (vS o.text):=by
 unfold OpR.cells;rw[show 22=21+1 from rfl,List.getElem?_cons_succ,List.getElem?_append_right (by rw[Url.len k.uo];exact Nat.le_refl _),Url.len k.uo];rfl
theorem O5 {o:OpR}(k:o.ok)(h:j<21):o.cells[23+j]? =o.req.cells[j]? :=by
 unfold OpR.cells;rw[show 23+j=(22+j)+1 by omega,List.getElem?_cons_succ,List.getElem?_append_right (by rw[Url.len k.uo];omega),Url.len k.uo,show 22+j-21=j+1 by omega,List.getElem?_cons_succ,List.getElem?_append_left (by rw[Req.len k.ro];exact h)]
theorem XW {o:OpR}(k:o.ok):o.cells[44]? =some (vI o.n):=by
 unfold OpR.cells;rw[show 44=43+1 from rfl,List.getElem?_cons_succ,List.getElem?_append_right (by rw[Url.len k.uo];decide),Url.len k.uo,show 43-21=21+1 from rfl,List.getElem?_cons_succ,List.getElem?_append_right (by rw[Req.len k.ro];exact Nat.le_refl _),Req.len k.ro];rfl
structure OpW (o:OpR):Prop where
 uo:o.url.ok
 ro:o.req.host.ok
 hi:o.n <=9223372036854775807
theorem OpW.len {o:OpR}(k:OpW o):o.cells.length=45:=by
 unfold OpR.cells;rw[length_cons,length_append,length_cons,length_append,Url.len k.uo,Req.len k.ro];rfl
theorem Te {o:OpR}(k:OpW o)(h:j<21):o.cells[1+j]? =o.url.cells[j]? :=by
 unfold OpR.cells;rw[Nat.add_comm,List.getElem?_cons_succ,List.getElem?_append_left (by rw[Url.len k.uo];exact h)]
theorem U9 {o:OpR}(k:OpW o):o.cells[22]? =some (vS o.text):=by
 unfold OpR.cells;rw[show 22=21+1 from rfl,List.getElem?_cons_succ,List.getElem?_append_right (by rw[Url.len k.uo];exact Nat.le_refl _),Url.len k.uo];rfl
theorem Tc {o:OpR}(k:OpW o)(h:j<21):o.cells[23+j]? =o.req.cells[j]? :=by
 unfold OpR.cells;rw[show 23+j=(22+j)+1 by omega,List.getElem?_cons_succ,List.getElem?_append_right (by rw[Url.len k.uo];omega),Url.len k.uo,show 22+j-21=j+1 by omega,List.getElem?_cons_succ,List.getElem?_append_left (by rw[Req.len k.ro];exact h)]
def tOp:Ty OpR where
 k:=45
 pos:=by decide
 rep:=λ_ _ vs o=>vs=o.cells/\OpW o
 len:=λh=>by rw[h.1];exact OpW.len h.2
 one:=fun{_ _ _ x} h v hv=>by rw[h.1]at hv;exact OpR.one x v hv
 keep:=λh _=>h
 mono:=λh _=>h
theorem WM:Flat tOp:=λ_ _ _ _ _ _ h=>h
theorem JJ (D:Whl P t 45){a:Option Addr}{l c:Nat}{xs:List OpR}(h:Sl tOp w A a l c xs)(q:i<xs.length):
 (Instr.loadAt t (.pointer (av a (i:Int) 45))).run P w=.ok xs[i].v w/\OpW xs[i]:=by
 obtain⟨vs,h1,e,o⟩:=D.elem (T:=tOp) rfl h q;subst e;exact⟨h1,o⟩
theorem mh:Whl prog aK 45:=⟨⟨_,_,Mw⟩,by kernel_rfl⟩
theorem Yt {o:OpR}(k:OpW o)(w:World):(Instr.buildSlice eF 1 #[(0,o.v)]).run prog w=.ok (.slice (some ⟨w.heap.size,0,none⟩) 1 1) (w.alloc (.cells o.cells.toArray aK)):=by
 obtain⟨E,⟨us,⟨U,V,q⟩,Y,X⟩,O,⟨M,⟨H,I,e⟩,G,D⟩,n⟩:=o;obtain⟨Z,ac,a0,a8,a9,bb,bc,bj,bk,bq,ad,ag,aj,al,an,ar,rfl⟩:=fP q k.uo;obtain⟨bs,b0,b7,b8,b9,ca,cb,cc,ce,cf,b1,b2,b3,b4,b5,b6,rfl⟩:=fP e k.ro;kernel_rfl
section
def Wr:lU:=[115,101,116]
def Wq:lU:=[103,101,116]
def MY:lU:=[116,105,99,107]
def DE:lU:=[99,108,101,97,114]
def QW:lU:=[104,116,116,112]
def K1:lU:=[104,116,116,112,115]
def QX:lU:=[115,97,109,101]
def Ya:lU:=[116,111,112]
def X9:lU:=[115,117,98]
def xz:Req:=⟨false,gO,[],0⟩
def xK:OpR:=⟨4,pd,[],xz,0⟩
def oQ (c:lU):Int:=if c=QX then 0 else if c=Ya then 1 else if c=X9 then 2 else -1
def fm (c:lU):Int:=if c=QW then 0 else if c=K1 then 1 else -1
def Yd (n:Int):lU:=if n=0 then QX else if n=1 then Ya else X9
def Xl (b:Bool):lU:=if b then K1 else QW
def iq (o:OpR):Bool:=
 if o.kind=1 then nN o.url
 else if o.kind=2 then cT o.req.host&&(sq o.req.path&&(decide (0 <=o.req.cross)&&decide (o.req.cross <=2)))
 else if o.kind=3 then decide (0 <=o.n)&&decide (o.n <=1099511627776)
 else true
def Zs (a b:lU):Option OpR:=if(Bg a).2=0 then(unP b).map λt=>⟨1,(Bg a).1,t,xz,0⟩ else none
def Zh (a b c d:lU):Option OpR:=if 0 <=fm a then(bV b).map λh=>⟨2,pd,[],⟨fm a==1,h,c,oQ d⟩,0⟩ else none
def Xu (a:lU):Option OpR:=if uD a then some ⟨3,pd,[],xz,fg a⟩ else none
def fE (s:lU):Option OpR:=
 if([]:lU)∈bR 32 [] s then none else
 match bR 32 [] s with
 |[k]=>if k=DE then some xK else none
 |[k,a]=>if k=MY then(Xu a).filter iq else none
 |[k,a,b]=>if k=Wr then(Zs a b).filter iq else none
 |[k,a,b,c,d]=>if k=Wq then(Zh a b c d).filter iq else none
 |_=>none
variable (urlX:Url->List UInt8)
def Zn (o:OpR):lU:=
 if o.kind=1 then Wr++32::(urlX o.url++32::CW o.text)
 else if o.kind=2 then Wq++32::(Xl o.req.sec++32::(lT o.req.host++32::(o.req.path++32::Yd o.req.cross)))
 else if o.kind=3 then MY++32::AP o.n.toNat
 else DE
def W2 (o:OpR)(again:lU):Option OpR:=if iq o&&(Zn urlX o==again)then some o else none
def qI (f:lU->Option OpR):Nat->List lU->List OpR->List OpR×Int×Int×Int
 |_,[],out=>(out,0,0,0)
 |i,x::r,out=>if i=200 then([],53,(i:Int)+1,1)else match f x with
  |none=>([],131,(i:Int)+1,1)
  |some o=>qI f (i+1) r (out++[o])
def A5 (f:lU->Option OpR)(s:lU):List OpR×Int×Int×Int:=if 20000<s.length then([],54,1,1)else qI f 0 (A0 s) []
end
section
variable {α β:Type} [DecidableEq α]
def KVg (ek:α->Value)(ev:β->Value)(es:List MapEntry)(kvs:List (α×β)):Prop:=es.map (λe=>(e.key,e.val))=kvs.map λp=>(ek p.1,ev p.2)
def uR (ek:α->Value)(ev:β->Value)(w:World)(r:Nat)(kvs:List (α×β)):Prop:=∃es clock,w.heap[r]? =some (.map es clock)/\KVg ek ev es.toList kvs
def dI (k:α):List (α×β)->Option β
 |[]=>none
 |(k',v)::l=>if k=k' then some v else dI k l
def fD (k:α):List (α×β)->Nat->Option (Nat×β)
 |[],_=>none
 |(k',v)::l,i=>if k=k' then some (i,v)else fD k l (i+1)
theorem xg (k:α):∀(l:List (α×β)) (i:Nat),(fD k l i).map (·.2)=dI k l
 |[],_=>rfl
 |(k',v)::l,i=>by
  unfold fD dI;split
  ·rfl
  ·exact xg k l (i+1)
theorem yb (k:α)(v:β)(k':α):∀l:List (α×β),dI k' (l++[(k,v)])=(dI k' l).or (if k'=k then some v else none)
 |[]=>by
  show(if k'=k then some v else none)=_;rfl
 |(x,y)::l=>by
  show(if k'=x then some y else dI k' (l++[(k,v)]))=(if k'=x then some y else dI k' l).or _;split
  ·rfl
  ·exact yb k v k' l
structure qZ (P:Program)(kt:TypeId)(ek:α->Value):Prop where
 check:∀(b:Bool) (k:α) (w:World),(Instr.checkKey b 10000 kt (ek k)).run P w=.ok () w
 find:∀{β:Type} (ev:β->Value) (k:α) (es:List MapEntry) (kvs:List (α×β)) (w:World),KVg ek ev es kvs->(Instr.findKey kt (ek k) es).run P w=.ok ((fD k kvs 0).map λp=>(p.1,ev p.2)) w
theorem qZ.struct {I:Array Field}(V:P.underlying t=some (.struct I)){D:α->Value}(heq:∀a b,eqV P 10000 t (D a) (D b)=some (decide (a=b)))
 (check:∀(b:Bool) (k:α) (w:World),(Instr.checkKey b 10000 t (D k)).run P w=.ok () w):qZ P t D where
 check:=check
 find:=by
  intro β H k q e w h;have ask:∀(q:List MapEntry) (e:List (α×β)) (i:Nat),KVg D H q e->(Instr.findAsking t (D k) q i).run P w=.ok ((fD k e i).map λp=>(p.1,H p.2)) w:=by
   intro q;induction q with
   |nil=>
    intro e i h;have:e=[]:=by unfold KVg at h;simp at h;exact h
    subst this;rfl
   |cons E q Y=>
    intro e i h;cases e with
    |nil=>unfold KVg at h;simp at h
    |cons p e=>
     obtain⟨k',v⟩:=p;unfold KVg at h;simp only[map_cons,List.cons.injEq,Prod.mk.injEq]at h;obtain⟨⟨O,X⟩,U⟩:=h;unfold Instr.findAsking fD;rw[O];have M:(Op.equal t (D k) (D k')).run P w=.ok (decide (k=k')) w:=Rx 10000 t _ _ _ w (heq k k');rw[Sem.run_bind,M,Result.andThen_ok];by_cases G:k=k'
     ·simp[G,X]
     ·simp only[G,decide_false,if_false];exact Y e (i+1) U
  unfold Instr.findKey;rw[Sem.run_bind,bQ V,Result.andThen_ok];cases q with
  |nil=>
   have:e=[]:=by unfold KVg at h;simp at h;exact h
   subst this;rfl
  |cons E q=>exact ask (E::q) e 0 h
variable {ek:α->Value} {ev:β->Value}
theorem uR.below {w w':World}{r:Nat}{kvs:List (α×β)}(h:uR ek ev w r kvs)(D:bW w w'):uR ek ev w' r kvs:=by
 obtain⟨q,c,e,E⟩:=h;exact⟨q,c,(D.block r (Array.getElem?_eq_some_iff.1 e).1).trans e,E⟩
theorem uR.lt {r:Nat}{q:List (α×β)}(h:uR ek ev w r q):r<w.heap.size:=by
 obtain⟨D,c,e,E⟩:=h;exact(Array.getElem?_eq_some_iff.1 e).1
theorem uR.keep {w w':World}{r:Nat}{kvs:List (α×β)}(h:uR ek ev w r kvs)(q:w'.heap[r]? =w.heap[r]?):uR ek ev w' r kvs:=by
 obtain⟨e,c,D,E⟩:=h;exact⟨e,c,q.trans D,E⟩
theorem uR.grown {w w':World}{r:Nat}{kvs:List (α×β)}(h:uR ek ev w r kvs)(q:w.grownBy w' (some k))(D:r≠k):uR ek ev w' r kvs:=h.keep (q.block r h.lt λe=>D (Option.some.inj e))
theorem uR.new {w w':World}{r:Nat}(e:r=w.heap.size)(q:w'=w.alloc (.map #[] 0)):uR ek ev w' r []:=by
 subst e q;exact⟨#[],0,heap_alloc_new w _,rfl⟩
theorem qo {r:Nat}{e:Array MapEntry}{c:Nat}(h:w.heap[r]? =some (.map e c)):(getObj r).run P w=.ok (.map e c) w:=by
 simp only[getObj,Sem.run,h]
theorem uR.look2 {G E q:TypeId}{n bytes:Nat}{z:Value}(U:P.underlying G=some (.map E q))(D:qZ P E ek)(H:TF P q n bytes z){r:Nat}{e:List (α×β)}(h:uR ek ev w r e)(k:α):
 (Instr.lookup G (.map (some r)) (ek k) true).run P w=.ok (.tuple #[((dI k e).map ev).getD z,.bool (dI k e).isSome]) w:=by
 obtain⟨X,c,I,O⟩:=h;obtain⟨i,M,_,_,V⟩:=H.info;unfold Instr.lookup;simp only[Sem.run_bind,bQ U,Result.andThen_ok,qo I,Sem.run_pure,D.check,D.find ev k _ _ _ O];rw[<- xg k e 0];cases fD k e 0 with
 |none=>simp[zeroValue,qx M,V]
 |some p=>simp
theorem uR.look1 {G E q:TypeId}{n bytes:Nat}{z:Value}(U:P.underlying G=some (.map E q))(D:qZ P E ek)(H:TF P q n bytes z){r:Nat}{e:List (α×β)}(h:uR ek ev w r e)(k:α):
 (Instr.lookup G (.map (some r)) (ek k) false).run P w=.ok (((dI k e).map ev).getD z) w:=by
 obtain⟨X,c,I,O⟩:=h;obtain⟨i,M,_,_,V⟩:=H.info;unfold Instr.lookup;simp only[Sem.run_bind,bQ U,Result.andThen_ok,qo I,Sem.run_pure,D.check,D.find ev k _ _ _ O];rw[<- xg k e 0];cases fD k e 0 with
 |none=>simp[zeroValue,qx M,V]
 |some p=>simp
theorem uR.put {I H O:TypeId}(V:P.underlying I=some (.map H O))(G:qZ P H ek){r:Nat}{e:List (α×β)}(h:uR ek ev w r e){k:α}(Y:dI k e=none)(v:β):
 ∃w',(Instr.mapUpdate I (.map (some r)) (ek k) (ev v)).run P w=.ok () w'/\uR ek ev w' r (e++[(k,v)])/\w.grownBy w' (some r):=by
 obtain⟨E,c,q,D⟩:=h;have U:r<w.heap.size:=(Array.getElem?_eq_some_iff.1 q).1;have Z:fD k e 0=none:=by
  have:=xg k e 0;rw[Y]at this;simpa using this
 refine⟨{ w with heap:=w.heap.setIfInBounds r (.map (E.push { key:=ek k,val:=ev v,born:=c }) (c+1)) },?_,⟨E.push { key:=ek k,val:=ev v,born:=c },c+1,by simp[U],?_⟩,⟨rfl,rfl,rfl,by simp,λj ac X=>?_⟩⟩
 ·unfold Instr.mapUpdate;simp only[Sem.run_bind,bQ V,Result.andThen_ok,qo q,G.check,G.find ev k _ _ _ D,Z,Option.map_none];simp only[setObj,Sem.run,q]
 ·unfold KVg at D ⊢;simp only[Array.toList_push,map_append,map_cons,map_nil,D]
 ·have:r≠j:=λM=>X (by rw[M]);simp[Array.getElem?_setIfInBounds_ne this]
end
def evS (s:lU):Value:=vS s
def evN (n:Int):Value:=vI n
theorem qZ.str (G:P.underlying t=some .string):qZ P t evS where
 check:=by
  intro b k w;unfold Instr.checkKey;rw[Sem.run_bind,bQ G,Result.andThen_ok];rfl
 find:=by
  intro Y E k q e w h;have X:∀(q:List MapEntry) (e:List (lU×Y)) (i:Nat),KVg evS E q e->Instr.findNow .string (evS k) q i=some ((fD k e i).map λp=>(p.1,E p.2)):=by
   intro q;induction q with
   |nil=>
    intro e i h;have:e=[]:=by unfold KVg at h;simp at h;exact h
    subst this;rfl
   |cons Z q V=>
    intro e i h;cases e with
    |nil=>unfold KVg at h;simp at h
    |cons p e=>
     obtain⟨k',v⟩:=p;unfold KVg at h;simp only[map_cons,List.cons.injEq,Prod.mk.injEq]at h;obtain⟨⟨M,U⟩,O⟩:=h;unfold Instr.findNow fD;rw[M];have I:Instr.sameNow .string (evS k) (evS k')=some (decide (k=k')):=by
      have H:(mkS k==mkS k')=(k==k'):=by
       show((mkS k).data==(mkS k').data)=_;simp[mkS]
      show some (mkS k==mkS k')=_;rw[H];congr 1;rw[Bool.eq_iff_iff];simp
     rw[I];by_cases D:k=k'
     ·simp[D,U]
     ·simp only[D,decide_false,if_false];exact V e (i+1) O
  unfold Instr.findKey;rw[Sem.run_bind,bQ G,Result.andThen_ok,X q e 0 h];rfl
theorem EV (a:lU){w K}(h:uL dN #[vS a,.int .u8 10] w λb c d e=>∃f:FP [.one .slice],((bx (i64.wrap ((c:Int)-1)) (c:Int)/\Option.isSome b=true)/\∃g,Ld ak (av b (i64.wrap ((c:Int)-1)) 1) e (vS g)/\af (g==[]) (bd (i64.wrap ((c:Int)-1)) (d:Int)/\f b (Int.toNat (i64.wrap ((c:Int)-1))) d e) (f b c d e))/\∀g i j,aQ 12 (∀k,f g i j k->∃l:Nat->FP [shI],(∃m,l m (0:Int) k)/\∀m n,aQ 12 (∀o,l m n o->af (decide (n<(i:Int))) ((bx n (i:Int)/\Option.isSome g=true)/\∃p,Ld ak (av g n 1) o (vS p)/\uS li #[vS p,vS [13]] o λq r=>(bx n (i:Int)/\Option.isSome g=true)/\∃s,Sv ak (av g n 1) (vS q) r s/\∃t:Nat,t<m/\l t (i64.wrap (n+1)) s) (uL gE #[.slice g i j] o λp q r s=>K (.slice p q r) s)))):Cf pU #[vS a] w (Ret K):=ru func19 [(4,[(3,.one .slice)]),(14,[(21,shI)])] h
theorem EY (a:lU){w K}(h:uL dN #[vS a,.int .u8 32] w λb c d e=>uB fC #[.slice b c d,vS []] e λf g=>af f (K (.tuple #[.slice none 0 0,.bool false]) g) (K (.tuple #[.slice b c d,.bool true]) g)):Cf pV #[vS a] w (Ret K):=ru func47 [] h
theorem Hh (a:lU){w K}(h:af (a==[]) (K (vS [37]) w) (∃b c d e,(convert ak aV (vS a)).run prog w=.ok (.slice c d e) b/\∃f:Nat->FP [.one .slice,shI],(∃g,f g none 0 0 (0:Int) b)/\∀g i j k l,aQ 28 (∀m,f g i j k l m->af (decide (l<(d:Int))) ((bx l (d:Int)/\Option.isSome c=true)/\∃n,Ld bp (av c l 1) m (.int .u8 n)/\∃o:FP [shB],(af (decide (n>(32:Int))) (af (decide (n<(127:Int))) (o (n !=37) m) (o false m)) (o false m))/\∀p,aQ 9 (∀q,o p q->af p (nA q (.cells #[.int .u8 n] bp) λr s=>∃t u v x,(Builtin.append_ #[aV,aV] aV #[.slice i j k,.slice (vA r 0) 1 1]).run prog s=.ok (.slice u v x) t/\∃y:Nat,y<g/\f y u v x (i64.wrap (l+1)) t) ((0 <=(4:Int))/\bx (Int.fdiv n (2 ^ (min (Int.toNat 4) (IntKind.bits .u8)))) ((length [48,49,50,51,52,53,54,55,56,57,65,66,67,68,69,70]:Nat):Int)/\bx (IntKind.u8.wrap (((BitVec.ofInt (IntKind.bits .u8) n) &&& (BitVec.ofInt (IntKind.bits .u8) (15:Int))).toNat:Nat)) ((length [48,49,50,51,52,53,54,55,56,57,65,66,67,68,69,70]:Nat):Int)/\∀r,q.heap.size <=r->∀s,bW q s->s.heap[r]? =some (.cells #[.int .u8 37,.int .u8 (be [48,49,50,51,52,53,54,55,56,57,65,66,67,68,69,70] (Int.fdiv n (2 ^ (min (Int.toNat 4) (IntKind.bits .u8))))),.int .u8 (be [48,49,50,51,52,53,54,55,56,57,65,66,67,68,69,70] (IntKind.u8.wrap (((BitVec.ofInt (IntKind.bits .u8) n) &&& (BitVec.ofInt (IntKind.bits .u8) (15:Int))).toNat:Nat)))] bp)->∃t u v x,(Builtin.append_ #[aV,aV] aV #[.slice i j k,.slice (vA r 0) 3 3]).run prog s=.ok (.slice u v x) t/\∃y:Nat,y<g/\f y u v x (i64.wrap (l+1)) t))) (∃n,(convert aV ak (.slice i j k)).run prog m=.ok (vS n) m/\K (vS n) m)))):Cf ny #[vS a] w (Ret K):=ru func26 [(16,[(3,.one .slice),(11,shI)]),(27,[(24,shB)]),(3000031,[(0,shB),(1,shB),(2,shB),(4,shB),(5,shB),(3,shB),(6,shB),(7,shB)])] h
theorem Hi (a:Int){w K}(h:uI eK #[vS [48,49,50,51,52,53,54,55,56,57,65,66,67,68,69,70],.int .u8 a] w λb c=>K (.int .u8 (IntKind.u8.wrap b)) c):Cf nB #[.int .u8 a] w (Ret K):=ru func260 [] h
theorem Cz (a:lU){w K}(h:uS li #[vS a,vS [37]] w λb c=>∃d:Nat->FP [.one .slice,.one .str],(∃e,d e none 0 0 b c)/\∀e f g i j,aQ 29 (∀k,d e f g i j k->af (!(j==[])) (bx (0:Int) ((length j:Nat):Int)/\∃l:FP [.one (.int .u8),shI],(af ((be j (0:Int))==37) (af (decide (((length j:Nat):Int)<(3:Int))) (K (.tuple #[vS [],.bool false]) k) (bx (1:Int) ((length j:Nat):Int)/\∃m,(∀n,bW k n->Cf nB #[.int .u8 (be j (1:Int))] n λo p=>o=.returned (.int .u8 m)/\Below k.heap.size n p)/\(0 <=(4:Int))/\bx (2:Int) ((length j:Nat):Int)/\∃n,(∀o,bW k o->Cf nB #[.int .u8 (be j (2:Int))] o λp q=>p=.returned (.int .u8 n)/\Below k.heap.size o q)/\∀o,bW k o->l (IntKind.u8.wrap (((BitVec.ofInt (IntKind.bits .u8) (IntKind.u8.wrap (m*2 ^ (min (Int.toNat 4) (IntKind.bits .u8))))) ||| (BitVec.ofInt (IntKind.bits .u8) (IntKind.u8.wrap (((BitVec.ofInt (IntKind.bits .u8) n) &&& (BitVec.ofInt (IntKind.bits .u8) (15:Int))).toNat:Nat)))).toNat:Nat)) (3:Int) o)) (l (be j (0:Int)) (1:Int) k))/\∀m n,aQ 16 (∀o,l m n o->nA o (.cells #[.int .u8 m] bp) λp q=>∃r s t u,(Builtin.append_ #[aV,aV] aV #[.slice f g i,.slice (vA p 0) 1 1]).run prog q=.ok (.slice s t u) r/\bd n (((length j):Nat):Int)/\∀v,v=(List.drop (Int.toNat n) j)->∃x:Nat,x<e/\d x s t u v r)) (∃l,(convert aV ak (.slice f g i)).run prog k=.ok (vS l) k/\uS ny #[vS l] k λm n=>af (!(m==a)) (K (.tuple #[vS [],.bool false]) n) (∃o,(convert aV ak (.slice f g i)).run prog n=.ok (vS o) n/\K (.tuple #[vS o,.bool true]) n)))):Cf oq #[vS a] w (Ret K):=ru func179 [(8,[(4,.one .slice),(5,.one .str)]),(18,[(6,.one (.int .u8)),(7,shI)])] h
theorem E8 (a:Int){w K}(h:af (decide (a<(10:Int))) (K (.int .u8 (IntKind.u8.wrap (i64.wrap ((48:Int)+a)))) w) (K (.int .u8 (IntKind.u8.wrap (i64.wrap ((55:Int)+a)))) w)):Cf lJ #[vI a] w (Ret K):=ru func86 [] h
theorem Hl (a:lU){w K}(h:nA w (.cells #[] bp) λb c=>∃d:Nat->FP [.one .slice,shI],(∃e,d e (vA b 0) 0 0 (0:Int) c)/\∀e f g i j,aQ 43 (∀k,d e f g i j k->af (decide (j<((length a:Nat):Int))) (∃l:FP [shB],(bx j ((length a:Nat):Int)/\af (decide ((be a j) >=33)) (bx j ((length a:Nat):Int)/\af (decide ((be a j) <=126)) (bx j ((length a:Nat):Int)/\l ((be a j) !=37) k) (l false k)) (l false k))/\∀m,aQ 15 (∀n,l m n->af m (bx j ((length a:Nat):Int)/\nA n (.cells #[.int .u8 (be a j)] bp) λo p=>∃q r s t,(Builtin.append_ #[aV,aV] aV #[.slice f g i,.slice (vA o 0) 1 1]).run prog p=.ok (.slice r s t) q/\∃u:Nat,u<e/\d u r s t (i64.wrap (j+1)) q) (bx j ((length a:Nat):Int)/\((16:Int)≠0)/\∀o,o=(i64.wrap (Int.tdiv (i64.wrap (be a j)) (16:Int)))->∃p,(∀q,bW n q->Cf lJ #[vI o] q λr s=>r=.returned (.int .u8 p)/\bW q s)/\bx j ((length a:Nat):Int)/\((16:Int)≠0)/\∀q,q=(Int.tmod (i64.wrap (be a j)) (16:Int))->∃r,(∀s,bW n s->Cf lJ #[vI q] s λt u=>t=.returned (.int .u8 r)/\bW s u)/\∀s,n.heap.size <=s->∀t,bW n t->t.heap[s]? =some (.cells #[.int .u8 37,.int .u8 p,.int .u8 r] bp)->∃u v x y,(Builtin.append_ #[aV,aV] aV #[.slice f g i,.slice (vA s 0) 3 3]).run prog t=.ok (.slice v x y) u/\∃z:Nat,z<e/\d z v x y (i64.wrap (j+1)) u))) (af ((g:Int)==0) (K (vS [37]) k) (∃l,(convert aV ak (.slice f g i)).run prog k=.ok (vS l) k/\K (vS l) k)))):Cf rK #[vS a] w (Ret K):=ru func34 [(8,[(3,.one .slice),(4,shI)]),(17,[(27,shB)]),(3000021,[(0,shB),(1,shB),(2,shB),(7,shB),(8,shB),(3,shB),(4,shB),(5,shB),(6,shB),(9,shB),(10,shB),(11,shB),(12,shB),(13,shB)])] h
theorem Hj (a:Option Addr)(b c:Nat)(d:Option Addr)(e f:Nat){w K}(h:af ((b:Int) !=(e:Int)) (K (.bool false) w) (∃g:Nat->FP [shI],(∃i,g i (0:Int) w)/\∀i j,aQ 14 (∀k,g i j k->af (decide (j<(b:Int))) ((bx j (b:Int)/\Option.isSome a=true)/\∃l,(∀m,bW k m->Ld ak (av a j 1) m (vS l))/\(bx j (e:Int)/\Option.isSome d=true)/\∃m,(∀n,bW k n->Ld ak (av d j 1) n (vS m))/\∀n,bW k n->af (!(l==m)) (K (.bool false) n) (∃o:Nat,o<i/\g o (i64.wrap (j+1)) n)) (K (.bool true) k)))):Cf nC #[.slice a b c,.slice d e f] w (Ret K):=ru func13 [(14,[(13,shI)])] h
theorem SF {x y:lU}(h:mkS x=mkS y):x=y:=by
 have:=congrArg (λb:ByteArray=>b.data.toList) h;simpa[mkS]using this
theorem M5 {a:Option Addr}{n c:Nat}{xs:List lU}(I:Sl tS w A a n c xs)(H:xs≠[]):
 ∃b off,a=some ⟨b,off,none⟩/\∀j,j<(xs.map mkS).length->w.cell? ⟨b,off+j,none⟩=some (.string ((xs.map mkS).getD j ByteArray.empty)):=by
 obtain⟨U,V,O,q⟩:=I;rcases q with q|⟨b,off,rfl,M,_,cs,G,E⟩
 ·exact absurd q H
 ·have D:=j0 G;refine⟨b,off,rfl,λj e=>?_⟩;rw[length_map]at e;rw[E j (by rw[D];simpa using e),D,List.getElem?_map,List.getElem?_eq_getElem e,List.getD_eq_getElem?_getD,List.getElem?_map,List.getElem?_eq_getElem e];rfl
theorem Tf {B n:Nat}{v:Value}{xs:List lU}(h:w.ownsRow B t 1 v n (xs.map λx=>vS x))(G:n=xs.length):
 ∃a c,v=.slice a n c/\Ow tS t w NoB a n c xs/\bU B a:=by
 rcases h.2 with⟨rfl,e⟩|⟨g,cap,cur,rfl,O,q,D,E,H,I⟩
 ·have:xs=[]:=List.eq_nil_of_length_eq_zero (by omega);subst this;exact⟨none,0,by rw[e],by rw[e];exact Ow.nil _ _ _ _,bU.none _⟩
 ·refine⟨_,cap,rfl,⟨G,D,E,.inr ⟨g,cur,(0,0),rfl,q,λi _=>by simp,by show cur.size=cap*1;simpa using H,?_⟩⟩,λx M=>by simp[eP]at M;omega⟩;show gy _ _ _ (cur.toList.take (n*1)) xs;rw[I];exact nq λ_ _=>trivial
theorem gy.takeJ {α:Type}{T:Ty α}{l:List Value}{xs:List α}(h:gy T w A l xs)(e:j <=xs.length):gy T w A (l.take (j*T.k)) (xs.take j):=by
 have E:j*T.k <=xs.length*T.k:=Nat.mul_le_mul_right _ e;refine⟨by rw[length_take,length_take,h.len,Nat.min_eq_left E,Nat.min_eq_left e],λi q=>?_⟩;rw[length_take,Nat.min_eq_left e]at q;have:=h.rep i (by omega);have D:(i+1)*T.k <=j*T.k:=Nat.mul_le_mul_right _ q;rw[Nat.succ_mul]at D;rw[List.getElem_take,List.drop_take,take_take,Nat.min_eq_left (by omega)];exact this
theorem Ow.takeJ {α:Type}{T:Ty α}{a:Option Addr}{n c:Nat}{xs:List α}(h:Ow T t w A a n c xs)(e:j <=xs.length):Ow T t w A a j c (xs.take j):=by
 obtain⟨V,Z,M,I⟩:=h;refine⟨by rw[length_take,Nat.min_eq_left e],by omega,M,?_⟩;rcases I with⟨D,E,G⟩|⟨g,cur,H,q,U,O,Y,X⟩
 ·exact .inl ⟨D,E,by rw[G];simp⟩
 ·refine .inr ⟨g,cur,H,q,U,O,Y,?_⟩;have:=X.takeJ e
  rwa [take_take,Nat.min_eq_left (by rw[V];exact Nat.mul_le_mul_right _ e)]at this
theorem M6 {a:Option Addr}{n c:Nat}{xs:List lU}(q:Sl tS w A a n c xs)(x:lU)(H:xs.length <=9223372036854775807):
 Cf fC #[.slice a n c,vS x] w (Ret λv w'=>v=.bool (decide (x∈xs))/\w'=w):=by
 have G:=q.1;subst G;by_cases e:xs=[]
 ·subst e;refine(Tryz.slices_Contains_string_empty a c (mkS x) w).mono ?_;rintro _ _ ⟨rfl,rfl⟩;exact⟨_,rfl,by simp,rfl⟩
 ·obtain⟨b,off,rfl,E⟩:=M5 q e;refine(Tryz.slices_Contains_string b off xs.length c (xs.map mkS) (mkS x) w (by simp) H E).mono ?_;rintro _ _ ⟨rfl,rfl⟩;refine⟨_,rfl,?_,rfl⟩;congr 1;rw[Bool.eq_iff_iff,Lib.containsS_iff,dTx,take_of_length_le (by simp),List.mem_map];exact⟨λ⟨y,I,D⟩=>SF D▸I,λh=>⟨x,h,rfl⟩⟩
theorem GL (s:lU)(G:s.length <=10000000)(w:World)(D:Env w):
 Cf pV #[vS s] w (Ret λv w'=>(if([]:lU)∈bR 32 [] s then v=.tuple #[.slice none 0 0,.bool false]else ∃a n c,v=.tuple #[.slice a n c,.bool true]/\Ow tS ak w' NoB a n c (bR 32 [] s)/\bU w.heap.size a)/\bW w w'):=by
 apply EY;refine aA (eB s 32 (by omega) w D) ?_;rintro _ H ⟨a,n,c,rfl,q,E,e⟩;refine⟨_,_,_,rfl,?_⟩;refine aA (M6 q.all [] (by have:=dJ 32 s [];omega)) ?_;rintro _ I ⟨rfl,rfl⟩;refine⟨_,rfl,af.of (λh=>?_) (λh=>?_)⟩
 ·refine⟨?_,e⟩;rw[if_pos (of_decide_eq_true h)]
 ·refine⟨?_,e⟩;rw[if_neg (of_decide_eq_false h)];exact⟨_,_,_,rfl,q,E⟩
theorem Uk {a:Option Addr}{n c:Nat}{xs:List lU}(H:Ow tS ak w NoB a n c xs)(V:xs.length <=100000000):
 Cf gE #[.slice a n c] w (Ret λv w'=>∃a' I c',v=.slice a' I c'/\Ow tS ak w' NoB a' I c' xs/\bU w.heap.size a'/\bW w w'):=by
 have O:=H.len;subst O;by_cases G:xs=[]
 ·subst G;cases a with
  |none=>
   refine(Tryz.slices_Clone_string_nil 0 c w).mono ?_;rintro _ _ ⟨rfl,rfl⟩;exact⟨_,rfl,_,_,_,rfl,Ow.nil _ _ _ _,bU.none _,Below.refl _ _⟩
  |some a=>
   refine(Tryz.slices_Clone_string_zero a c w).mono ?_;rintro _ w' ⟨U,rfl,e,_,q⟩;obtain⟨a',c',rfl,E,D⟩:=Tf (xs:=[]) e rfl;exact⟨_,rfl,_,_,_,rfl,E,D,q⟩
 ·obtain⟨b,off,rfl,M⟩:=M5 H.all G;refine(Tryz.slices_Clone_string b off xs.length c (xs.map mkS) w (by simp) (by omega) M).mono ?_;rintro _ w' ⟨U,rfl,e,_,q⟩;rw[take_of_length_le (by simp),List.map_map]at e;obtain⟨a',c',rfl,E,D⟩:=Tf (xs:=xs) e rfl;exact⟨_,rfl,_,_,_,rfl,E,D,q⟩
theorem Qs {L:List lU}{f:lU->lU}(h:k<L.length):((L.take k).map f++L.drop k).set k (f L[k])=(L.take (k+1)).map f++L.drop (k+1):=by
 rw[List.set_append_right _ _ (by simp;omega),length_map,length_take,Nat.min_eq_left (by omega),Nat.sub_self,drop_eq_getElem_cons h,List.set_cons_zero,take_succ_eq_append_getElem h,map_append,append_assoc];rfl
theorem GK (s:lU)(cf:s.length <=10000000)(w:World)(bk:Env w):
 Cf pU #[vS s] w (Ret λv w'=>∃a n ac,v=.slice a n ac/\Ow tS ak w' NoB a n ac (A0 s)/\bU w.heap.size a/\bW w w'):=by
 apply EV;refine aA (eB s 10 (by omega) w bk) ?_;rintro _ ar ⟨a,n,c,rfl,q,bq,bc⟩;have b3:=q.len;subst b3;refine⟨_,_,_,rfl,?_⟩;have U:=gT 10 s [];have O:=dJ 10 s [];have V:=ia 10 s [];have I:A0 s=((if(bR 10 [] s).getLast?=some []then(bR 10 [] s).dropLast else bR 10 [] s)).map BW:=rfl;revert q U O V I;generalize bR 10 [] s=L;intro q U O V I;have X:0<L.length:=List.length_pos_iff.2 U;have ca:=q.2.1;have a8:i64.wrap (((L.length:Nat):Int)-1)=((L.length-1:Nat):Int):=by rw[wrJ];omega
 refine⟨λa3 an M w'=>w'=ar/\∃e:List lU,A0 s=e.map BW/\(∀x∈e,x.length <=s.length)/\e.length <=s.length+1/\a3=a/\Ow tS ak ar NoB a3 an M e,?_,?_⟩
 ·obtain⟨v,E,Y⟩:=q.all.load1 (i:=((L.length-1:Nat):Int)) ax rfl rfl (by simp;omega);obtain⟨rfl,_⟩:=iX Y;simp only[Int.toNat_natCast]at E;rw[a8];refine⟨⟨⟨by omega,by omega⟩,q.all.isSome (i:=0) X⟩,_,E,?_⟩;have ag:∀x∈L,x.length <=s.length:=λx Z=>by have:=V x Z;simpa using this
  refine af.of (λh=>?_) (λh=>?_)
  ·have h:L[L.length-1]'(by omega)=[]:=eq_of_beq h;refine⟨⟨by omega,by omega⟩,rfl,L.dropLast,?_,λx Z=>ag x (List.dropLast_subset _ Z),by rw[List.length_dropLast];omega,rfl,?_⟩
   ·rw[I,if_pos (Ig X h)]
   ·rw[List.dropLast_eq_take,Int.toNat_natCast];exact q.takeJ (by omega)
  ·refine⟨rfl,L,?_,ag,O,rfl,q⟩;rw[I,if_neg];rw[Ig X rfl];intro a0;rw[Option.some.inj a0]at h;cases h
 ·intro a3 an M;refine aQ.of ?_ _;rintro cj ⟨rfl,e,a9,bb,b9,rfl,al⟩;have b2:=al.len;subst b2;refine⟨λm i w'=>∃k:Nat,k <=e.length/\i=(k:Int)/\m=e.length-k/\Ow tS ak w' NoB a3 e.length M ((e.take k).map BW++e.drop k)/\bW w w',
   ⟨_,0,by omega,rfl,rfl,al,bc⟩,?_⟩
  intro m i;refine aQ.of ?_ _;rintro b6 ⟨k,cb,rfl,rfl,D,G⟩;have ad:((e.take k).map BW++e.drop k).length=e.length:=by simp;omega
  refine af.of (λh=>?_) (λh=>?_)<;>simp only[dTx,dFx]at h
  ·have H:k<e.length:=by omega
   have b1:((e.take k).map BW++e.drop k)[k]'(by omega)=e[k]:=by
    rw[List.getElem_append_right (by simp;omega)];simp[Nat.min_eq_left (Nat.le_of_lt H)]
   obtain⟨v,E,Y⟩:=D.all.load1 (i:=(k:Int)) ax rfl rfl (by rw[Int.toNat_natCast,ad];exact H);obtain⟨rfl,_⟩:=iX Y;simp only[Int.toNat_natCast]at E;rw[b1]at E;have ce:=bb e[k] (getElem_mem H);refine⟨⟨⟨by omega,h⟩,D.all.isSome (i:=k) (by omega)⟩,_,E,?_⟩;refine(Tryz.strings_TrimSuffix (mkS e[k]) (mkS [13]) b6 (by show(e[k]).length <=_;omega)).mono ?_;rintro _ b7 ⟨rfl,rfl⟩;refine⟨BW e[k],?_,⟨⟨by omega,h⟩,D.all.isSome (i:=k) (by omega)⟩,?_⟩
   ·show Ending.returned (vS (Lib.trimSuffix e[k] [13]))=_;rw[(Di e[k] 13).2,BW];split
    ·rw[List.dropLast_eq_take]
    ·rfl
   ·obtain⟨b8,b5,aj,b0⟩:=D.store (P:=prog) cK (λ_ _ h=>h) (i:=(k:Int)) (by rw[Int.toNat_natCast,ad];exact H) (k:=1) rfl (v:=vS (BW e[k])) (x:=BW e[k]) (gB trivial);refine⟨b8,b5,e.length-(k+1),by omega,k+1,by omega,by rw[wrJ];omega,rfl,?_,G.grown b0 G.size bq⟩;rw[Int.toNat_natCast,Qs H]at aj;exact aj
  ·have:k=e.length:=by omega
   subst this;rw[take_length,List.drop_length,append_nil,<- a9]at D;have cc:=D.len;refine aA (Uk D (by omega)) ?_;rintro _ b7 ⟨a',ch,c',rfl,b4,bs,bj⟩;exact⟨_,_,_,rfl,_,_,_,rfl,b4,bs.mono G.size,ae G bj G.size⟩
theorem yq {Y U:Nat}{xs:List lU}{Z V:Nat}{ys:List lU}(D:Sl tS w A p Y U xs)(O:Sl tS w B q Z V ys)(an:xs.length <=9223372036854775800):
 Cf nC #[.slice p Y U,.slice q Z V] w (Ret λv w'=>v=.bool (decide (xs=ys))/\bW w w'):=by
 have ag:=D.1;have ad:=O.1;subst ag ad;apply Hj;refine af.of (λh=>?_) (λh=>?_)
 ·refine⟨?_,Below.refl _ _⟩;rw[decide_eq_false];rintro rfl;simp at h
 have ac:xs.length=ys.length:=by
  have:((xs.length:Nat):Int)=((ys.length:Nat):Int):=by simpa using h
  omega
 refine⟨λm i w'=>∃k:Nat,k <=xs.length/\i=(k:Int)/\m=xs.length-k/\xs.take k=ys.take k/\bW w w',⟨_,0,by omega,rfl,rfl,rfl,Below.refl _ _⟩,?_⟩;intro m i;refine aQ.of ?_ _;rintro ar ⟨k,al,rfl,rfl,heq,hB⟩;refine af.of (λE=>?_) (λE=>?_)<;>simp only[dTx,dFx]at E
 ·have G:k<xs.length:=by omega
  refine⟨⟨⟨by omega,E⟩,D.isSome G⟩,xs[k],λu I=>?_,⟨⟨by omega,by omega⟩,O.isSome (i:=k) (by omega)⟩,ys[k]'(by omega),λu I=>?_,?_⟩
  ·obtain⟨v,M,H⟩:=(D.below (ae hB I hB.size)).load1 (P:=prog) (i:=(k:Int)) ax rfl rfl (by simpa using G);obtain⟨rfl,_⟩:=iX H;exact M
  ·obtain⟨v,M,H⟩:=(O.below (ae hB I hB.size)).load1 (P:=prog) (i:=(k:Int)) ax rfl rfl (by simp;omega);obtain⟨rfl,_⟩:=iX H;exact M
  ·intro a0 aj;have X:=ae hB aj hB.size;refine af.of (λe=>?_) (λe=>?_)
   ·refine⟨?_,X⟩;rw[decide_eq_false];rintro rfl;simp at e
   ·have e:xs[k]=ys[k]'(by omega):=by simpa using e
    refine⟨xs.length-(k+1),by omega,k+1,by omega,by have:=D.2.1;have:=D.2.2.1;rw[wrJ];omega,rfl,?_,X⟩;rw[take_succ_eq_append_getElem G,take_succ_eq_append_getElem (by omega),heq,e]
 ·have:k=xs.length:=by omega
  subst this;refine⟨?_,hB⟩;rw[take_length,ac,take_length]at heq;rw[decide_eq_true heq]
def qF (P:Program)(v:Value)(args:Array Value)(w:World)(R:Ending->World->Prop):Prop:=
 match(match v with
  |.func (.func f) first captured=>if xH P f then some (f,(first.toList++(args.toList++captured.toList)).toArray)else none
  |_=>none:Option (FuncId×Array Value))with
 |some (f,l)=>Calls P f l w R
 |none=>False
theorem qF.of {f:FuncId}{args:Array Value}{R:Ending->World->Prop}(e:xH P f=true)(h:Calls P f args w R):qF P (.func (.func f) #[] #[]) args w R:=by
 unfold qF;show(match(if xH P f then some (f,_)else none:Option (FuncId×Array Value))with|some (f,l)=>Calls P f l w R|none=>False);rw[if_pos e];simpa using h
theorem yB {w K}(h:nA w (.cells #[vS [115,97,109,101],vS [116,111,112],vS [115,117,98]] ak) λa b=>K (.slice (vA a 0) 3 3) b):Cf bZ #[] w (Ret K):=ru func92 [] h
theorem yD {w K}(h:nA w (.cells #[vS [104,116,116,112],vS [104,116,116,112,115]] ak) λa b=>K (.slice (vA a 0) 2 2) b):Cf dE #[] w (Ret K):=ru func90 [] h
theorem Fz (a:Int){w K}(h:af (a==0) (K (vS [111,107]) w) (uS kw #[vI a] w λb c=>(((length [101,114,114,111,114,32]+length b:Nat):Int) <=i64.max)/\∀d,d=([101,114,114,111,114,32]++b)->K (vS d) c)):Cf fX #[vI a] w (Ret K):=ru func24 [] h
theorem yC {w K}(h:nA w (.map #[] 0) λa b=>∃c,(Instr.mapUpdate aW (.map (some a)) (vS [115,101,116]) (.agg #[vI 2,.func (.func je) #[] #[]])).run prog b=.ok () c/\∃d,(Instr.mapUpdate aW (.map (some a)) (vS [103,101,116]) (.agg #[vI 4,.func (.func jd) #[] #[]])).run prog c=.ok () d/\∃e,(Instr.mapUpdate aW (.map (some a)) (vS [116,105,99,107]) (.agg #[vI 1,.func (.func ig) #[] #[]])).run prog d=.ok () e/\∃f,(Instr.mapUpdate aW (.map (some a)) (vS [99,108,101,97,114]) (.agg #[vI 0,.func (.func dK) #[] #[]])).run prog e=.ok () f/\K (.map (some a)) f):Cf dD #[] w (Ret K):=ru func48 [] h
theorem sI (a:Option Addr)(b c:Nat){w K}(h:nA w (.cells eV aK) λd e=>∃f,Sv aK (vA d 0) (.agg #[vI 4,.bool false,vI 0,vS [],u0,u0,u0,u0,u0,u0,u0,u0,u0,u0,u0,u0,u0,u0,u0,u0,vI 0,vS [],vS [],.bool false,vI 0,vS [],u0,u0,u0,u0,u0,u0,u0,u0,u0,u0,u0,u0,u0,u0,u0,u0,vS [],vI 0,vI 0]) e f/\∃g,Rv aK (vA d 0) f g/\K (.tuple #[g,.bool true]) f):Cf dK #[.slice a b c] w (Ret K):=ru func100 [] h
theorem Fy (a:Option Addr)(b c:Nat){w K}(h:nA w (.cells eV aK) λd e=>(bx (0:Int) (b:Int)/\Option.isSome a=true)/\∃f,Ld ak (av a (0:Int) 1) e (vS f)/\Cf gr #[vS f] e λg i=>∃j k,g=rT #[vI j,.bool k]/\∃l,Sv aK (vA d 0) (.agg #[vI 3,.bool false,vI 0,vS [],u0,u0,u0,u0,u0,u0,u0,u0,u0,u0,u0,u0,u0,u0,u0,u0,vI 0,vS [],vS [],.bool false,vI 0,vS [],u0,u0,u0,u0,u0,u0,u0,u0,u0,u0,u0,u0,u0,u0,u0,u0,vS [],vI 0,vI j]) i l/\∃m,Rv aK (vA d 0) l m/\K (.tuple #[m,.bool k]) l):Cf ig #[.slice a b c] w (Ret K):=ru func99 [] h
theorem HK (a:Option Addr)(b c:Nat){w K}(h:nA w (.cells eV aK) λd e=>(bx (0:Int) (b:Int)/\Option.isSome a=true)/\∃f,Ld ak (av a (0:Int) 1) e (vS f)/\Cf wW #[vS f] e λg i=>∃j k,g=rT #[j,vI k]/\nA i (.cells rq bf) λl m=>∃n,Sv bf (vA l 0) j m n/\(bx (1:Int) (b:Int)/\Option.isSome a=true)/\∃o,Ld ak (av a (1:Int) 1) n (vS o)/\Cf oq #[vS o] n λp q=>∃r s,p=rT #[vS r,.bool s]/\∃t,Ld bf (vA l 0) q t/\∃u,(Instr.build aK #[(0,vI 1),(1,t),(2,vS r)]).run prog q=.ok u q/\af s (∃v,Sv aK (vA d 0) u q v/\∃x,Rv aK (vA d 0) v x/\K (.tuple #[x,.bool (k==0)]) v) (∃v,Sv aK (vA d 0) u q v/\∃x,Rv aK (vA d 0) v x/\K (.tuple #[x,.bool false]) v)):Cf je #[.slice a b c] w (Ret K):=ru func97 [] h
theorem CQ (a:lU){w K}(h:nA w (.cells #[vI 0,vI 0,vI 0] bO) λb c=>af (decide (((length a:Nat):Int)>(20000:Int))) (∃d,Sv bO (vA b 0) (.agg #[vI 54,vI 1,vI 1]) c d/\∃e f g,Rv bO (vA b 0) d (.agg #[vI e,vI f,vI g])/\K (.tuple #[.slice none 0 0,.agg #[vI e,vI f,vI g]]) d) (uL pU #[vS a] c λd e f g=>∃i:Nat->FP [.one .slice,shI],(∃j,i j none 0 0 (0:Int) g)/\∀j k l m n,aQ 29 (∀o,i j k l m n o->af (decide (n<(e:Int))) ((bx n (e:Int)/\Option.isSome d=true)/\∃p,Ld ak (av d n 1) o (vS p)/\af (n==200) (∃q,Sv bO (vA b 0) (.agg #[vI 53,vI (i64.wrap (n+1)),vI 1]) o q/\∃r s t,Rv bO (vA b 0) q (.agg #[vI r,vI s,vI t])/\K (.tuple #[.slice none 0 0,.agg #[vI r,vI s,vI t]]) q) (Cf mE #[vS p] o λq r=>∃s t,q=rT #[s,.bool t]/\nA r (.cells eV aK) λu v=>∃x,Sv aK (vA u 0) s v x/\af (!t) (∃y,Sv bO (vA b 0) (.agg #[vI 131,vI (i64.wrap (n+1)),vI 1]) x y/\∃z A B,Rv bO (vA b 0) y (.agg #[vI z,vI A,vI B])/\K (.tuple #[.slice none 0 0,.agg #[vI z,vI A,vI B]]) y) (∃y,Ld aK (vA u 0) x y/\∃z A B C,(Instr.buildSlice eF 1 #[(0,y)]).run prog x=.ok (.slice A B C) z/\∃D E F G,(Builtin.append_ #[eF,eF] eF #[.slice k l m,.slice A B C]).run prog z=.ok (.slice E F G) D/\∃H:Nat,H<j/\i H E F G (i64.wrap (n+1)) D))) (∃p,Sv bO (vA b 0) (.agg #[vI 0,vI 0,vI 0]) o p/\∃q r s,Rv bO (vA b 0) p (.agg #[vI q,vI r,vI s])/\K (.tuple #[.slice k l m,.agg #[vI q,vI r,vI s]]) p)))):Cf oB #[vS a] w (Ret K):=ru func9 [(16,[(4,.one .slice),(16,shI)])] h
theorem HI (a b:Option Addr)(c d:Nat){w K}(h:uP Ea #[.pointer a] w λe f=>∃g:Nat->FP [.one .slice,shI],(∃i,g i none 0 0 (0:Int) f)/\∀i j k l m,aQ 41 (∀n,g i j k l m n->af (decide (m<(c:Int))) ((bx m (c:Int)/\Option.isSome b=true)/\∃o,Ld aK (av b m 45) n o/\nA n (.cells eV aK) λp q=>∃r,Sv aK (vA p 0) o q r/\uS fX #[vI 0] r λs t=>∃u:FP [.one .str],(true/\∃v,Ld aU (vA p 0) t (vI v)/\af (v==1) (true/\∃x,Ld bf (vA p 1) t x/\true/\∃y,Ld ak (vA p 22) t (vS y)/\uI pN #[.pointer e,x,vS y] t λz A=>uS fX #[vI z] A λB C=>u B C) (af (v==2) (true/\∃x,Ld aX (vA p 23) t x/\uS pL #[.pointer e,x] t λy z=>uS ny #[vS y] z λA B=>u A B) (af (v==3) (true/\∃x,Ld bg (vA p 44) t (vI x)/\uI oa #[.pointer e,vI x] t λy z=>uS fX #[vI y] z λA B=>u A B) (af (v==4) (uU mz #[.pointer e] t λx=>u s x) (uS fX #[vI 131] t λx y=>u x y)))))/\∀v,aQ 30 (∀x,u v x->nA x (.cells #[vS v] ak) λy z=>∃A B C D,(Builtin.append_ #[aO,aO] aO #[.slice j k l,.slice (vA y 0) 1 1]).run prog z=.ok (.slice B C D) A/\∃E:Nat,E<i/\g E B C D (i64.wrap (m+1)) A)) (K (.slice j k l) n))):Cf nI #[.pointer a,.slice b c d] w (Ret K):=ru func14 [(10,[(6,.one .slice),(14,shI)]),(23,[(9,.one .str)])] h
theorem CR (a:Value){w K}(h:nA w (.cells (Value.cells a) aK) λb c=>true/\∃d,Ld aU (vA b 0) c (vI d)/\af (d==1) (true/\∃e,Ld bf (vA b 1) c e/\uB mG #[e] c λf g=>af f (true/\∃i,Ld bg (vA b 44) g (vI i)/\af (i==0) (true/\∃j,Ld aX (vA b 23) g j/\∃k,(do eqGuard .eql aX (.tmp 18) (.tmp 19) j (.agg px);binOp .eql aX j (.agg px):Sem Value).run prog g=.ok (.bool k) g/\K (.bool k) g) (K (.bool false) g)) (K (.bool false) g)) (af (d==2) (true/\∃e,Ld aX (vA b 23) c e/\nA c (.cells px aX) λf g=>∃i,Sv aX (vA f 0) e g i/\true/\∃j,Ld ai (vA f 1) i j/\uB fM #[j] i λk l=>af k (true/\∃m,Ld ak (vA f 19) l (vS m)/\uB oU #[vS m] l λn o=>af n (true/\∃p,Ld aU (vA f 20) o (vI p)/\af (decide (p >=0)) (true/\∃q,Ld aU (vA f 20) o (vI q)/\af (decide (q <=2)) (∃r,Ld aK (vA b 0) o r/\∃s,Ld aX (vA f 0) o s/\∃t,(Instr.build aK #[(0,vI 2),(3,s)]).run prog o=.ok t o/\∃u,(do eqGuard .eql aK (.tmp 45) (.tmp 47) r t;binOp .eql aK r t:Sem Value).run prog o=.ok (.bool u) o/\K (.bool u) o) (K (.bool false) o)) (K (.bool false) o)) (K (.bool false) o)) (K (.bool false) l)) (af (d==3) (true/\∃e,Ld bg (vA b 44) c (vI e)/\af (decide (e >=0)) (true/\∃f,Ld bg (vA b 44) c (vI f)/\af (decide (f <=1099511627776)) (∃g,Ld aK (vA b 0) c g/\true/\∃i,Ld bg (vA b 44) c (vI i)/\∃j,(do eqGuard .eql aK (.tmp 61) (.tmp 64) g (.agg #[vI 3,.bool false,vI 0,vS [],u0,u0,u0,u0,u0,u0,u0,u0,u0,u0,u0,u0,u0,u0,u0,u0,vI 0,vS [],vS [],.bool false,vI 0,vS [],u0,u0,u0,u0,u0,u0,u0,u0,u0,u0,u0,u0,u0,u0,u0,u0,vS [],vI 0,vI i]);binOp .eql aK g (.agg #[vI 3,.bool false,vI 0,vS [],u0,u0,u0,u0,u0,u0,u0,u0,u0,u0,u0,u0,u0,u0,u0,u0,vI 0,vS [],vS [],.bool false,vI 0,vS [],u0,u0,u0,u0,u0,u0,u0,u0,u0,u0,u0,u0,u0,u0,u0,u0,vS [],vI 0,vI i]):Sem Value).run prog c=.ok (.bool j) c/\K (.bool j) c) (K (.bool false) c)) (K (.bool false) c)) (∃e,Ld aK (vA b 0) c e/\∃f,(do eqGuard .eql aK (.tmp 67) (.tmp 68) e (.agg #[vI 4,.bool false,vI 0,vS [],u0,u0,u0,u0,u0,u0,u0,u0,u0,u0,u0,u0,u0,u0,u0,u0,vI 0,vS [],vS [],.bool false,vI 0,vS [],u0,u0,u0,u0,u0,u0,u0,u0,u0,u0,u0,u0,u0,u0,u0,u0,vS [],vI 0,vI 0]);binOp .eql aK e (.agg #[vI 4,.bool false,vI 0,vS [],u0,u0,u0,u0,u0,u0,u0,u0,u0,u0,u0,u0,u0,u0,u0,u0,vI 0,vS [],vS [],.bool false,vI 0,vS [],u0,u0,u0,u0,u0,u0,u0,u0,u0,u0,u0,u0,u0,u0,u0,u0,vS [],vI 0,vI 0]):Sem Value).run prog c=.ok (.bool f) c/\K (.bool f) c)))):Cf oD #[a] w (Ret K):=ru func18 [] h
theorem Ay (a:Int){w K}(h:af (decide (a<(10:Int))) (nA w (.cells #[.int .u8 (IntKind.u8.wrap (i64.wrap ((48:Int)+a)))] bp) λb c=>∃d,(convert aV ak (.slice (vA b 0) 1 1)).run prog c=.ok (vS d) c/\K (vS d) c) (((10:Int)≠0)/\∀b,b=(i64.wrap (Int.tdiv a (10:Int)))->((10:Int)≠0)/\∀c,c=(Int.tmod a (10:Int))->(uS eH #[vI b] (drew w) λd e=>nA e (.cells #[.int .u8 (IntKind.u8.wrap (i64.wrap ((48:Int)+c)))] bp) λf g=>∃i,(convert aV ak (.slice (vA f 0) 1 1)).run prog g=.ok (vS i) g/\(((length d+length i:Nat):Int) <=i64.max)/\∀j,j=(d++i)->K (vS j) g)/\∀d e,d=(drew w).heap.size->e=(drew w).alloc (.cells #[.int .u8 (IntKind.u8.wrap (i64.wrap ((48:Int)+c)))] bp)->(uS eH #[vI b] e λf g=>∃i,(convert aV ak (.slice (vA d 0) 1 1)).run prog g=.ok (vS i) g/\(((length f+length i:Nat):Int) <=i64.max)/\∀j,j=(f++i)->K (vS j) g)/\∃f,(convert aV ak (.slice (vA d 0) 1 1)).run prog e=.ok (vS f) e/\uS eH #[vI b] e λg i=>(((length g+length f:Nat):Int) <=i64.max)/\∀j,j=(g++f)->K (vS j) i)):Cf eH #[vI a] w (Ret K):=ru func35 [] h
def Z0:lU:=[101,114,114,111,114,32]
def TO (n:Nat):lU:=if n=0 then[111,107]else Z0++AP n
theorem TL {a b c:lU} :gy tS w A [vS a,vS b,vS c] [a,b,c]:=
 ((gy.one (gB trivial)).append (gy.one (gB trivial))).append (gy.one (gB trivial))
theorem Zw {a b:lU} :gy tS w A [vS a,vS b] [a,b]:=
 (gy.one (gB trivial)).append (gy.one (gB trivial))
theorem iN:∀(n:Nat) (h:n <=9223372036854775807) (w:World),Cf eH #[vI (n:Int)] w (Ret λv w'=>v=vS (AP n)/\bW w w')
 |n,Z,w=>by
  apply Ay;refine af.of (λh=>?_) (λh=>?_)<;>simp only[dTx,dFx]at h
  ·intro M w8 D e;refine⟨_,gp (d:=n) (by omega) rfl D e w8 (Below.refl _ _),?_⟩;rw[Je (by omega)];exact⟨rfl,e▸ao _ _⟩
  ·have Y:n/10<n:=by omega
   refine⟨by decide,?_⟩;rintro _ rfl;refine⟨by decide,?_⟩;rintro _ rfl;have O:i64.wrap (Int.tdiv (n:Int) 10)=((n/10:Nat):Int):=by rw[cD (by omega),wrJ];omega
   have U:Int.tmod (n:Int) 10=((n%10:Nat):Int):=by rw[cY (by omega)];omega
   rw[O,U,DU (by omega)];have G:bW w (drew w):=lR rfl rfl rfl (Nat.le_refl _) (λ_ _=>rfl);have X:=jr (n:=n/10) (by omega);refine⟨?_,?_⟩
   ·refine aA (iN (n/10) (by omega) (drew w)) ?_;rintro _ H ⟨rfl,q⟩;refine⟨_,rfl,?_⟩;intro M w8 D e;refine⟨_,gp (d:=n%10) (by omega) rfl D e w8 (Below.refl _ _),fits (by simp;omega),?_⟩;rintro _ rfl;have I:=ae G q G.size;exact⟨rfl,ae I (e▸ao _ _) I.size⟩
   ·intro M w8 D e;have V:Below (drew w).heap.size (drew w) w8:=e▸ao _ _;have E:=ae G V G.size;refine⟨?_,_,gp (d:=n%10) (by omega) rfl D e w8 (Below.refl _ _),?_⟩
    ·refine aA (iN (n/10) (by omega) w8) ?_;rintro _ H ⟨rfl,q⟩;refine⟨_,rfl,_,gp (d:=n%10) (by omega) rfl D e H q,fits (by simp;omega),?_⟩;rintro _ rfl;exact⟨rfl,ae E q E.size⟩
    ·refine aA (iN (n/10) (by omega) w8) ?_;rintro _ H ⟨rfl,q⟩;refine⟨_,rfl,fits (by simp;omega),?_⟩;rintro _ rfl;exact⟨rfl,ae E q E.size⟩
 termination_by n=>n
theorem HP (n:Nat)(e:n <=9223372036854775807)(w:World)(D:Env w):Cf fX #[vI (n:Int)] w (Ret λv w'=>v=vS (TO n)/\bW w w'):=by
 apply Fz;refine af.of (λh=>?_) (λh=>?_)
 ·have h:(n:Int)=0:=eq_of_beq h;refine⟨?_,Below.refl _ _⟩;unfold TO;rw[if_pos (by omega)]
 ·have h: ¬ (n:Int)=0:=by simpa using h
  refine aA (Se n e w D) ?_;rintro _ E ⟨rfl,q⟩;have:=jr e;refine⟨_,rfl,fits (by simp only[length_cons,length_nil];omega),?_⟩;rintro _ rfl;refine⟨?_,q⟩;unfold TO;rw[if_neg (by omega)];rfl
theorem AA (w:World):Cf bZ #[] w (Ret λv w'=>∃a,v=.slice a 3 3/\Ow tS ak w' NoB a 3 3 [[115,97,109,101],[116,111,112],[115,117,98]]/\bU w.heap.size a/\bW w w'):=by
 apply yB;intro D E e q;exact⟨_,rfl,Ow.newF (ec _) e q TL (by decide),jB e,q▸ao _ _⟩
theorem AC (w:World):Cf dE #[] w (Ret λv w'=>∃a,v=.slice a 2 2/\Ow tS ak w' NoB a 2 2 [[104,116,116,112],[104,116,116,112,115]]/\bU w.heap.size a/\bW w w'):=by
 apply yD;intro D E e q;exact⟨_,rfl,Ow.newF (ec _) e q Zw (by decide),jB e,q▸ao _ _⟩
def evR (p:Int×FuncId):Value:=.agg #[vI p.1,.func (.func p.2) #[] #[]]
def sr:List (lU×(Int×FuncId)):=[([115,101,116],(2,je)),([103,101,116],(4,jd)),([116,105,99,107],(1,ig)),([99,108,101,97,114],(0,dK))]
theorem AB (w:World):Cf dD #[] w (Ret λv w'=>∃r,v=.map (some r)/\w.heap.size <=r/\uR evS evR w' r sr/\bW w w'):=by
 apply yC;intro D w1 M O;have q:qZ prog ak evS:=qZ.str ax;have E:bW w w1:=O▸ao w _;have e:bU w.heap.size (some ⟨D,0,none⟩):=jB M;have ac:uR evS evR w1 D ([]:List (lU×(Int×FuncId))):=uR.new M O;obtain⟨a9,an,ad,U⟩:=ac.put cP q (k:=[115,101,116]) rfl (2,je);obtain⟨bb,ar,ag,V⟩:=ad.put cP q (k:=[103,101,116]) (by decide) (4,jd);obtain⟨bc,a0,aj,X⟩:=ag.put cP q (k:=[116,105,99,107]) (by decide) (1,ig);obtain⟨bj,a8,al,Y⟩:=aj.put cP q (k:=[99,108,101,97,114]) (by decide) (0,dK);have G:=E.grown U E.size e;have H:=G.grown V G.size e;have I:=H.grown X H.size e;have Z:=I.grown Y I.size e;exact⟨a9,an,bb,ar,bc,a0,bj,a8,D,rfl,by omega,al,Z⟩
def ND:OpR:=⟨0,pd,[],xz,0⟩
theorem gH:ND.cells.length=45:=rfl
theorem MA (n:Int):(⟨3,pd,[],xz,n⟩:OpR).cells.length=45:=rfl
theorem PM:xK.cells.length=45:=rfl
theorem FD (a:Option Addr)(l c:Nat)(w:World):Cf dK #[.slice a l c] w (Ret λv w'=>v=.tuple #[xK.v,.bool true]/\bW w w'):=by
 apply sI;intro H w2 G e;have D:bW w w2:=e▸ao w _;have q:au w2 H aK ND.cells:=au.new G e;exact mh.fin (cs:=xK.cells) PM (OpR.one _) q gH D (by omega) λI E=>⟨rfl,E⟩
theorem HO {a:Option Addr}{l c:Nat}{x:lU}(E:Sl tS w A a l c [x])(ad:x.length <=10000000):Cf ig #[.slice a l c] w (Ret λv w'=>v=.tuple #[(⟨3,pd,[],xz,if uD x then fg x else 0⟩:OpR).v,.bool (decide (uD x))]/\bW w w'):=by
 have V:=E.1;obtain rfl:l=1:=V;apply Fy;intro Z w2 U M;have q:bW w w2:=M▸ao w _;have O:au w2 Z aK ND.cells:=au.new U M;obtain⟨v,Y,X⟩:=(E.below q).load1 (P:=prog) (i:=0) ax rfl rfl (by simp);obtain⟨rfl,_⟩:=iX X;refine⟨⟨⟨by decide,by decide⟩,E.isSome (i:=0) (by simp)⟩,x,Y,?_⟩;refine aA (jJ x (by omega) w2) ?_;rintro _ ag ⟨rfl,I⟩;have H:=ae q I q.size;have G:=O.below I;by_cases e:uD x
 ·rw[if_pos e];refine⟨_,_,rfl,?_⟩;exact mh.fin (cs:=(⟨3,pd,[],xz,fg x⟩:OpR).cells) (MA _) (OpR.one _) G gH H (by omega) λac D=>⟨by rw[if_pos e,decide_eq_true e];rfl,D⟩
 ·rw[if_neg e];refine⟨_,_,rfl,?_⟩;exact mh.fin (cs:=(⟨3,pd,[],xz,0⟩:OpR).cells) (MA _) (OpR.one _) G gH H (by omega) λac D=>⟨by rw[if_neg e,decide_eq_false e];rfl,D⟩
theorem Src.here {α:Type}{T:Ty α}{b:Nat}{l:List Value}{xs:List α}(h:w.heap[b]? =some (.cells l.toArray t))(e:gy T w A l xs):Src T w A (some ⟨b,0,none⟩) xs.length xs:=
 ⟨rfl,.inr ⟨b,0,rfl,l,e,λj q=>by rw[tY h,Nat.zero_add];simp⟩⟩
def It (c:UInt8):Bool:=decide (33 <=c.toNat/\c.toNat <=126/\c≠37)
theorem MO {c:UInt8}(h:It c=true):zL c=[c]:=if_pos (of_decide_eq_true h)
theorem Py {c:UInt8}(h:It c=false):zL c=[37,B0 (c.toNat/16),B0 (c.toNat%16)]:=if_neg (of_decide_eq_false h)
theorem QC (c:UInt8):
 Int.fdiv ((c.toNat:Nat):Int) (2 ^ (min (Int.toNat (4:Int)) (IntKind.bits .u8)))=((c.toNat/16:Nat):Int)/\
 IntKind.u8.wrap (((BitVec.ofInt (IntKind.bits .u8) ((c.toNat:Nat):Int)) &&& (BitVec.ofInt (IntKind.bits .u8) (15:Int))).toNat:Nat)=((c.toNat%16:Nat):Int)/\
 be [48,49,50,51,52,53,54,55,56,57,65,66,67,68,69,70] ((c.toNat/16:Nat):Int)=(((B0 (c.toNat/16)).toNat:Nat):Int)/\
 be [48,49,50,51,52,53,54,55,56,57,65,66,67,68,69,70] ((c.toNat%16:Nat):Int)=(((B0 (c.toNat%16)).toNat:Nat):Int):=
 Q1 (p:=λc=>Int.fdiv ((c.toNat:Nat):Int) (2 ^ (min (Int.toNat (4:Int)) (IntKind.bits .u8)))=((c.toNat/16:Nat):Int)/\
  IntKind.u8.wrap (((BitVec.ofInt (IntKind.bits .u8) ((c.toNat:Nat):Int)) &&& (BitVec.ofInt (IntKind.bits .u8) (15:Int))).toNat:Nat)=((c.toNat%16:Nat):Int)/\
  be [48,49,50,51,52,53,54,55,56,57,65,66,67,68,69,70] ((c.toNat/16:Nat):Int)=(((B0 (c.toNat/16)).toNat:Nat):Int)/\
  be [48,49,50,51,52,53,54,55,56,57,65,66,67,68,69,70] ((c.toNat%16:Nat):Int)=(((B0 (c.toNat%16)).toNat:Nat):Int)) (by decide+kernel) c
theorem Po {a b c:UInt8} :gy tU8 w A [.int .u8 ((a.toNat:Nat):Int),.int .u8 ((b.toNat:Nat):Int),.int .u8 ((c.toNat:Nat):Int)] [a,b,c]:=
 ((gy.one (qJ rfl)).append (gy.one (qJ rfl))).append (gy.one (qJ rfl))
theorem yh (s:lU)(ce:s.length <=1000000000000)(w:World):
 Cf ny #[vS s] w (Ret λv w'=>v=vS (CW s)/\bW w w'):=by
 apply Hh;refine af.of (λh=>?_) (λh=>?_)
 ·obtain rfl:s=[]:=eq_of_beq h;exact⟨rfl,Below.refl _ _⟩
 have b5:s≠[]:=by rintro rfl;cases h
 obtain⟨G,a,n,c,b7,X,al,cb⟩:=pz ax bX cE w s (by omega) NoB;have b6:=X.len;subst b6;refine⟨G,a,_,c,b7,?_⟩;refine⟨λm a3 bb ag i w'=>∃k:Nat,k <=s.length/\i=(k:Int)/\m=s.length-k/\Ow tU8 bp w' NoB a3 bb ag (jQ (s.take k))/\bU G.heap.size a3/\bW G w',
  ⟨_,0,by omega,rfl,rfl,Ow.nil _ _ _ _,bU.none _,Below.refl _ _⟩,?_⟩
 intro m a3 bb ag i;refine aQ.of ?_ _;rintro ca ⟨k,cc,rfl,rfl,D,U,q⟩;have a8:=(tU (s.take k)).2;rw[length_take]at a8;refine af.of (λh=>?_) (λh=>?_)<;>simp only[dTx,dFx]at h
 ·have V:k<s.length:=by omega
  have a0:jQ (s.take (k+1))=jQ (s.take k)++zL s[k]:=by rw[take_succ_eq_append_getElem V,IF]
  obtain⟨v,ar,b8⟩:=(X.below q).all.load1 (i:=(k:Int)) cE rfl rfl (by simpa using V);have:=FY b8;subst this;simp only[Int.toNat_natCast]at ar;have cf:=pa s[k];refine⟨⟨⟨by omega,h⟩,X.all.isSome V⟩,_,ar,?_⟩;refine gS (w:=ca) (It s[k]) ?_ ?_
  ·unfold It;refine af.of (λe=>?_) (λe=>?_)<;>simp only[gt_iff_lt,dTx,dFx]at e
   ·refine af.of (λaj=>?_) (λaj=>?_)<;>simp only[dTx,dFx]at aj
    ·refine⟨rfl,?_⟩;rw[Bool.eq_iff_iff,bne_iff_ne,dTx];constructor
     ·intro M;exact⟨by omega,by omega,λI=>M (by rw[I];rfl)⟩
     ·rintro⟨_,_,M⟩ I;exact M (Be (by simpa using I))
    ·exact⟨rfl,(decide_eq_false (by omega)).symm⟩
   ·exact⟨rfl,(decide_eq_false (by omega)).symm⟩
  ·refine af.of (λe=>?_) (λe=>?_)
   ·intro a9 bc an E;obtain⟨ad,a5,ac,H,Z,Y,b2,b0⟩:=Ch (ty:=aV) (w0:=G) (cm:=1) (vs:=[_]) r6 bX ik (by decide) D U q an E (qJ rfl) (by omega);refine⟨ad,a5,ac,H,Z,s.length-(k+1),by omega,k+1,by omega,by rw[wrJ];omega,rfl,?_,b2,b0⟩;rw[a0,MO e];exact Y
   ·obtain⟨bj,bk,bq,bs⟩:=QC s[k];rw[bj,bk];have ch:s[k].toNat/16<16:=by omega
    have cj:s[k].toNat%16<16:=Nat.mod_lt _ (by decide);refine⟨by decide,⟨by omega,by simp only[length_cons,length_nil];omega⟩,⟨by omega,by simp only[length_cons,length_nil];omega⟩,?_⟩;rw[bq,bs];intro a9 an bc E b1;have b9:Src tU8 bc NoB (some ⟨a9,0,none⟩) 3 [37,B0 (s[k].toNat/16),B0 (s[k].toNat%16)]:=Src.here (l:=[.int .u8 (((37:UInt8).toNat:Nat):Int),.int .u8 (((B0 (s[k].toNat/16)).toNat:Nat):Int),.int .u8 (((B0 (s[k].toNat%16)).toNat:Nat):Int)]) b1 Po;obtain⟨ad,a5,ac,H,Z,Y,b4,b3⟩:=eU (ty:=aV) bX ik (by decide) (D.below E) (λ_ _ h=>h) (cm:=3) b9 (by simp;omega);have O:=ae q E q.size;refine⟨ad,a5,ac,H,Z,s.length-(k+1),by omega,k+1,by omega,by rw[wrJ];omega,rfl,?_,U.app O.size b3,O.grown b4 O.size U⟩;rw[a0,Py e];exact Y
 ·have:k=s.length:=by omega
  subst this;rw[take_length]at D a8;refine⟨_,oM bX ax cE D.all,?_,ae al q al.size⟩;rw[CW,if_neg b5]
theorem DW:∀n:Nat,n<16->(n<10->IntKind.u8.wrap (i64.wrap ((48:Int)+(n:Int)))=(((B0 n).toNat:Nat):Int))/\(¬ n<10->IntKind.u8.wrap (i64.wrap ((55:Int)+(n:Int)))=(((B0 n).toNat:Nat):Int)):=by decide+kernel
theorem uX (n:Nat)(e:n<16)(w:World):Cf lJ #[vI (n:Int)] w (Ret λv w'=>v=.int .u8 (((B0 n).toNat:Nat):Int)/\w'=w):=by
 apply E8;refine af.of (λh=>?_) (λh=>?_)<;>simp only[dTx,dFx]at h
 ·rw[(DW n e).1 (by omega)];exact⟨rfl,rfl⟩
 ·rw[(DW n e).2 (by omega)];exact⟨rfl,rfl⟩
theorem JU (s:lU)(cc:s.length <=1000000000000)(w:World):
 Cf rK #[vS s] w (Ret λv w'=>v=vS (CW s)/\bW w w'):=by
 apply Hl;intro b7 w5 aj a0;have bq:bW w w5:=a0▸ao w _;have b5:Ow tU8 bp w5 NoB (some ⟨b7,0,none⟩) 0 0 []:=Ow.newF r6 aj a0 (l:=[]) (gy.nil _ _ _) (by decide);refine⟨λm a3 G ac i w'=>∃k:Nat,k <=s.length/\i=(k:Int)/\m=s.length-k/\Ow tU8 bp w' NoB a3 G ac (jQ (s.take k))/\bU w.heap.size a3/\bW w w',
  ⟨_,0,by omega,rfl,rfl,b5,jB aj,bq⟩,?_⟩
 intro m a3 G ac i;refine aQ.of ?_ _;rintro ca ⟨k,cb,rfl,rfl,D,U,q⟩;have a8:=(tU (s.take k)).2;have a9:=(tU (s.take k)).1;rw[length_take]at a8 a9;refine af.of (λh=>?_) (λh=>?_)<;>simp only[dTx,dFx]at h
 ·have al:k<s.length:=by omega
  have ar:jQ (s.take (k+1))=jQ (s.take k)++zL s[k]:=by rw[take_succ_eq_append_getElem al,IF]
  have an:=pa s[k];rw[mi (i:=(k:Int)) (by simpa using al)];simp only[Int.toNat_natCast];refine gS (w:=ca) (It s[k]) ?_ ?_
  ·unfold It;refine⟨⟨by omega,h⟩,?_⟩;refine af.of (λe=>?_) (λe=>?_)<;>simp only[ge_iff_le,dTx,dFx]at e
   ·refine⟨⟨by omega,h⟩,?_⟩;refine af.of (λad=>?_) (λad=>?_)<;>simp only[dTx,dFx]at ad
    ·refine⟨⟨by omega,h⟩,rfl,?_⟩;rw[Bool.eq_iff_iff,bne_iff_ne,dTx];constructor
     ·intro M;exact⟨by omega,by omega,λI=>M (by rw[I];rfl)⟩
     ·rintro⟨_,_,M⟩ I;exact M (Be (by simpa using I))
    ·exact⟨rfl,(decide_eq_false (by omega)).symm⟩
   ·exact⟨rfl,(decide_eq_false (by omega)).symm⟩
  ·refine af.of (λe=>?_) (λe=>?_)
   ·refine⟨⟨by omega,h⟩,?_⟩;intro bb bc ag E;obtain⟨Z,a5,Y,H,X,V,b1,bs⟩:=Ch (ty:=aV) (w0:=w) (cm:=1) (vs:=[_]) r6 bX ik (by decide) D U q ag E (qJ rfl) (by omega);refine⟨Z,a5,Y,H,X,s.length-(k+1),by omega,k+1,by omega,by rw[wrJ];omega,rfl,?_,b1,bs⟩;rw[ar,MO e];exact V
   ·have b8:s[k].toNat/16<16:=by omega
    have b9:s[k].toNat%16<16:=Nat.mod_lt _ (by decide);refine⟨⟨by omega,h⟩,by decide,?_⟩;rintro _ rfl;have bj:i64.wrap (Int.tdiv (i64.wrap ((s[k].toNat:Nat):Int)) (16:Int))=((s[k].toNat/16:Nat):Int):=by
     rw[wrJ (n:=((s[k].toNat:Nat):Int)),cD (by omega),wrJ];omega
    have bk:Int.tmod (i64.wrap ((s[k].toNat:Nat):Int)) (16:Int)=((s[k].toNat%16:Nat):Int):=by
     rw[wrJ (n:=((s[k].toNat:Nat):Int)),cY (by omega)];omega
    rw[bj];refine⟨_,λu an=>aA (uX _ b8 u) (by rintro _ w' ⟨rfl,rfl⟩;exact⟨rfl,Below.refl _ _⟩),⟨by omega,h⟩,by decide,?_⟩;rintro _ rfl;rw[bk];refine⟨_,λu an=>aA (uX _ b9 u) (by rintro _ w' ⟨rfl,rfl⟩;exact⟨rfl,Below.refl _ _⟩),?_⟩;intro bb ag bc E b0;have b6:Src tU8 bc NoB (some ⟨bb,0,none⟩) 3 [37,B0 (s[k].toNat/16),B0 (s[k].toNat%16)]:=Src.here (l:=[.int .u8 (((37:UInt8).toNat:Nat):Int),.int .u8 (((B0 (s[k].toNat/16)).toNat:Nat):Int),.int .u8 (((B0 (s[k].toNat%16)).toNat:Nat):Int)]) b0 Po;obtain⟨Z,a5,Y,H,X,V,b3,b2⟩:=eU (ty:=aV) bX ik (by decide) (D.below E) (λ_ _ h=>h) (cm:=3) b6 (by simp;omega);have O:=ae q E q.size;refine⟨Z,a5,Y,H,X,s.length-(k+1),by omega,k+1,by omega,by rw[wrJ];omega,rfl,?_,U.app O.size b2,O.grown b3 O.size U⟩;rw[ar,Py e];exact V
 ·have:k=s.length:=by omega
  subst this;rw[take_length]at D a8 a9;have b4:=D.len;refine af.of (λe=>?_) (λe=>?_)
  ·have e:(G:Int)=0:=eq_of_beq e;have:s=[]:=List.length_eq_zero_iff.1 (by omega);rw[this];exact⟨rfl,q⟩
  ·have e: ¬ (G:Int)=0:=by simpa using e
   refine⟨_,oM bX ax cE D.all,?_,q⟩;rw[CW,if_neg];rintro rfl;exact e (by rw[b4];rfl)
def unT (s:lU):Value:=.tuple #[vS ((unP s).getD []),.bool (unP s).isSome]
theorem PX (c:UInt8):IntKind.u8.wrap (Lib.indexByte [48,49,50,51,52,53,54,55,56,57,65,66,67,68,69,70] c)=((Ef c:Nat):Int):=
 Q1 (p:=λc=>IntKind.u8.wrap (Lib.indexByte [48,49,50,51,52,53,54,55,56,57,65,66,67,68,69,70] c)=((Ef c:Nat):Int)) (by decide+kernel) c
theorem RT (c:UInt8):Ef c<16\/Ef c=255:=by
 unfold Ef;split
 ·left;omega
 ·split
  ·left;omega
  ·right;rfl
theorem P4 (a b:Nat)(D:a<16\/a=255)(G:b<16\/b=255):
 IntKind.u8.wrap (((BitVec.ofInt (IntKind.bits .u8) (IntKind.u8.wrap ((a:Int)*2 ^ (min (Int.toNat (4:Int)) (IntKind.bits .u8))))) ||| (BitVec.ofInt (IntKind.bits .u8) (IntKind.u8.wrap (((BitVec.ofInt (IntKind.bits .u8) (b:Int)) &&& (BitVec.ofInt (IntKind.bits .u8) (15:Int))).toNat:Nat)))).toNat:Nat)=(((Sg a b).toNat:Nat):Int):=by
 have key:∀a,a<17->∀b,b<17->IntKind.u8.wrap (((BitVec.ofInt (IntKind.bits .u8) (IntKind.u8.wrap ((((if a=16 then 255 else a:Nat)):Int)*2 ^ (min (Int.toNat (4:Int)) (IntKind.bits .u8))))) ||| (BitVec.ofInt (IntKind.bits .u8) (IntKind.u8.wrap (((BitVec.ofInt (IntKind.bits .u8) (((if b=16 then 255 else b:Nat)):Int)) &&& (BitVec.ofInt (IntKind.bits .u8) (15:Int))).toNat:Nat)))).toNat:Nat)=(((Sg (if a=16 then 255 else a) (if b=16 then 255 else b)).toNat:Nat):Int):=by decide+kernel
 have h1:∃a',a'<17/\(if a'=16 then 255 else a')=a:=by
  rcases D with h|h
  ·exact⟨a,by omega,if_neg (by omega)⟩
  ·exact⟨16,by decide,by rw[if_pos rfl,h]⟩
 have q:∃e,e<17/\(if e=16 then 255 else e)=b:=by
  rcases G with h|h
  ·exact⟨b,by omega,if_neg (by omega)⟩
  ·exact⟨16,by decide,by rw[if_pos rfl,h]⟩
 obtain⟨a',E,rfl⟩:=h1;obtain⟨e,H,rfl⟩:=q;exact key a' E e H
theorem yi (c:UInt8)(w:World):Cf nB #[.int .u8 ((c.toNat:Nat):Int)] w (Ret λv w'=>v=.int .u8 ((Ef c:Nat):Int)/\w'=w):=by
 apply Hi;refine(Tryz.strings_IndexByte (mkS [48,49,50,51,52,53,54,55,56,57,65,66,67,68,69,70]) _ w).mono ?_;rintro e w' ⟨rfl,rfl⟩;refine⟨_,rfl,?_,rfl⟩;rw[show((c.toNat:Nat):Int).toNat.toUInt8=c by simp];show Value.int .u8 (IntKind.u8.wrap (Lib.indexByte [48,49,50,51,52,53,54,55,56,57,65,66,67,68,69,70] c))=_;rw[PX]
theorem Un (s:lU):Lib.trimSuffix s [37]=BV s:=by
 rw[(Di s 37).2];unfold BV;split
 ·rw[List.dropLast_eq_take]
 ·rfl
theorem Ex (s:lU)(b5:s.length <=10000000)(w:World):
 Cf oq #[vS s] w (Ret λv w'=>v=unT s/\bW w w'):=by
 apply Cz;refine(Tryz.strings_TrimSuffix (mkS s) (mkS [37]) w (by show s.length <=_;omega)).mono ?_;rintro I H ⟨rfl,rfl⟩;refine⟨BV s,by rw[<- Un];rfl,?_⟩;have b3:(BV s).length <=s.length:=by unfold BV;split<;>simp
 have Y:∀{u:World},unD (BV s)=none->bW H u->(.tuple #[vS [],.bool false]:Value)=unT s/\bW H u:=λI ac=>⟨by unfold unT unP;rw[I];rfl,ac⟩
 refine⟨λm a l c r w'=>∃out:lU,unD (BV s)=(unD r).map (λt=>out++t)/\out.length+r.length <=(BV s).length/\m=r.length/\Ow tU8 bp w' NoB a l c out/\bU H.heap.size a/\bW H w',
  ⟨_,[],by simp,by simp,rfl,Ow.nil _ _ _ _,bU.none _,Below.refl _ _⟩,?_⟩
 intro m a l c r;refine aQ.of ?_ _;rintro X ⟨out,E,O,rfl,U,ag,hB⟩;refine af.of (λh=>?_) (λh=>?_)
 ·match r,h with
  |x::r,_=>
   have bk:be (x::r) 0=((x.toNat:Nat):Int):=rfl;simp only[length_cons]at O;refine⟨⟨by decide,by simp only[length_cons];omega⟩,?_⟩;refine⟨λn u w'=>∃(y:UInt8) (e:lU),n=((y.toNat:Nat):Int)/\u=((((x::r).length-e.length:Nat)):Int)/\e=(x::r).drop ((x::r).length-e.length)/\e.length<(x::r).length/\unD (x::r)=(unD e).map (λt=>y::t)/\bW X w',?_,?_⟩
   ·rw[bk];refine af.of (λq=>?_) (λq=>?_)
    ·obtain rfl:x=37:=Be (by simpa using q);refine af.of (λD=>?_) (λD=>?_)<;>simp only[dTx,dFx]at D
     ·refine Y ?_ hB;rw[E,unD.eq_def]
      match r,D with
      |[],_=>rfl
      |[a],_=>rfl
      |a::b::r,D=>simp only[length_cons]at D;omega
     ·match r,D,O with
      |[],D,_=>simp at D
      |[a],D,_=>simp at D
      |y::z::e,_,O=>
       have bq:be (37::y::z::e) 1=((y.toNat:Nat):Int):=rfl;have bs:be (37::y::z::e) 2=((z.toNat:Nat):Int):=rfl;rw[bq,bs];refine⟨⟨by decide,by simp only[length_cons];omega⟩,_,λu bb=>aA (yi y u) (by rintro _ w' ⟨rfl,rfl⟩;exact⟨rfl,Below.refl _ _⟩),by decide,⟨by decide,by simp only[length_cons];omega⟩,_,λu bb=>aA (yi z u) (by rintro _ w' ⟨rfl,rfl⟩;exact⟨rfl,Below.refl _ _⟩),?_⟩;intro b8 bj;refine⟨Sg (Ef y) (Ef z),e,P4 _ _ (RT y) (RT z),by simp only[length_cons];omega,by simp only[length_cons];rw[show e.length+1+1+1-e.length=3 by omega];rfl,by simp only[length_cons];omega,?_,bj⟩;rw[unD.eq_def];rfl
    ·have an:x≠37:=λI=>by subst I;cases q
     refine⟨x,r,rfl,by simp only[length_cons];omega,by simp only[length_cons];rw[show r.length+1-r.length=1 by omega];rfl,by simp,?_,Below.refl _ _⟩;rw[unD.eq_def];show(if x=37 then _ else _)=_;rw[if_neg an]
   ·intro n u;refine aQ.of ?_ _;rintro b1 ⟨y,e,rfl,rfl,a0,V,a8,G⟩;have M:=ae hB G hB.size;intro b6 b7 al bc;obtain⟨b2,a5,b0,Z,a9,ar,aj,ad⟩:=Ch (ty:=aV) (w0:=H) (cm:=1) (vs:=[_]) r6 bX ik (by decide) (U.below G) ag M al bc (qJ rfl) (by omega);refine⟨b2,a5,b0,Z,a9,⟨by omega,by omega⟩,?_⟩;rintro _ rfl;rw[Int.toNat_natCast,<- a0];refine⟨e.length,V,out++[y],?_,?_,rfl,ar,aj,ad⟩
    ·rw[E,a8,Option.map_map];congr 1;funext t;simp
    ·simp only[length_append,length_cons,length_nil]at V ⊢;omega
 ·obtain rfl:r=[]:=by simpa using h
  have E:unD (BV s)=some out:=by rw[E,unD];simp
  have b4:out.length <=10000000:=by simp at O;omega
  refine⟨_,oM bX ax cE U.all,?_⟩;refine aA (yh out (by omega) X) ?_;rintro _ b1 ⟨rfl,G⟩;have M:=ae hB G hB.size;refine⟨_,rfl,?_⟩;refine af.of (λq=>?_) (λq=>?_)
  ·have q:(CW out==s)=false:=by simpa using q
   refine⟨?_,M⟩;unfold unT unP;rw[E,Option.filter_some,q];rfl
  ·have q:(CW out==s)=true:=by simpa using q
   refine⟨_,oM bX ax cE (U.below G).all,?_,M⟩;unfold unT unP;rw[E,Option.filter_some,q];rfl
theorem MJ (b:Bool)(w:World):Cf wZ #[.bool b] w (Ret λv w'=>v=.tuple #[vS (if b then[104,116,116,112,115,58,47,47]else[104,116,116,112,58,47,47]),vI (if b then 443 else 80)]/\w'=w):=by
 apply KF;cases b
 ·exact⟨rfl,rfl⟩
 ·exact⟨rfl,rfl⟩
section
open Go.Shelf Go.RowKit Go.Lib Go.Pk
variable {P:Program} {ρ:Ren}
def Asc (cs:ByteArray):Prop:=∀(j:Nat) b,cs.data.toList[j]? =some b->b.toNat<128
theorem WI {r:Int}(I:128 <=r)(G:Lib.validRune r=true):∃(rs:ByteArray) (x:UInt8),Utf8.encode r=rs/\2 <=rs.size/\rs.size <=4/\rs.data.toList[rs.size-1]? =some x/\128 <=x.toNat:=by
 have H:Utf8.valid r=true:=by
  unfold Lib.validRune at G;unfold Utf8.valid;simp at G ⊢;omega
 have e:Utf8.encode r=if r.toNat<0x80 then⟨#[UInt8.ofNat r.toNat]⟩ else if r.toNat<0x800 then⟨#[UInt8.ofNat (0xC0+r.toNat/64),UInt8.ofNat (0x80+r.toNat%64)]⟩
  else if r.toNat<0x10000 then⟨#[UInt8.ofNat (0xE0+r.toNat/4096),UInt8.ofNat (0x80+r.toNat/64%64),UInt8.ofNat (0x80+r.toNat%64)]⟩
  else⟨#[UInt8.ofNat (0xF0+r.toNat/262144),UInt8.ofNat (0x80+r.toNat/4096%64),UInt8.ofNat (0x80+r.toNat/64%64),UInt8.ofNat (0x80+r.toNat%64)]⟩:=by
  unfold Utf8.encode;rw[H];rfl
 rw[if_neg (by omega)]at e;have q:128 <=(UInt8.ofNat (0x80+r.toNat%64)).toNat:=by rw[UInt8.toNat_ofNat'];omega
 by_cases D:r.toNat<0x800
 ·rw[if_pos D]at e;exact⟨_,_,e,(show 2 <=2 by decide),(show 2 <=4 by decide),rfl,q⟩
 rw[if_neg D]at e;by_cases E:r.toNat<0x10000
 ·rw[if_pos E]at e;exact⟨_,_,e,(show 2 <=3 by decide),(show 3 <=4 by decide),rfl,q⟩
 ·rw[if_neg E]at e;exact⟨_,_,e,(show 2 <=4 by decide),(show 4 <=4 by decide),rfl,q⟩
theorem Sa (E:P.underlying t=some .string)(s:ByteArray)(i:Int)(x:UInt8)(q:0 <=i)(e:s.data.toList[i.toNat]? =some x)(w:World):
 (Instr.index t (.string s) (vI i)).run P w=.ok (.int .u8 (x.toNat:Nat)) w:=by
 have D:i.toNat<s.size:=by
  have:=(List.getElem?_eq_some_iff.1 e).1
  rwa [<- Lib.size_eq]at this
 rw[run_index_string _ _ _ _ _ E,dif_pos ⟨q,by omega⟩];have:=Lib.data_getElem? s i.toNat D;rw[e]at this;rw[<- Option.some.inj this]
set_option maxHeartbeats 4000000 in
set_option maxRecDepth 1000000 in
theorem Jz (L:Lays.n152 P ρ)(cs:ByteArray)(r:Int)(w:World)(h0:128 <=r)(hne:r≠65533)(hv:Lib.validRune r=false):
 Calls P (ρ.f 152) #[.string cs,.int .i32 r] w λe w'=>e=.returned (vI (-1))/\∃n,w'=w.drewN n:=by
 have mixed:=L.mixed;have t3:=L.t3;have a3:=L.a3;have z3:=L.z3;have v3:=L.v3;have u3:=run_underlying L.t3;have t4:=L.t4;have a4:=L.a4;have z4:=L.z4;have v4:=L.v4;have u4:=run_underlying L.t4;have t5:=L.t5;have a5:=L.a5;have z5:=L.z5;have v5:=L.v5;have u5:=run_underlying L.t5;have t9:=L.t9;have a9:=L.a9;have z9:=L.z9;have v9:=L.v9;have u9:=run_underlying L.t9;have t21:=L.t21;have a21:=L.a21;have z21:=L.z21;have v21:=L.v21;have u21:=run_underlying L.t21;have e137:∀args w,(callFunc (ρ.f 137) args).run P w=.ok (.enter (ρ.f 137) args) w:=enters_of L.f137 (by kernel_rfl) rfl;have e119:∀args w,(callFunc (ρ.f 119) args).run P w=.ok (.enter (ρ.f 119) args) w:=enters_of L.f119 (by kernel_rfl) rfl;have hr1: ¬ (r<128):=by omega
 have hr2:(r==65533)=false:=beq_eq_false_iff_ne.2 hne;go_enter L.f152,Body.n152_ntmps ρ;go_wp2_with (first
  |(go_at_fn (ρ.f 119);refine(Any.utf8_ValidRune { L with } _ _).mono ?_;rintro e w' ⟨rfl,hw⟩;rw[hw,hv])
  |(go_at_fn (ρ.f 137);refine(Any.strings_IndexByte { L with } _ _ _).mono ?_;rintro e w' ⟨rfl,hw⟩;rw[hw]))
 go_ret;exact⟨rfl,0,rfl⟩
set_option maxHeartbeats 4000000 in
set_option maxRecDepth 1000000 in
theorem JB (L:Lays.n152 P ρ)(cs:ByteArray)(ha:Asc cs)(hcs:cs.size <=1000)(r:Int)(w:World)(h0:128 <=r)(hne:r≠65533)(hv:Lib.validRune r=true):
 Calls P (ρ.f 152) #[.string cs,.int .i32 r] w λe w'=>e=.returned (vI (-1))/\∃n,w'=w.drewN n:=by
 have mixed:=L.mixed;have t3:=L.t3;have a3:=L.a3;have z3:=L.z3;have v3:=L.v3;have u3:=run_underlying L.t3;have t4:=L.t4;have a4:=L.a4;have z4:=L.z4;have v4:=L.v4;have u4:=run_underlying L.t4;have t5:=L.t5;have a5:=L.a5;have z5:=L.z5;have v5:=L.v5;have u5:=run_underlying L.t5;have t9:=L.t9;have a9:=L.a9;have z9:=L.z9;have v9:=L.v9;have u9:=run_underlying L.t9;have t21:=L.t21;have a21:=L.a21;have z21:=L.z21;have v21:=L.v21;have u21:=run_underlying L.t21;have e137:∀args w,(callFunc (ρ.f 137) args).run P w=.ok (.enter (ρ.f 137) args) w:=enters_of L.f137 (by kernel_rfl) rfl;have e119:∀args w,(callFunc (ρ.f 119) args).run P w=.ok (.enter (ρ.f 119) args) w:=enters_of L.f119 (by kernel_rfl) rfl;obtain⟨rs,x,hrs,h2,h4,hx,hx128⟩:=WI h0 hv;have hr1: ¬ (r<128):=by omega
 have hr2:(r==65533)=false:=beq_eq_false_iff_ne.2 hne;have hcv:=λw=>run_convert_int_string (P:=P) w (ρ.t 21) (ρ.t 9) .i32 r (by rw[t21];rfl) t9;rw[hrs]at hcv;have hR:=λw=>Sa (P:=P) t9 rs ((rs.size:Int)-1) x (by omega) (by rw[show((rs.size:Int)-1).toNat=rs.size-1 by omega];exact hx) w;clear hx hrs;go_enter L.f152,Body.n152_ntmps ρ;go_wp2_with (first
  |(go_at_fn (ρ.f 119);refine(Any.utf8_ValidRune { L with } _ _).mono ?_;rintro e w' ⟨rfl,hw⟩;rw[hw,hv])
  |(go_at_fn (ρ.f 137);refine(Any.strings_IndexByte { L with } _ _ _).mono ?_;rintro e w' ⟨rfl,hw⟩;rw[hw]))
 go_wp2_with (go_at_fn (ρ.f 137);refine(Any.strings_IndexByte { L with } _ _ _).mono ?_;rintro e w' ⟨rfl,hw⟩;rw[hw]);go_step3;go_wp2_with (go_at_fn (ρ.f 137);refine(Any.strings_IndexByte { L with } _ _ _).mono ?_;rintro e w' ⟨rfl,hw⟩;rw[hw]);go_loopg [9,10,11,12] 1 (λg s9 _ _ _ wx=>s9=vI ((rs.size:Int)-1)/\wx=w)
 case atStart=>exact⟨rfl,rfl⟩
 case round=>
  obtain⟨rfl,rfl⟩:=hrel;by_cases hlt:rs.size-1<cs.size
  ·obtain⟨y,hy⟩:∃y,cs.data.toList[rs.size-1]? =some y:=⟨_,Lib.data_getElem? cs (rs.size-1) hlt⟩
   have hy128:=ha _ _ hy;have hS:=λw=>Sa (P:=P) t9 cs ((rs.size:Int)-1) y (by omega) (by rw[show((rs.size:Int)-1).toNat=rs.size-1 by omega];exact hy) w;have hl:(rs.size:Int)-1<(cs.size:Int):=by omega
   have hne2:((y.toNat:Int)==(x.toNat:Int))=false:=beq_eq_false_iff_ne.2 (by omega);have hwr:i64.wrap (rs.size:Int)=(rs.size:Int):=wrJ;have hle:(0 <=(rs.size:Int)/\(rs.size:Int) <=(cs.size:Int)):=by omega
   have hmi:Lib.indexByte (List.take (cs.size-rs.size) (List.drop rs.size cs.data.toList)) x= -1:=by
    rw[<- Lib.indexAny_one];refine Lib.indexAny_none λj b _ hb=>?_;obtain⟨k,hk⟩:=List.getElem?_of_mem (List.mem_of_mem_drop (mem_of_mem_take (List.mem_of_getElem? hb)));have:=ha k b hk;have hne:b≠x:=λe=>by rw[e]at this;omega
    simpa using hne
   clear hy;go_wp2_with (go_at_fn (ρ.f 137);refine(Any.strings_IndexByte { L with } _ _ _).mono ?_;rintro e w' ⟨rfl,hw⟩;rw[hw]);go_step3;go_wp2;go_quiet_o (fail);go_wp2;go_quiet_o (exact(Any.strings_IndexByte { L with } _ _ _).mono λe w' h=>⟨h.1,_,h.2⟩);go_wp2;change bodyPost P (Body.n152 ρ) (λe w'=>e=Ending.returned (Value.int i64 (-1))/\∃n,w'=wr.drewN n) Exit.ret _ _;go_ret;exact⟨rfl,_,rfl⟩
  ·have hn: ¬ ((rs.size:Int)-1<(cs.size:Int)):=by omega
   go_wp2;go_ret;exact⟨rfl,0,rfl⟩
set_option maxHeartbeats 4000000 in
set_option maxRecDepth 1000000 in
theorem JA (L:Lays.n152 P ρ)(cs:ByteArray)(ha:Asc cs)(hcs:cs.size <=1000)(w:World):
 Calls P (ρ.f 152) #[.string cs,.int .i32 65533] w λe w'=>e=.returned (vI (-1))/\bW w w':=by
 have mixed:=L.mixed;have t3:=L.t3;have a3:=L.a3;have z3:=L.z3;have v3:=L.v3;have u3:=run_underlying L.t3;have t4:=L.t4;have a4:=L.a4;have z4:=L.z4;have v4:=L.v4;have u4:=run_underlying L.t4;have t9:=L.t9;have a9:=L.a9;have z9:=L.z9;have v9:=L.v9;have u9:=run_underlying L.t9;have t21:=L.t21;have a21:=L.a21;have z21:=L.z21;have v21:=L.v21;have u21:=run_underlying L.t21;go_enter L.f152,Body.n152_ntmps ρ;go_wp2;go_loopg [5,6] cs.size (λg _ _ wx=>∃i:Nat,i+g=cs.size/\wx=w.iter cs i)
 case atStart=>exact⟨0,by omega,rfl⟩
 case round=>
  obtain⟨i,hig,rfl⟩:=hrel;by_cases hi:i<cs.size
  ·have h128:=ha i _ (Lib.data_getElem? cs i hi);have hnx:∀ty,(Instr.next (.pointer (some ⟨w.heap.size,0,none⟩)) true ty).run P (w.iter cs i)=.ok (.tuple #[.bool true,vI i,.int .i32 ((cs[i]'hi).toNat:Nat)]) (w.iter cs (i+1)):=λty=>run_next_ascii (P:=P) w cs i ty hi h128;generalize cs[i]'hi=y at*;have hy:((y.toNat:Int)==65533)=false:=beq_eq_false_iff_ne.2 (by omega);go_wp2;go_roundg (cs.size-(i+1))
   case measure=>omega
   case rel=>exact⟨i+1,by omega,rfl⟩
  ·have e:i=cs.size:=by omega
   subst e;have hnx:=run_next_end (P:=P) w cs cs.size;go_wp2;go_ret;exact⟨rfl,(Below.refl _ _).alloc (Nat.le_refl _) _⟩
theorem Jy (L:Lays.n152 P ρ)(cs:ByteArray)(H:Asc cs)(I:cs.size <=1000)(r:Int)(w:World)(G:128 <=r):
 Calls P (ρ.f 152) #[.string cs,.int .i32 r] w λe w'=>e=.returned (vI (-1))/\bW w w':=by
 have E:∀n,bW w (w.drewN n):=λn=>⟨rfl,rfl,rfl,Nat.le_refl _,λ_ _=>rfl⟩
 by_cases D:r=65533
 ·rw[D];exact JA L cs H I w
 cases M:Lib.validRune r with
 |false=>exact(Jz L cs r w G D M).mono λe w' ⟨h1,n,q⟩=>⟨h1,q▸E n⟩
 |true=>exact(JB L cs H I r w G D M).mono λe w' ⟨h1,n,q⟩=>⟨h1,q▸E n⟩
theorem PR (s:ByteArray)(i:Nat)(h:i<s.size)(I:128 <=(s[i]'h).toNat):
 128 <=(Utf8.decode s i).1/\1 <=(Utf8.decode s i).2/\i+(Utf8.decode s i).2 <=s.size/\∀j,i <=j->(Z:j<i+(Utf8.decode s i).2)->∀D:j<s.size,128 <=(s[j]'D).toNat:=by
 have O:∀k (hk:k<s.size),s.get! k=s[k]'hk:=λk hk=>by
  simp[ByteArray.get!,getElem!_pos,hk];rfl
 unfold Utf8.decode;have X:(s.get! (i+0)).toNat=(s[i]'h).toNat:=by rw[Nat.add_zero,O i h]
 simp only[X];rw[if_neg (by omega)];have one:∀j,i <=j->j<i+1->∀D:j<s.size,128 <=(s[j]'D).toNat:=λj h1 q D=>by
  have:j=i:=by omega
  subst this;exact I
 have cont:∀k,(decide (i+k<s.size)&&(s.get! (i+k)).toNat/64==2)=true->∃hk:i+k<s.size,128 <=(s[i+k]'hk).toNat:=λk e=>by
  simp only[Bool.and_eq_true,dTx,beq_iff_eq]at e;refine⟨e.1,?_⟩;have:=e.2;rw[O _ e.1]at this;omega
 have H:128 <=Utf8.runeError:=by decide
 split
 ·rename_i e;rw[Bool.and_eq_true]at e;obtain⟨U,E⟩:=cont 1 e.2;split
  ·rename_i G;refine⟨G,show 1 <=2 by decide,by show i+2 <=_;omega,λj h1 q D=>?_⟩;have q:j<i+2:=q;have:j=i\/j=i+1:=by omega
   rcases this with rfl|rfl
   ·exact I
   ·exact E
  ·exact⟨H,by decide,by show i+1 <=_;omega,one⟩
 split
 ·rename_i e;rw[Bool.and_eq_true,Bool.and_eq_true]at e;obtain⟨U,E⟩:=cont 1 e.1.2;obtain⟨Y,M⟩:=cont 2 e.2;split
  ·rename_i G;rw[Bool.and_eq_true,dTx]at G;refine⟨by show 128 <=_;omega,show 1 <=3 by decide,by show i+3 <=_;omega,λj h1 q D=>?_⟩;have q:j<i+3:=q;have:j=i\/j=i+1\/j=i+2:=by omega
   rcases this with rfl|rfl|rfl
   ·exact I
   ·exact E
   ·exact M
  ·exact⟨H,by decide,by show i+1 <=_;omega,one⟩
 split
 ·rename_i e;rw[Bool.and_eq_true,Bool.and_eq_true,Bool.and_eq_true]at e;obtain⟨U,E⟩:=cont 1 e.1.1.2;obtain⟨Y,M⟩:=cont 2 e.1.2;obtain⟨ac,V⟩:=cont 3 e.2;split
  ·rename_i G;rw[Bool.and_eq_true,dTx]at G;refine⟨by show 128 <=_;omega,show 1 <=4 by decide,by show i+4 <=_;omega,λj h1 q D=>?_⟩;have q:j<i+4:=q;have:j=i\/j=i+1\/j=i+2\/j=i+3:=by omega
   rcases this with rfl|rfl|rfl|rfl
   ·exact I
   ·exact E
   ·exact M
   ·exact V
  ·exact⟨H,by decide,by show i+1 <=_;omega,one⟩
 ·exact⟨H,by decide,by show i+1 <=_;omega,one⟩
set_option maxHeartbeats 8000000 in
set_option maxRecDepth 1000000 in
theorem GA (L:Lays.n153 P ρ)(cs:ByteArray)(ha:Asc cs)(h2:2 <=cs.size)(hcs:cs.size <=1000)(s:ByteArray)(w:World)(h8:s.size <=8):
 Calls P (ρ.f 153) #[.string s,.string cs] w λe w'=>e=.returned (vI (Lib.indexAny s.data.toList cs.data.toList))/\bW w w':=by
 have hemp:cs.toList.isEmpty=false:=by
  rw[Lib.toList_data];cases h:cs.data.toList with
  |nil=>have:=Lib.size_eq cs;rw[h,length_nil]at this;omega
  |cons _ _=>rfl
 have hn1:((cs.size:Int)==1)=false:=beq_eq_false_iff_ne.2 (by omega);have h8z:decide ((8:Int)<(s.size:Int))=false:=decide_eq_false (by omega);have t3:=L.t3;have a3:=L.a3;have z3:=L.z3;have v3:=L.v3;have t4:=L.t4;have a4:=L.a4;have z4:=L.z4;have v4:=L.v4;have t5:=L.t5;have a5:=L.a5;have z5:=L.z5;have v5:=L.v5;have t9:=L.t9;have a9:=L.a9;have z9:=L.z9;have v9:=L.v9;have t21:=L.t21;have a21:=L.a21;have z21:=L.z21;have v21:=L.v21;have e152:∀args w,(callFunc (ρ.f 152) args).run P w=.ok (.enter (ρ.f 152) args) w:=enters_of L.f152 (by kernel_rfl) rfl;have e226:∀args w,(callFunc (ρ.f 226) args).run P w=.ok (.enter (ρ.f 226) args) w:=enters_of L.f226 (by kernel_rfl) rfl;have L152:Lays.n152 P ρ:= { L with }
 have HA:Aside (Asc cs):=ha;clear ha;go_enter L.f153,Body.n153_ntmps ρ;go_wp2_with (go_at_fn (ρ.f 226);refine(Any.strings_shouldUseASCIISet { L with } _ _).mono ?_;rintro e w' ⟨rfl,hw⟩;rw[hw,h8z]);go_loopg [9,10] s.size (λg _ _ wx=>∃i:Nat,i+g=s.size/\wx.heap[w.heap.size]? =some (.stringIter s i)/\bW w wx/\Lib.NoAny s.data.toList cs.data.toList i)
 case atStart=>exact⟨0,by omega,World.iter_heap w s 0,(Below.refl _ _).alloc (Nat.le_refl _) _,Lib.NoAny.zero _ _⟩
 case round=>
  obtain⟨i,hig,hit,hB,hno⟩:=hrel;have HN:Aside (Lib.NoAny s.data.toList cs.data.toList i):=hno;clear hno;by_cases hi:i<s.size
  ·obtain⟨x,hx⟩:∃x:UInt8,s[i]'hi=x:=⟨_,rfl⟩
   have hxl:s.data.toList[i]? =some x:=by rw[<- hx];exact Lib.data_getElem? s i hi
   by_cases hx128:x.toNat<128
   ·have hnx:=λty=>run_next_ascii_at (P:=P) wr w.heap.size s i ty hit hi (by rw[hx];exact hx128);rw[hx]at hnx;have hit2:=iterAt_heap wr w.heap.size s i (i+1) hit;have hB2:=below_iterAt hB (Nat.le_refl w.heap.size) s (i+1);have Hx:Aside (s.data.toList[i]? =some x):=hxl;clear hxl hx hit;have hcon:=Lib.contains_iff_indexByte cs.data.toList x;have hback:((x.toNat:Int)).toNat.toUInt8=x:=by simp
    cases hin:cs.data.toList.contains x
    ·rw[hin]at hcon;have hlt: ¬ ((0:Int) <=Lib.indexByte cs.data.toList x):=of_decide_eq_false hcon.symm;clear hcon;generalize hgw:wr.iterAt w.heap.size s (i+1)=wi at*;go_wp2_with (go_at_fn (ρ.f 152);refine(Any.strings_IndexRune_ascii { L with } _ _ _ (by omega) (by omega)).mono ?_;rintro e w' ⟨rfl,hw⟩;rw[hw,hback]);go_roundg (s.size-(i+1))
     case measure=>omega
     case rel=>exact⟨i+1,by omega,hit2,hB2,HN.out.succ Hx.out hin⟩
    ·rw[hin]at hcon;have hge:(0:Int) <=Lib.indexByte cs.data.toList x:=of_decide_eq_true hcon.symm;clear hcon;generalize hgw:wr.iterAt w.heap.size s (i+1)=wi at*;go_wp2_with (go_at_fn (ρ.f 152);refine(Any.strings_IndexRune_ascii { L with } _ _ _ (by omega) (by omega)).mono ?_;rintro e w' ⟨rfl,hw⟩;rw[hw,hback]);go_ret;exact⟨by rw[Lib.indexAny_hit HN.out Hx.out hin];rfl,hB2⟩
   ·have hd:=PR s i hi (by rw[hx];omega);have hnx:=λty=>run_next_any_at (P:=P) wr w.heap.size s i ty hit hi;have hit2:=iterAt_heap wr w.heap.size s i (i+(Utf8.decode s i).2) hit;have hB2:=below_iterAt hB (Nat.le_refl w.heap.size) s (i+(Utf8.decode s i).2);generalize hgw:wr.iterAt w.heap.size s (i+(Utf8.decode s i).2)=wi at*;generalize Utf8.decode s i=cn at*;obtain⟨c,n⟩:=cn;obtain⟨d1,d2,d3,d4⟩:=hd;simp only at d1 d2 d3 d4 hnx hit2;have hL:=Jy L152 cs HA.out hcs (c:Int) wi (by omega);have HD:Aside (∀j,i <=j->(hj:j<i+n)->∀hs:j<s.size,128 <=(s[j]'hs).toNat):=d4;clear d4 hx hxl hit;go_wp2_with (go_at_fn (ρ.f 152);refine hL.mono ?_;rintro e w' ⟨rfl,hw⟩);go_roundg (s.size-(i+n))
    case measure=>omega
    case rel=>
     rename_i hw;refine⟨i+n,by omega,?_,ae hB2 hw hB2.size,?_⟩
     ·rw[hw.block _ (Array.getElem?_eq_some_iff.1 hit2).1];exact hit2
     ·intro j b hj hjb;by_cases hji:j<i
      ·exact HN.out j b hji hjb
      ·have hjs:j<s.size:=by omega
       have h1:=HD.out j (by omega) hj hjs;have h2:s.data.toList[j]? =some (s[j]'hjs):=Lib.data_getElem? s j hjs;rw[h2]at hjb;rw[Option.some.inj hjb]at h1;rw[Bool.eq_false_iff];intro hc;rw[List.contains_iff_mem]at hc;obtain⟨k,hk⟩:=List.getElem?_of_mem hc;have:=HA.out k b hk;omega
  ·have hnx:=λty=>run_next_end_at (P:=P) wr w.heap.size s i ty hit hi;go_wp2;go_ret;have e:i=s.size:=by omega
   have hno:=HN.out;rw[e]at hno;exact⟨by rw[Lib.indexAny_none (by rw[<- Lib.size_eq];exact hno)];rfl,hB⟩
theorem xd (cs:lU)(e:2 <=cs.length)(I:cs.length <=1000)(H:∀c∈cs,c.toNat<128)(s:lU)(M:s.length<4294967281)(w:World):
 Cf eY #[vS s,vS cs] w (Ret λv w'=>v=vI (Lib.indexAny s cs)/\bW w w'):=by
 have q:∀s,(mkS s).size=s.length:=λs=>by show s.toArray.size=_;simp
 have hA:Asc (mkS cs):=λj b h=>H b (List.mem_of_getElem? h);by_cases G:(mkS s).size <=8
 ·exact(GA Tryz.lays153 (mkS cs) hA (by rw[q];exact e) (by rw[q];exact I) (mkS s) w G).mono λE w' ⟨h1,e⟩=>⟨_,h1,rfl,e⟩
 ·have D:(prog.info? (Tryz.lays153_ren.t 116)).map (λi=>(i.zero,i.size))=some (some (.agg (Array.replicate 256 (.bool false))),256):=by kernel_rfl
  refine(Any.strings_IndexAny_long Tryz.lays153 (zero_of_info D).1 (zero_of_info D).2 (mkS s) (mkS cs) w (by rw[q];exact e) (by omega) (by rw[q];exact M) (by rw[q];omega) hA).mono λE w' ⟨h1,e⟩=>⟨_,h1,rfl,?_⟩
  rw[e];exact((Below.refl _ _).alloc (Nat.le_refl _) _).alloc (by simp) _
theorem Ad (s:lU)(e:s.length<4294967281)(w:World):
 Cf eY #[vS s,vS [32,9]] w (Ret λv w'=>v=vI (Lib.indexAny s [32,9])/\bW w w'):=xd [32,9] (by decide) (by decide) (by decide) s e w
end
end Go.Pk
