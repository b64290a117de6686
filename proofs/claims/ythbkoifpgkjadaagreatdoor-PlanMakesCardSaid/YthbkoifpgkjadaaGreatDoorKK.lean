/- What the laws lean on: RfB, TplR, V62, RfC, RfD, RfE, PlnB, V59; what is used. Its conditions: none. -/
import Derived.Test.YthbkoifpgkjadaaGreatDoorKJ
set_option linter.unusedVariables false
set_option linter.unusedSimpArgs false
set_option linter.unusedSectionVars false
set_option maxRecDepth 100000
open List (all_append append_assoc append_nil dropWhile_cons drop_eq_getElem_cons drop_eq_nil_of_le getElem_mem length length_append length_cons length_drop length_nil length_singleton length_take map_append map_cons map_nil mem_append mem_append_left mem_cons_of_mem mem_cons_self mem_of_mem_take mem_singleton take_length take_succ_eq_append_getElem)
variable {n i j k:Nat}{w:Go.World}{p q:Option Go.Addr}{A B C:Go.Pk.Bl}{s r:List UInt8}{y:Type}{t:Go.TypeId}
open Go.IntKind (i64)
open Go.Proofs.Tryz
open List (length)
open Option (isSome)
namespace Go.Pk
open Go.RowKit (Below)
open Go.Proofs
theorem BL (s:lU)(V:s.length <=1000000)(w:World):Cf gM #[vS s] w (Ret λv w'=>v=vI (ER s)/\w'=w):=by
 apply zH;refine⟨λm i w'=>w'=w/\∃k:Nat,i=(k:Int)+1/\m=s.length-k/\k <=(s.takeWhile pU).length,⟨_,rfl,0,rfl,rfl,Nat.zero_le _⟩,λm i=>aP.of ?_ _⟩;rintro H ⟨rfl,k,rfl,rfl,O⟩;have R:(s.takeWhile pU).length <=s.length:=(List.takeWhile_sublist _).length_le;have J:i64.wrap ((k:Int)+1-1)=(k:Int):=by rw[wrJ];omega
 have I:i64.wrap ((k:Int)+1+1)=((k+1:Nat):Int)+1:=by rw[wrJ];omega
 rw[J,I];refine ab.of (λh=>?_) (λh=>?_)<;>simp only[dTx,dFx]at h
 ·have F:k<s.length:=by omega
  have M:aU s (k:Int)=((s[k].toNat:Nat):Int):=iq (by simpa using F);have E:=nf pU s k F O;have D:pU s[k]=true->∃G:Nat,G<s.length-k/\H=H/\∃k':Nat,((k+1:Nat):Int)+1=(k':Int)+1/\G=s.length-k'/\k' <=(s.takeWhile pU).length:=λe=>⟨s.length-(k+1),by omega,rfl,k+1,rfl,rfl,E.1 e⟩
  refine⟨⟨by omega,by omega⟩,?_⟩;rw[M];refine ab.of (λh1=>D ?_) (λh1=>⟨⟨by omega,by omega⟩,ab.of (λy=>D ?_) (λy=>⟨?_,rfl⟩)⟩)
  ·have:=UInt8.toNat_inj.1 (show s[k].toNat=(32:UInt8).toNat from Q4 (k:=32) h1);rw[this];rfl
  ·have:=UInt8.toNat_inj.1 (show s[k].toNat=(9:UInt8).toNat from Q4 (k:=9) y);rw[this];rfl
  ·have U: ¬ k<(s.takeWhile pU).length:=λc=>by
    have:=E.2 c;unfold pU at this;rw[Bool.or_eq_true,beq_iff_eq,beq_iff_eq]at this;rcases this with e|e
    ·exact Nx (k:=32) h1 (by rw[e];rfl)
    ·exact Nx (k:=9) y (by rw[e];rfl)
   unfold ER;congr 1;omega
 ·refine⟨?_,rfl⟩;unfold ER;congr 1;omega
set_option maxHeartbeats 1000000 in
theorem GH (s:lU)(w:World):Cf qZ #[vS s] w (Ret (un s w)):=by
 apply DY;intro H y dd b4;have ad:=(b4▸ar w _:bW w y)
 have be:aB y H ax (nG (0,0,0)):=aB.new dd b4;have eg:=be.lt;have bu:∀{W:World} {a:Option Addr} {n c:Nat} (f:Flt),bW y W->(∀wx,bW w wx->W.grownBy wx (some H)->un s w (.tuple #[.slice a n c,vE f]) wx)->∃wx,(Instr.storeAt ax (.pointer (some ⟨H,0,none⟩)) (vE f)).run prog W=.ok () wx/\
  ∃(p q r:Int),(aS ax (.pointer (some ⟨H,0,none⟩))).run prog wx=.ok (.agg #[vI p,vI q,vI r]) wx/\un s w (.tuple #[.slice a n c,.agg #[vI p,vI q,vI r]]) wx:=fun{W a n c} f E c2=>by
  obtain⟨wx,dr,du,b1⟩:=di.store0 (P:=prog) (cs:=nG f) rfl (pC _) (be.below E) rfl;exact⟨wx,dr,f.1,f.2.1,f.2.2,aB.res (di.load0 du rfl),c2 wx (Below.put (ae ad E ad.size) b1 (by omega)) b1⟩
 have bp:∀{W:World} (f:Flt),pJ s=.inr f->f.1≠0->bW y W->_:=fun{W} f e Z E=>bu (a:=none) (n:=0) (c:=0) f E λwx B _=>⟨B,by rw[e];exact⟨rfl,Z⟩⟩
 intro a8 w12 dc b3;have Z:Sp y [ptO wv aC (some ⟨a8,0,none⟩) 0 0 []] w12:=(Sp.nil y).add (b3▸ar y _) (p:=ptO wv aC (some ⟨a8,0,none⟩) 0 0 []) (Ow.newF zZa dc b3 (l:=[]) (jc.nil _ _ _) (by decide)) λb E=>by have E:b∈(fm (some (⟨a8,0,none⟩:Addr))).toList:=E;have:=bV.1 E;simp[fm]at this;omega
 refine ab.of (λc1=>bp (54,1,1) (lO (by have:=of_decide_eq_true c1;omega)) (show(54:Int)≠0 by decide) Z.bw) (λc1=>?_);have c1: ¬ 20000<s.length:=by have:=of_decide_eq_false c1;omega
 refine aK (nB s (by omega) w12) ?_;rintro _ ek ⟨b,nb,I,rfl,b9,cl,cc⟩;have h1:=Z.add cc (p:=ptO tS ai b nb I (fF s)) b9 λg J=>cl g (bV.1 J);have c3:=nU s;have d5:=lP s;have hV:pJ s=jX Dc 0 ((fF s).drop 0) []:=jY c1;generalize fF s=L at*;have dg:=b9.len;subst dg;refine⟨_,_,_,rfl,λm a n c i W=>∃(j:Nat) (out:List Rul),j <=L.length/\i=(j:Int)/\m=L.length-j/\out.length <=200/\Sp y [ptO tS ai b L.length I L,ptO wv aC a n c out] W/\pJ s=jX Dc j (L.drop j) out,
  ⟨_,0,[],Nat.zero_le _,rfl,rfl,by decide,h1,hV⟩,λm a n c i=>aP.of ?_ _⟩
 rintro bb ⟨j,out,d6,rfl,rfl,cp,F,an⟩;have b8:Ow tS ai bb NoB b L.length I L:=F.at 0 rfl;have cb:Ow wv aC bb NoB a n c out:=F.at 1 rfl;have df:=cb.len;subst df;refine ab.of (λaf=>?_) (λaf=>?_)<;>simp only[dTx,dFx]at af
 rotate_left
 ·have b0:bo y.heap.size a:=λg J=>F.low (ptO wv aC a out.length c out) (mem_cons_of_mem _ mem_cons_self) g (bV.2 J);refine bu (0,0,0) F.bw λwx B g=>⟨B,?_⟩
  rw[an,nM Dc (by omega)];exact⟨_,_,_,rfl,cb.put (λg J e=>by have:=b0 g J;omega) g,b0.mono ad.size⟩
 have M:j<L.length:=by omega
 have ch:i64.wrap ((j:Int)+1)=(j:Int)+1:=wrJ;have ea:=c3 _ (getElem_mem M);refine⟨⟨⟨by omega,af⟩,b8.all.isSome M⟩,L[j],b8.all.text aI M,?_⟩;rw[ch];have next:∀{W:World} {a:Option Addr} {n c:Nat} {R:List Rul},Dc j out L[j]=.inl R->R.length <=200->Sp y [ptO tS ai b L.length I L,ptO wv aC a n c R] W->∃b6:Nat,b6<L.length-j/\∃(O:Nat) (out:List Rul),O <=L.length/\(j:Int)+1=(O:Int)/\b6=L.length-O/\out.length <=200/\Sp y [ptO tS ai b L.length I L,ptO wv aC a n c out] W/\pJ s=jX Dc O (L.drop O) out:=
  fun{W a n c R} e F h=>⟨L.length-(j+1),by omega,j+1,R,by omega,rfl,rfl,F,h,by rw[an,je M e]⟩
 refine aK (GI L[j] (by omega) bb) ?_;rintro _ d1 ⟨rfl,bl⟩;have c9:L[j].length <=1000000:=by omega
 have D:Dc j out L[j]=if(eZ L[j]).2.2≠0 then .inr ((eZ L[j]).2.2,ER L[j])else if(eZ L[j]).2.1=false then .inl out else if(eZ L[j]).1∈out then .inr (52,ER L[j])else if out.length=200 then .inr (53,ER L[j])else .inl (out++[(eZ L[j]).1]):=rfl;generalize eZ L[j]=dl at*;obtain⟨r,ei,bt⟩:=dl;simp only at D;refine⟨_,_,_,_,rfl,gG.new (zs:=rN (0,[])) (cs:=rN r) rfl rfl (uW _) d1 λef d4 d9 b2 c8=>?_⟩;have aa:=F.below (ae bl c8 bl.size);have aj:∀{W:World} (e:Int),Dc j out L[j]=.inr (e,ER L[j])->e≠0->bW y W->Cf gM #[.string (mkS L[j])] W λcf d2=>∃(b7:Int),cf=.returned (vI b7)/\
  ∃(wx_2:World),(Instr.storeAt ax (.pointer (some ⟨H,0,none⟩)) (.agg #[vI e,vI ((j:Int)+1),vI b7])).run prog d2=.ok () wx_2/\
  ∃(p q r:Int),(aS ax (.pointer (some ⟨H,0,none⟩))).run prog wx_2=.ok (.agg #[vI p,vI q,vI r]) wx_2/\un s w (.tuple #[.slice none 0 0,.agg #[vI p,vI q,vI r]]) wx_2:=fun{W} e E dj cv=>by
  refine aK (BL L[j] c9 W) ?_;rintro _ _ ⟨rfl,rfl⟩;exact⟨_,rfl,bp (e,(j:Int)+1,ER L[j]) (by rw[an,kw M E]) dj cv⟩
 refine ab.of (λc5=>aj bt (D.trans (if_pos (by simpa using c5))) (by simpa using c5) aa.bw) (λc5=>?_);have c5:bt=0:=by simpa using c5
 rw[if_neg (by rw[c5];decide)]at D;refine ab.of (λag=>next (D.trans (if_pos (by simpa using ag))) cp aa) (λag=>?_);rw[if_neg (by simpa using ag)]at D;refine⟨λm i U=>∃k:Nat,k <=out.length/\i=(k:Int)/\m=out.length-k/\r∉out.take k/\bW d4 U,⟨_,0,by omega,rfl,rfl,by simp,Below.refl _ _⟩,λm i=>aP.of ?_ _⟩;rintro U ⟨k,d7,rfl,rfl,av,V⟩;have a0:=aa.below V;have a9:Ow wv aC U NoB a out.length c out:=a0.at 1 rfl;refine ab.of (λc6=>?_) (λc6=>?_)<;>simp only[dTx,dFx]at c6
 ·have ac:k<out.length:=by omega
  refine⟨⟨⟨by omega,c6⟩,a9.all.isSome ac⟩,_,_,LF a9.all ac,gG.new (zs:=rN (0,[])) (cs:=rN out[k]) rfl rfl (uW _) U λeb dv d8 cn c4=>?_⟩;have B11:=ae V c4 V.size;refine⟨_,_,gG.load0 cn rfl,_,_,gG.load0 (b2.below B11) rfl,_,TE _ _ dv,ab.of (λY=>?_) (λY=>?_)⟩
  ·have e:out[k]=r:=(BQ _ _).1 Y;exact aj 52 (D.trans (if_pos (by rw[<- e];exact getElem_mem ac))) (by decide) (aa.below B11).bw
  ·refine⟨out.length-(k+1),by omega,k+1,by omega,by rw[wrJ];omega,rfl,λG=>?_,B11⟩;rw[take_succ_eq_append_getElem ac]at G;rcases List.mem_append.1 G with G|G
   ·exact av G
   ·rw[(BQ _ _).2 (List.mem_singleton.1 G).symm]at Y;cases Y
 ·obtain rfl:k=out.length:=by omega
  rw[take_length]at av;rw[if_neg av]at D;refine ab.of (λbs=>?_) (λbs=>?_)<;>simp only[ge_iff_le,dTx,dFx]at bs
  ·exact aj 53 (D.trans (if_pos (by omega))) (by decide) a0.bw
  ·rw[if_neg (by omega)]at D;refine⟨_,_,gG.load0 (b2.below V) rfl,λed em de dk=>?_⟩;obtain⟨_,d3,bk,b5,bq,ds,dn,cd,dm⟩:=M5 (ty:=eD) zZa tG pP (by decide) a9 de dk (x:=r) (vs:=rN r) rfl (cm:=1) (by omega);exact⟨d3,bk,b5,bq,ds,next D (by simp;omega) (a0.upd 1 rfl cd (p':=ptO wv aC bk b5 bq (out++[r])) dn dm.fp)⟩

abbrev Tok:=UInt8 ⊕ Int
def P1 (l:List Cho)(r:lU):Prop:=(125:UInt8)∈r/\nmB (r.takeWhile (· !=125))=true/\0 <=atC l (r.takeWhile (· !=125))
instance  (l:List Cho)(r:lU):Decidable (P1 l r):=inferInstanceAs (Decidable (_/\_/\_))
instance  (l:List Cho)(s:lU):Decidable (TA l s):=inferInstanceAs (Decidable (_/\_/\_))
def Dh (l:List Cho):Nat->lU->Option (List Tok)
 |0,_=>some []
 |_+1,[]=>some []
 |k+1,c::r=>if c=123 then(if P1 l r then(Dh l k (dF 125 r)).map (.inr (atC l (r.takeWhile (· !=125))):: ·)else none)else(Dh l k r).map (.inl c:: ·)
def Di (l:List Cho)(s:lU):Option (List Tok):=Dh l s.length s
def KK (p:Prt):List Tok:=p.1.map .inl++if p.2<0 then[]else[.inr p.2]
theorem FH (l:List Cho):∀k,Dh l k []=some []
 |0=>rfl
 |_+1=>rfl
theorem AA (l:List Cho):∀(k:Nat) (s:lU) (m:Nat),s.length <=k->s.length <=m->Dh l k s=Dh l m s
 |_,[],m,_,_=>by rw[FH,FH]
 |0,_::_,_,h,_=>absurd h (by simp)
 |_+1,_::_,0,_,h=>absurd h (by simp)
 |k+1,c::r,m+1,y,D=>by
  have E:=fh 125 r;simp only[length_cons]at y D;unfold Dh;rw[AA l k r m (by omega) (by omega),AA l k (dF 125 r) m (by omega) (by omega)]
theorem K5 (l:List Cho):Di l []=some []:=rfl
theorem HT {l:List Cho}{c:UInt8}(r:lU)(h:c≠123):Di l (c::r)=(Di l r).map (.inl c:: ·):=by
 unfold Di;rw[length_cons,Dh,if_neg h]
theorem K4 {l:List Cho}(h: ¬ P1 l r):Di l (123::r)=none:=by
 unfold Di;rw[length_cons,Dh,if_pos rfl,if_neg h]
theorem HU {l:List Cho}(h:P1 l r):Di l (123::r)=(Di l (dF 125 r)).map (.inr (atC l (r.takeWhile (· !=125))):: ·):=by
 unfold Di;have:=fh 125 r;rw[length_cons,Dh,if_pos rfl,if_pos h,AA l _ (dF 125 r) (dF 125 r).length (by omega) (Nat.le_refl _)]
theorem Gz (l:List Cho):∀(k:Nat) (s:lU),s.length <=k->(xV l k s).map (·.flatMap KK)=Dh l k s
 |k,[],_=>by rw[FH,sQ];rfl
 |0,_::_,h=>absurd h (by simp)
 |k+1,c::r,G=>by
  simp only[length_cons]at G;have J:=fh 125 r;by_cases D:c=123
  ·subst D;unfold Dh xV;have E:((123:UInt8)::r).dropWhile (· !=123)=123::r:=rfl;have F:((123:UInt8)::r).takeWhile (· !=123)=[]:=rfl;rw[if_neg (by simp),if_pos (by simp),if_pos rfl,E,F,List.drop_one,List.tail_cons];show Option.map _ (if P1 l r then _ else none)=_;by_cases hp:P1 l r
   ·rw[if_pos hp,if_pos hp,<- Gz l k (dF 125 r) (by omega)];show Option.map _ (Option.map _ (xV l k (dF 125 r)))=_;cases xV l k (dF 125 r)with
    |none=>rfl
    |some ps=>
     have: ¬ atC l (r.takeWhile (· !=125))<0:=by have:=hp.2.2;omega
     simp[KK,this]
   ·rw[if_neg hp,if_neg hp];rfl
  ·have I:=Gz l k r (by omega);unfold Dh;rw[if_neg D,<- I];by_cases y:(123:UInt8)∈r
   ·obtain⟨m,rfl⟩:∃m,k=m+1:=⟨k-1,by have:=List.length_pos_of_mem y;omega⟩
    have H:r≠[]:=List.ne_nil_of_mem y;have M:=fh 123 r;have O:=fh 125 (dF 123 r);have E:(c::r).dropWhile (· !=123)=r.dropWhile (· !=123):=by rw[dropWhile_cons,if_pos (by simpa using D)]
    have F:(c::r).takeWhile (· !=123)=c::r.takeWhile (· !=123):=by rw[List.takeWhile_cons,if_pos (by simpa using D)]
    have e3:=BH l (m+1) (dF 125 (dF 123 r)) m (by omega) (by omega);have a1:xV l (m+1) r=if TA l r then(xV l m (dF 125 (dF 123 r))).map λq=>(r.takeWhile (· !=123),-1)::([],atC l ((dF 123 r).takeWhile (· !=125)))::q else none:=by
     conv=>lhs;unfold xV
     rw[if_neg H,if_pos y];rfl
    have a2:xV l (m+1+1) (c::r)=if TA l r then(xV l (m+1) (dF 125 (dF 123 r))).map λq=>(c::r.takeWhile (· !=123),-1)::([],atC l ((dF 123 r).takeWhile (· !=125)))::q else none:=by
     conv=>lhs;unfold xV
     rw[if_neg (by simp),if_pos (mem_cons_of_mem _ y),E,F];rfl
    rw[a1,a2,e3];split
    ·cases xV l m (dF 125 (dF 123 r))with
     |none=>rfl
     |some ps=>simp[KK]
    ·rfl
   ·have a2:xV l (k+1) (c::r)=some [(c::r,-1)]:=by
     conv=>lhs;unfold xV
     rw[if_neg (by simp),if_neg (by rw[List.mem_cons];exact λh=>h.elim (λe=>D e.symm) y)]
    rw[a2];cases r with
    |nil=>rw[sQ];simp[KK]
    |cons d r=>
     obtain⟨m,rfl⟩:∃m,k=m+1:=⟨k-1,by simp at G;omega⟩
     have a1:xV l (m+1) (d::r)=some [(d::r,-1)]:=by
      conv=>lhs;unfold xV
      rw[if_neg (by simp),if_neg y]
     rw[a1];simp[KK]
theorem Sx (l:List Cho)(s:lU):(Db l s).map (·.flatMap KK)=Di l s:=Gz l _ s (Nat.le_refl _)
def stT (out:List Int):Tok->List Int
 |.inl _=>out
 |.inr i=>if i∈out then out else out++[i]
theorem Jk (out:List Int):∀x:lU,(x.map (Sum.inl:UInt8->Tok)).foldl stT out=out
 |[]=>rfl
 |_::r=>Jk out r
theorem Ap:∀(ps:List Prt) (out:List Int),(ps.flatMap KK).foldl stT out=ps.foldl vc out
 |[],_=>rfl
 |p::ps,out=>by
  rw[List.flatMap_cons,List.foldl_append,List.foldl_cons,<- Ap ps];congr 1;unfold KK vc;rw[List.foldl_append,Jk];by_cases h:p.2<0
  ·rw[if_pos h,if_neg (by omega)];rfl
  ·rw[if_neg h];show(if p.2∈out then out else out++[p.2])=_;by_cases y:p.2∈out
   ·rw[if_pos y,if_neg (by rintro⟨_,h3⟩;exact h3 y)]
   ·rw[if_neg y,if_pos ⟨by omega,y⟩]
def ZK (l:List Cho):Tok->Nat
 |.inl _=>1
 |.inr i=>ql (dR l i)
def Hg (l:List Cho)(ts:List Tok):Nat:=(ts.map (ZK l)).sum
theorem wE (l:List Cho)(a b:List Tok):Hg l (a++b)=Hg l a+Hg l b:=by unfold Hg;rw[map_append,List.sum_append]
theorem Fh (l:List Cho):∀x:lU,Hg l (x.map .inl)=x.length
 |[]=>rfl
 |_::r=>by
  have:=Fh l r;unfold Hg at*;simp only[map_cons,List.sum_cons,this,length_cons];show 1+r.length=_;omega
theorem Gf (l:List Cho):∀(ps:List Prt) (n:Nat),2000<IH l ps (n:Int)↔2000<n+Hg l (ps.flatMap KK)
 |[],n=>by
  show(2000:Int)<(n:Int)↔_;simp only[List.flatMap_nil,Hg,map_nil,List.sum_nil];omega
 |p::ps,n=>by
  rw[xQ,List.flatMap_cons,wE];have e:Hg l (KK p)=p.1.length+if p.2<0 then 0 else ql (dR l p.2):=by
   unfold KK;rw[wE,Fh];split<;>simp[Hg,ZK]
  rw[e];split
  ·have:=Gf l ps (n+p.1.length);rw[show((n:Int)+(p.1.length:Nat))=((n+p.1.length:Nat):Int) by omega,this];omega
  ·split
   ·constructor<;>intro _<;>omega
   ·have:=Gf l ps (n+p.1.length+ql (dR l p.2));rw[show((n:Int)+(p.1.length:Nat)+(ql (dR l p.2):Nat))=((n+p.1.length+ql (dR l p.2):Nat):Int) by omega,this];omega
def Ra (l:List Cho):List Int->Int->Int
 |[],n=>n
 |i::r,n=>Ra l r (min (n*min (((dR l i).length:Nat):Int) 25) 25)
theorem Pv (l:List Cho):∀us:List Int,(∀i∈us,1 <=(dR l i).length)->Ra l us 25=25
 |[],_=>rfl
 |i::r,h=>by
  have h1:=h i mem_cons_self;have:(min ((25:Int)*min (((dR l i).length:Nat):Int) 25) 25)=25:=by omega
  rw[Ra,this,Pv l r λk y=>h k (mem_cons_of_mem _ y)]
theorem LK (l:List Cho):∀(us:List Int) (n:Int),(∀i∈us,1 <=(dR l i).length)->1 <=n->n <=24->(24<M8 l us n↔24<Ra l us n)
 |[],n,_,_,_=>Iff.rfl
 |i::r,n,h,h1,G=>by
  have I:=h i mem_cons_self;rw[xY,Ra];generalize y:(((dR l i).length:Nat):Int)=k at*;have E:1 <=k:=by omega
  have J:n*1 <=n*k:=Int.mul_le_mul_of_nonneg_left E (by omega);have D:=λk y=>h k (mem_cons_of_mem i y);by_cases c:24<n*k
  ·rw[if_pos c];have:(min (n*min k 25) 25:Int)=25:=by
    by_cases F:k <=25
    ·rw[show min k 25=k by omega];omega
    ·rw[show min k 25=(25:Int) by omega];omega
   rw[this,Pv l r D];omega
  ·rw[if_neg c];have H:k <=24:=by
    have:1*k <=n*k:=Int.mul_le_mul_of_nonneg_right h1 (by omega);omega
   rw[show min k 25=k by omega,show min (n*k) 25=n*k by omega];exact LK l r _ D (by omega) (by omega)
theorem D6 (a:lU){w K}(h:∃b:Nat->FP [shI],(∃c,b c (0:Int) w)/\∀c d,aP 29 (∀e,b c d e->ab (decide (d<((length a:Nat):Int))) (bx d ((length a:Nat):Int)/\ab (decide ((aU a d)<(97:Int))) (bx d ((length a:Nat):Int)/\ab (decide ((aU a d)<(48:Int))) (K (.bool false) e) (bx d ((length a:Nat):Int)/\ab (decide ((aU a d)>(57:Int))) (K (.bool false) e) (∃f:Nat,f<c/\b f (i64.wrap (d+1)) e))) (bx d ((length a:Nat):Int)/\ab (decide ((aU a d)>(122:Int))) (bx d ((length a:Nat):Int)/\ab (decide ((aU a d)<(48:Int))) (K (.bool false) e) (bx d ((length a:Nat):Int)/\ab (decide ((aU a d)>(57:Int))) (K (.bool false) e) (∃f:Nat,f<c/\b f (i64.wrap (d+1)) e))) (∃f:Nat,f<c/\b f (i64.wrap (d+1)) e))) (ab (decide (((length a:Nat):Int) >=1)) (K (.bool (decide (((length a:Nat):Int) <=20))) e) (K (.bool false) e)))):Cf ku #[vS a] w (Ret K):=ru func165 [(6,[(3,shI)])] h
theorem Jh (a:Option Addr)(b c:Nat)(d:lU){w K}(h:∃e:Nat->FP [shI],(∃f,e f (0:Int) w)/\∀f g,aP 13 (∀i,e f g i->ab (decide (g<(b:Int))) ((bx g (b:Int)/\Option.isSome a=true)/\∃j k l m,Ld au (aw a g 2) i (.agg #[vS j,.slice k l m])/\nA i (.cells #[vS [],.slice none 0 0] au) λn o=>∃p,Sv au (vA n 0) (.agg #[vS j,.slice k l m]) o p/\true/\∃q,Ld ai (vA n 0) p (vS q)/\ab (q==d) (K (vI g) p) (∃r:Nat,r<f/\e r (i64.wrap (g+1)) p)) (K (vI (-1)) i))):Cf nJ #[.slice a b c,vS d] w (Ret K):=ru func166 [(6,[(9,shI)])] h
theorem Cu (a:lU){w K}(h:∃b:Nat->FP [shI],(∃c,b c (1:Int) w)/\∀c d,aP 19 (∀e,b c d e->ab (decide (d<((length a:Nat):Int))) (bx d ((length a:Nat):Int)/\ab ((aU a d)==125) ((bd d (((length a):Nat):Int)/\0 <=(1:Int)/\(1:Int) <=((Int.toNat d:Nat):Int))/\∀f,f=(List.drop (Int.toNat 1) (List.take (Int.toNat d) a))->(bd d (((length a):Nat):Int)/\0 <=(1:Int)/\(1:Int) <=((Int.toNat d:Nat):Int))/\∀g,g=(List.drop (Int.toNat 1) (List.take (Int.toNat d) a))->∃i,(∀j,bW e j->Cf ku #[vS g] j λk l=>k=.returned (.bool i)/\Below e.heap.size j l)/\∀j,bW e j->K (.tuple #[vS f,.bool i]) j) (∃f:Nat,f<c/\b f (i64.wrap (d+1)) e)) (K (.tuple #[vS [],.bool false]) e))):Cf lG #[vS a] w (Ret K):=ru func208 [(6,[(4,shI)])] h
theorem D8 (a:lU)(b:Option Addr)(c d:Nat){w K}(h:nA w (.cells #[] co) λe f=>∃g:Nat->FP [.one .slice,shI],(∃i,g i (vA e 0) 0 0 (0:Int) f)/\∀i j k l m,aP 57 (∀n,g i j k l m n->ab (decide (m<((length a:Nat):Int))) (bx m ((length a:Nat):Int)/\ab ((aU a m) !=123) (∃o:Nat,o<i/\g o j k l (i64.wrap (m+1)) n) (bd m (((length a):Nat):Int)/\∀o,o=(List.drop (Int.toNat m) a)->Cf lG #[vS o] n λp q=>∃r s,p=rT #[vS r,.bool s]/\uI nJ #[.slice b c d,vS r] q λt u=>∃v:FP [],(ab (!s) (K (.tuple #[.slice none 0 0,.bool false]) u) (ab (decide (t<(0:Int))) (K (.tuple #[.slice none 0 0,.bool false]) u) (v u)))/\aP 8 (∀x,v x->∃y:Nat->FP [shB,shI],(∃z,y z false (0:Int) x)/\∀z A B,aP 11 (∀C,y z A B C->ab (decide (B<(k:Int))) ((bx B (k:Int)/\Option.isSome j=true)/\∃D,Ld co (aw j B 1) C (vI D)/\ab A (∃E:Nat,E<z/\y E true (i64.wrap (B+1)) C) (∃E:Nat,E<z/\y E (D==t) (i64.wrap (B+1)) C)) (∃D:FP [.one .slice],(ab (!A) (nA C (.cells #[vI t] co) λE F=>∃G H I J,(Builtin.append_ #[lu,lu] lu #[.slice j k l,.slice (vA E 0) 1 1]).run prog F=.ok (.slice H I J) G/\D H I J G) (D j k l C))/\∀E F G,aP 6 (∀H,D E F G H->∃I:Nat,I<i/\g I E F G (i64.wrap ((i64.wrap (m+(i64.wrap (((length r:Nat):Int)+1))))+1)) H)))))) (K (.tuple #[.slice j k l,.bool true]) n))):Cf rf #[vS a,.slice b c d] w (Ret K):=ru func117 [(8,[(6,.one .slice),(7,shI)]),(27,[]),(41,[(11,shB),(43,shI)]),(54,[(6,.one .slice)])] h
theorem EA (a:Option Addr)(b c:Nat)(d:Option Addr)(e f:Nat){w K}(h:∃g:Nat->FP [shI,shI],(∃i,g i (1:Int) (0:Int) w)/\∀i j k,aP 16 (∀l,g i j k l->ab (decide (k<(b:Int))) ((bx k (b:Int)/\Option.isSome a=true)/\∃m,Ld co (aw a k 1) l (vI m)/\(bx m (e:Int)/\Option.isSome d=true)/\(isSome (aw d m 2))/\∃n o p,Ld aA (Option.map (λq=>q.add 1) (aw d m 2)) l (.slice n o p)/\∃q,(Builtin.min_ #[co,co] co #[vI (o:Int),vI 25]).run prog l=.ok (vI q) l/\∃r,(Builtin.min_ #[co,co] co #[vI (i64.wrap (j*q)),vI 25]).run prog l=.ok (vI r) l/\∃s:Nat,s<i/\g s r (i64.wrap (k+1)) l) (K (vI j) l))):Cf ri #[.slice a b c,.slice d e f] w (Ret K):=ru func118 [(8,[(5,shI),(10,shI)])] h
theorem D9 (a:lU)(b:Option Addr)(c d:Nat){w K}(h:∃e:Nat->FP [shI,shI],(∃f,e f (0:Int) (0:Int) w)/\∀f g i,aP 52 (∀j,e f g i j->∃k:FP [],(ab (decide (i<((length a:Nat):Int))) (ab (decide (g <=2000)) (k j) (K (.bool (decide (g>(2000:Int)))) j)) (K (.bool (decide (g>(2000:Int)))) j))/\aP 8 (∀l,k l->bx i ((length a:Nat):Int)/\ab ((aU a i) !=123) (∃m:Nat,m<f/\e m (i64.wrap (g+1)) (i64.wrap (i+1)) l) (bd i (((length a):Nat):Int)/\∀m,m=(List.drop (Int.toNat i) a)->Cf lG #[vS m] l λn o=>∃p q,n=rT #[vS p,.bool q]/\uI nJ #[.slice b c d,vS p] o λr s=>(bx r (c:Int)/\Option.isSome b=true)/\(isSome (aw b r 2))/\∃t u v,Ld aA (Option.map (λx=>x.add 1) (aw b r 2)) s (.slice t u v)/\∃x:Nat->FP [shI,shI],(∃y,x y (0:Int) (0:Int) s)/\∀y z A,aP 9 (∀B,x y z A B->ab (decide (A<(u:Int))) ((bx A (u:Int)/\Option.isSome t=true)/\∃C,Ld ai (aw t A 1) B (vS C)/\∃D,(Builtin.max_ #[co,co] co #[vI z,vI ((length C:Nat):Int)]).run prog B=.ok (vI D) B/\∃E:Nat,E<y/\x E D (i64.wrap (A+1)) B) (∃C:Nat,C<f/\e C (i64.wrap (g+z)) (i64.wrap ((i64.wrap (i+(i64.wrap (((length p:Nat):Int)+1))))+1)) B)))))):Cf rh #[vS a,.slice b c d] w (Ret K):=ru func119 [(8,[(5,shI),(6,shI)]),(9,[]),(33,[(9,shI),(43,shI)])] h
theorem zK (a:Option Addr)(b c:Nat)(d:Option Addr)(e f:Nat){w K}(h:nA w (.cells #[vS [],.slice none 0 0] au) λg i=>(bx (1:Int) (b:Int)/\Option.isSome a=true)/\∃j,Ld ai (aw a (1:Int) 1) i (vS j)/\nA i (.cells #[vS [],.slice none 0 0] au) λk l=>∃m,Sv au (vA k 0) (.agg #[vS j,.slice none 0 0]) l m/\(bx (1:Int) (b:Int)/\Option.isSome a=true)/\∃n,Ld ai (aw a (1:Int) 1) m (vS n)/\uB ku #[vS n] m λo p=>ab (!o) (∃q r s t,Ld au (vA k 0) p (.agg #[vS q,.slice r s t])/\∃u,Sv au (vA g 0) (.agg #[vS q,.slice r s t]) p u/\∃v x y z,Rv au (vA g 0) u (.agg #[vS v,.slice x y z])/\K (.tuple #[.agg #[vS v,.slice x y z],vI 221,vI 1]) u) ((bx (1:Int) (b:Int)/\Option.isSome a=true)/\∃q,Ld ai (aw a (1:Int) 1) p (vS q)/\uI nJ #[.slice d e f,vS q] p λr s=>ab (decide (r >=0)) (∃t u v x,Ld au (vA k 0) s (.agg #[vS t,.slice u v x])/\∃y,Sv au (vA g 0) (.agg #[vS t,.slice u v x]) s y/\∃z A B C,Rv au (vA g 0) y (.agg #[vS z,.slice A B C])/\K (.tuple #[.agg #[vS z,.slice A B C],vI 52,vI 1]) y) (∃t:Nat->FP [shI],(∃u,t u (2:Int) s)/\∀u v,aP 48 (∀x,t u v x->ab (decide (v<(b:Int))) ((bx v (b:Int)/\Option.isSome a=true)/\∃y,Ld ai (aw a v 1) x (vS y)/\Cf kc #[vS y] x λz A=>∃B C,z=rT #[vS B,.bool C]/\ab (!C) (∃D E F G,Ld au (vA k 0) A (.agg #[vS D,.slice E F G])/\∃H,Sv au (vA g 0) (.agg #[vS D,.slice E F G]) A H/\∃I J L M,Rv au (vA g 0) H (.agg #[vS I,.slice J L M])/\K (.tuple #[.agg #[vS I,.slice J L M],vI 131,vI v]) H) (true/\∃D E F,Ld aA (vA k 1) A (.slice D E F)/\∃G:Nat->FP [shI],(∃H,G H (0:Int) A)/\∀H I,aP 12 (∀J,G H I J->ab (decide (I<(E:Int))) ((bx I (E:Int)/\Option.isSome D=true)/\∃L,Ld ai (aw D I 1) J (vS L)/\ab (L==B) (∃M N O P,Ld au (vA k 0) J (.agg #[vS M,.slice N O P])/\∃Q,Sv au (vA g 0) (.agg #[vS M,.slice N O P]) J Q/\∃R S T U,Rv au (vA g 0) Q (.agg #[vS R,.slice S T U])/\K (.tuple #[.agg #[vS R,.slice S T U],vI 52,vI v]) Q) (∃M:Nat,M<H/\G M (i64.wrap (I+1)) J)) (true/\∃L M N,Ld aA (vA k 1) J (.slice L M N)/\ab (decide ((M:Int) >=6)) (∃O P Q R,Ld au (vA k 0) J (.agg #[vS O,.slice P Q R])/\∃S,Sv au (vA g 0) (.agg #[vS O,.slice P Q R]) J S/\∃T U V X,Rv au (vA g 0) S (.agg #[vS T,.slice U V X])/\K (.tuple #[.agg #[vS T,.slice U V X],vI 53,vI v]) S) (true/\∃O P Q,Ld aA (vA k 1) J (.slice O P Q)/\nA J (.cells #[vS B] ai) λR S=>∃T U V X,(Builtin.append_ #[aA,aA] aA #[.slice O P Q,.slice (vA R 0) 1 1]).run prog S=.ok (.slice U V X) T/\true/\∃Y,Sv aA (vA k 1) (.slice U V X) T Y/\∃Z:Nat,Z<u/\t Z (i64.wrap (v+1)) Y))))) (ab (decide ((e:Int) >=6)) (∃y z A B,Ld au (vA k 0) x (.agg #[vS y,.slice z A B])/\∃C,Sv au (vA g 0) (.agg #[vS y,.slice z A B]) x C/\∃D E F G,Rv au (vA g 0) C (.agg #[vS D,.slice E F G])/\K (.tuple #[.agg #[vS D,.slice E F G],vI 53,vI 0]) C) (∃y z A B,Ld au (vA k 0) x (.agg #[vS y,.slice z A B])/\∃C,Sv au (vA g 0) (.agg #[vS y,.slice z A B]) x C/\∃D E F G,Rv au (vA g 0) C (.agg #[vS D,.slice E F G])/\K (.tuple #[.agg #[vS D,.slice E F G],vI 0,vI 0]) C)))))):Cf nr #[.slice a b c,.slice d e f] w (Ret K):=ru func92 [(24,[(8,shI)]),(47,[(51,shI)])] h
theorem zL (a:Option Addr)(b c:Nat)(d:Option Addr)(e f:Nat)(g:Option Addr)(i j:Nat){w K}(h:nA w (.cells dZ ah) λk l=>(bx (1:Int) (b:Int)/\Option.isSome a=true)/\∃m,Ld ai (aw a (1:Int) 1) l (vS m)/\nA l (.cells dZ ah) λn o=>∃p,Sv ah (vA n 0) (.agg #[vS m,.bool false,vI 0,vS [],u0,u0,u0,u0,u0,u0,u0,u0,u0,u0,u0,u0,u0,u0,u0,u0,vI 0,vS [],vS [],vI 0]) o p/\(bx (1:Int) (b:Int)/\Option.isSome a=true)/\∃q,Ld ai (aw a (1:Int) 1) p (vS q)/\uB ku #[vS q] p λr s=>ab (!r) (∃t,Ld ah (vA n 0) s t/\∃u,Sv ah (vA k 0) t s u/\∃v,Rv ah (vA k 0) u v/\K (.tuple #[v,vI 221,vI 1]) u) (∃t:Nat->FP [shI],(∃u,t u (0:Int) s)/\∀u v,aP 14 (∀x,t u v x->ab (decide (v<(e:Int))) ((bx v (e:Int)/\Option.isSome d=true)/\∃y,Ld ah (aw d v 24) x y/\nA x (.cells dZ ah) λz A=>∃B,Sv ah (vA z 0) y A B/\true/\∃C,(∀D,bW B D->Ld ai (vA z 0) D (vS C))/\(bx (1:Int) (b:Int)/\Option.isSome a=true)/\∃D,(∀E,bW B E->Ld ai (aw a (1:Int) 1) E (vS D))/\∀E,bW B E->ab (C==D) (∃F,Ld ah (vA n 0) E F/\∃G,Sv ah (vA k 0) F E G/\∃H,Rv ah (vA k 0) G H/\K (.tuple #[H,vI 52,vI 1]) G) (∃F:Nat,F<u/\t F (i64.wrap (v+1)) E)) ((bx (2:Int) (b:Int)/\Option.isSome a=true)/\∃y,Ld ai (aw a (2:Int) 1) x (vS y)/\Cf pk #[vS y] x λz A=>∃B C,z=rT #[B,vI C]/\nA A (.cells eQ aM) λD E=>∃F,Sv aM (vA D 0) B E F/\ab (C !=0) (∃G,Ld ah (vA n 0) F G/\∃H,Sv ah (vA k 0) G F H/\∃I,Rv ah (vA k 0) H I/\K (.tuple #[I,vI C,vI 2]) H) ((bx (3:Int) (b:Int)/\Option.isSome a=true)/\∃G,Ld ai (aw a (3:Int) 1) F (vS G)/\Cf kc #[vS G] F λH I=>∃J L,H=rT #[vS J,.bool L]/\ab (!L) (∃M,Ld ah (vA n 0) I M/\∃N,Sv ah (vA k 0) M I N/\∃O,Rv ah (vA k 0) N O/\K (.tuple #[O,vI 131,vI 3]) N) (Cf rf #[vS J,.slice g i j] I λM N=>∃O P Q R,M=rT #[.slice O P Q,.bool R]/\ab (!R) (∃S,Ld ah (vA n 0) N S/\∃T,Sv ah (vA k 0) S N T/\∃U,Rv ah (vA k 0) T U/\K (.tuple #[U,vI 222,vI 3]) T) (uI ri #[.slice O P Q,.slice g i j] N λS T=>ab (decide (S>(24:Int))) (∃U,Ld ah (vA n 0) T U/\∃V,Sv ah (vA k 0) U T V/\∃X,Rv ah (vA k 0) V X/\K (.tuple #[X,vI 53,vI 3]) V) (uB rh #[vS J,.slice g i j] T λU V=>ab U (∃X,Ld ah (vA n 0) V X/\∃Y,Sv ah (vA k 0) X V Y/\∃Z,Rv ah (vA k 0) Y Z/\K (.tuple #[Z,vI 54,vI 3]) Y) (ab (decide ((e:Int) >=8)) (∃X,Ld ah (vA n 0) V X/\∃Y,Sv ah (vA k 0) X V Y/\∃Z,Rv ah (vA k 0) Y Z/\K (.tuple #[Z,vI 53,vI 0]) Y) (∃X,Ld aM (vA D 0) V X/\true/\∃Y,Sv aM (vA n 1) X V Y/\true/\∃Z,Sv ai (vA n 22) (vS J) Y Z/\∃aa,Ld ah (vA n 0) Z aa/\∃ac,Sv ah (vA k 0) aa Z ac/\∃ad,Rv ah (vA k 0) ac ad/\K (.tuple #[ad,vI 0,vI 0]) ac)))))))))):Cf ns #[.slice a b c,.slice d e f,.slice g i j] w (Ret K):=ru func93 [(16,[(30,shI)])] h
theorem D5 (a:lU){w K}(h:nA w (.cells #[vI 0,vI 0,vI 0] ax) λb c=>ab (decide (((length a:Nat):Int)>(20000:Int))) (∃d,Sv ax (vA b 0) (.agg #[vI 54,vI 1,vI 1]) c d/\∃e f g,Rv ax (vA b 0) d (.agg #[vI e,vI f,vI g])/\K (.tuple #[.slice none 0 0,.slice none 0 0,.agg #[vI e,vI f,vI g]]) d) (nA c (.cells #[] ah) λd e=>nA e (.cells #[] au) λf g=>uL jn #[vS a] g λi j k l=>∃m:Nat->FP [.one .slice,.one .slice,shI],(∃n,m n (vA d 0) 0 0 (vA f 0) 0 0 (0:Int) l)/\∀n o p q r s t u,aP 107 (∀v,m n o p q r s t u v->ab (decide (u<(j:Int))) ((bx u (j:Int)/\Option.isSome i=true)/\∃x,Ld ai (aw i u 1) v (vS x)/\∃y:FP [],(ab (x==[]) (∃z:Nat,z<n/\m z o p q r s t (i64.wrap (u+1)) v) (bx (0:Int) ((length x:Nat):Int)/\ab ((aU x (0:Int))==35) (∃z:Nat,z<n/\m z o p q r s t (i64.wrap (u+1)) v) (y v)))/\aP 7 (∀z,y z->Cf o4 #[vS x] z λA B=>∃C D E F,A=rT #[.slice C D E,.bool F]/\∃G:FP [.one .slice,.one .slice,shI,shI],(∃H:FP [shB],(ab F ((bx (0:Int) (D:Int)/\Option.isSome C=true)/\∃I,Ld ai (aw C (0:Int) 1) B (vS I)/\ab (I==[99,104,111,105,99,101]) (H (decide ((D:Int) >=3)) B) (H false B)) (H false B))/\∀I,aP 11 (∀J,H I J->ab I (Cf nr #[.slice C D E,.slice r s t] J λL M=>∃N O P Q R S,L=rT #[.agg #[vS N,.slice O P Q],vI R,vI S]/\nA M (.cells #[vS [],.slice none 0 0] au) λT U=>∃V,Sv au (vA T 0) (.agg #[vS N,.slice O P Q]) U V/\∃X Y Z aa,Ld au (vA T 0) V (.agg #[vS X,.slice Y Z aa])/\nA V (.cells #[vS X,.slice Y Z aa] au) λac ad=>∃af ag aj al,(Builtin.append_ #[aJ,aJ] aJ #[.slice r s t,.slice (vA ac 0) 1 1]).run prog ad=.ok (.slice ag aj al) af/\G o p q ag aj al R S af) (∃L:FP [shB],(ab F ((bx (0:Int) (D:Int)/\Option.isSome C=true)/\∃M,Ld ai (aw C (0:Int) 1) J (vS M)/\ab (M==[99,111,111,107,105,101]) (L ((D:Int)==4) J) (L false J)) (L false J))/\∀M,aP 11 (∀N,L M N->ab M (Cf ns #[.slice C D E,.slice o p q,.slice r s t] N λO P=>∃Q R S,O=rT #[Q,vI R,vI S]/\nA P (.cells dZ ah) λT U=>∃V,Sv ah (vA T 0) Q U V/\true/\∃X,Sv co (vA T 23) (vI (i64.wrap (u+1))) V X/\∃Y,Ld ah (vA T 0) X Y/\∃Z aa ac ad,(Instr.buildSlice aE 1 #[(0,Y)]).run prog X=.ok (.slice aa ac ad) Z/\∃af ag aj al,(Builtin.append_ #[aE,aE] aE #[.slice o p q,.slice aa ac ad]).run prog Z=.ok (.slice ag aj al) af/\G ag aj al r s t R S af) (G o p q r s t (131:Int) (0:Int) N)))))/\∀H I J L M N O P,aP 60 (∀Q,G H I J L M N O P Q->ab (O !=0) (∃R:Nat->FP [shI,shI],(∃S,R S (1:Int) (0:Int) Q)/\∀S T U,aP 13 (∀V,R S T U V->ab (decide (U<P)) ((bx U (D:Int)/\Option.isSome C=true)/\∃X,Ld ai (aw C U 1) V (vS X)/\∃Y:Nat,Y<S/\R Y (i64.wrap (T+(i64.wrap (((length X:Nat):Int)+1)))) (i64.wrap (U+1)) V) (∃X,Sv ax (vA b 0) (.agg #[vI O,vI (i64.wrap (u+1)),vI T]) V X/\∃Y Z aa,Rv ax (vA b 0) X (.agg #[vI Y,vI Z,vI aa])/\K (.tuple #[.slice none 0 0,.slice none 0 0,.agg #[vI Y,vI Z,vI aa]]) X))) (∃R:Nat,R<n/\m R H I J L M N (i64.wrap (u+1)) Q)))) (∃x,Sv ax (vA b 0) (.agg #[vI 0,vI 0,vI 0]) v x/\∃y z A,Rv ax (vA b 0) x (.agg #[vI y,vI z,vI A])/\K (.tuple #[.slice o p q,.slice r s t,.agg #[vI y,vI z,vI A]]) x)))):Cf re #[vS a] w (Ret K):=ru func42 [(18,[(5,.one .slice),(6,.one .slice),(30,shI)]),(29,[]),(41,[(5,.one .slice),(6,.one .slice),(11,shI),(12,shI)]),(42,[(58,shB)]),(52,[(83,shB)]),(74,[(19,shI),(20,shI)])] h
theorem D7 (a:Option Addr)(b c:Nat)(d:Option Addr)(e f:Nat)(g:Option Addr)(i j:Nat)(k:Option Addr)(l m:Nat){w K}(h:∃n:FP [],(ab ((b:Int) !=(e:Int)) (K (.bool false) w) (ab ((i:Int) !=(l:Int)) (K (.bool false) w) (n w)))/\aP 13 (∀o,n o->∃p:Nat->FP [shI],(∃q,p q (0:Int) o)/\∀q r,aP 14 (∀s,p q r s->ab (decide (r<(b:Int))) ((bx r (b:Int)/\Option.isSome a=true)/\∃t,(∀u,bW s u->Ld ah (aw a r 24) u t)/\(bx r (e:Int)/\Option.isSome d=true)/\∃u,(∀v,bW s v->Ld ah (aw d r 24) v u)/\∃v,(∀x,bW s x->(do eqGuard .neq ah (.tmp 31) (.tmp 35) t u;binOp .neq ah t u:Sem Value).run prog x=.ok (.bool v) x)/\∀x,bW s x->ab v (K (.bool false) x) (∃y:Nat,y<q/\p y (i64.wrap (r+1)) x)) (∃t:Nat->FP [shI],(∃u,t u (0:Int) s)/\∀u v,aP 30 (∀x,t u v x->ab (decide (v<(i:Int))) ((bx v (i:Int)/\Option.isSome g=true)/\(isSome (aw g v 2))/\∃y,(∀z,bW x z->Ld ai (Option.map (λA=>A.add 0) (aw g v 2)) z (vS y))/\(bx v (l:Int)/\Option.isSome k=true)/\(isSome (aw k v 2))/\∃z,(∀A,bW x A->Ld ai (Option.map (λB=>B.add 0) (aw k v 2)) A (vS z))/\ab (!(y==z)) (∀A,bW x A->K (.bool false) A) ((bx v (i:Int)/\Option.isSome g=true)/\(isSome (aw g v 2))/\∃A B C,(∀D,bW x D->Ld aA (Option.map (λE=>E.add 1) (aw g v 2)) D (.slice A B C))/\(bx v (l:Int)/\Option.isSome k=true)/\(isSome (aw k v 2))/\∃D E F,(∀G,bW x G->Ld aA (Option.map (λH=>H.add 1) (aw k v 2)) G (.slice D E F))/\∃G,(∀H,bW x H->Cf Ij #[.slice A B C,.slice D E F] H λI J=>I=.returned (.bool G)/\Below x.heap.size H J)/\∀H,bW x H->ab (!G) (K (.bool false) H) (∃I:Nat,I<u/\t I (i64.wrap (v+1)) H))) (K (.bool true) x)))))):Cf ig #[.slice a b c,.slice d e f,.slice g i j,.slice k l m] w (Ret K):=ru func17 [(2,[]),(14,[(25,shI)]),(37,[(40,shI)])] h
theorem Kz:∀(ts:List Tok) (out:List Int),(ts.foldl stT out).length <=out.length+ts.length
 |[],out=>by simp
 |t::ts,out=>by
  rw[List.foldl_cons,length_cons];refine Nat.le_trans (Kz ts _) ?_;cases t with
  |inl c=>show out.length+_ <=_;omega
  |inr i=>
   show(if i∈out then out else out++[i]).length+_ <=_;split
   ·omega
   ·simp;omega
theorem Qx {P:Int->Prop} :∀(ts:List Tok) (out:List Int),(∀i∈out,P i)->(∀i,Sum.inr i∈ts->P i)->∀i∈ts.foldl stT out,P i
 |[],out,D,_,i,E=>D i E
 |t::ts,out,D,F,i,E=>by
  rw[List.foldl_cons]at E;refine Qx ts _ (λk y=>?_) (λk y=>F k (mem_cons_of_mem _ y)) i E;cases t with
  |inl c=>exact D k y
  |inr x=>
   have y:k∈(if x∈out then out else out++[x]):=y;split at y
   ·exact D k y
   ·rcases List.mem_append.1 y with h|h
    ·exact D k h
    ·rw[List.mem_singleton.1 h];exact F x mem_cons_self
theorem I8:dF 125 r=r.drop ((r.takeWhile (· !=125)).length+1):=by
 unfold dF;rw[<- List.drop_drop];congr 1;have e:=List.takeWhile_append_dropWhile (p:=(· !=(125:UInt8))) (l:=r);have y:(r.takeWhile (· !=125)++r.dropWhile (· !=125)).drop (r.takeWhile (· !=125)).length=r.dropWhile (· !=125):=List.drop_left;rw[e]at y;exact y.symm
theorem Lz:∀{r:lU},(125:UInt8)∈r->(r.takeWhile (· !=125)).length<r.length
 |[],h=>by cases h
 |c::r,h=>by
  by_cases y:c=125
  ·subst y;simp
  ·have D:(125:UInt8)∈r:=(List.mem_cons.1 h).resolve_left λe=>y e.symm;have:=Lz D;rw[List.takeWhile_cons_of_pos (by simpa using y),length_cons,length_cons];omega
theorem FG (l:List Cho):∀(k:Nat) (s:lU) (ts:List Tok),Dh l k s=some ts->∀i,Sum.inr i∈ts->0 <=i/\i<l.length
 |0,s,ts,h,i,y=>by cases h;cases y
 |k+1,[],ts,h,i,y=>by cases h;cases y
 |k+1,c::r,ts,h,i,y=>by
  unfold Dh at h;split at h
  ·split at h
   ·rename_i hp;cases D:Dh l k (dF 125 r)with
    |none=>rw[D]at h;cases h
    |some us=>
     rw[D]at h;cases h;rcases List.mem_cons.1 y with e|y
     ·cases e;exact⟨hp.2.2,Ke _ _⟩
     ·exact FG l k _ us D i y
   ·cases h
  ·cases D:Dh l k r with
   |none=>rw[D]at h;cases h
   |some us=>
    rw[D]at h;cases h;rcases List.mem_cons.1 y with e|y
    ·cases e
    ·exact FG l k _ us D i y
theorem FF (l:List Cho):∀(k:Nat) (s:lU) (ts:List Tok),Dh l k s=some ts->ts.length <=s.length
 |0,s,ts,h=>by cases h;exact Nat.zero_le _
 |k+1,[],ts,h=>by cases h;exact Nat.zero_le _
 |k+1,c::r,ts,h=>by
  have D:=fh 125 r;unfold Dh at h;split at h
  ·split at h
   ·cases y:Dh l k (dF 125 r)with
    |none=>rw[y]at h;cases h
    |some us=>
     rw[y]at h;cases h;have:=FF l k _ us y;simp only[length_cons];omega
   ·cases h
  ·cases y:Dh l k r with
   |none=>rw[y]at h;cases h
   |some us=>
    rw[y]at h;cases h;have:=FF l k _ us y;simp only[length_cons];omega
theorem Rm {l:List Cho}{ts:List Tok}(h:Di l s=some ts):ts.length <=s.length:=FF l _ s ts h
theorem Rn {l:List Cho}{ts:List Tok}(h:Di l s=some ts):∀i,Sum.inr i∈ts->0 <=i/\i<l.length:=FG l _ s ts h
theorem pI (s:lU)(U:s.length <=9000000)(w:World):Cf ku #[vS s] w (Ret λv w'=>v=.bool (nmB s)/\w'=w):=by
 apply D6;refine⟨λm i w'=>w'=w/\∃k:Nat,i=(k:Int)/\m=s.length-k/\k <=s.length/\(s.take k).all Lx=true,⟨_,rfl,0,rfl,rfl,Nat.zero_le _,rfl⟩,λm i=>aP.of ?_ _⟩;rintro wl ⟨rfl,k,rfl,rfl,R,G⟩;refine ab.of (λh=>?_) (λh=>?_)
 ·have h:=of_decide_eq_true h;have H:k<s.length:=by omega
  have I:aU s (k:Int)=((s[k].toNat:Nat):Int):=iq (by simpa using H);have E:0 <=(k:Int)/\(k:Int)<((s.length:Nat):Int):=⟨by omega,h⟩
  have xN:Lx s[k]=true->∃J:Nat,J<s.length-k/\wl=wl/\∃k':Nat,i64.wrap ((k:Int)+1)=(k':Int)/\J=s.length-k'/\k' <=s.length/\(s.take k').all Lx=true:=λe=>⟨s.length-(k+1),by omega,rfl,k+1,by rw[wrJ];omega,rfl,by omega,by rw[take_succ_eq_append_getElem H,all_append,G];simp[e]⟩
  have D:Lx s[k]=false->Value.bool false=.bool (nmB s)/\wl=wl:=λe=>⟨by
   unfold nmB;rw[show s.all Lx=false from by rw[List.all_eq_false];exact⟨_,getElem_mem H,by rw[e];decide⟩,Bool.and_false,Bool.and_false],rfl⟩
  rw[I];have is:Lx s[k]=((decide (97 <=s[k].toNat)&&decide (s[k].toNat <=122)) || (decide (48 <=s[k].toNat)&&decide (s[k].toNat <=57))):=rfl;rw[is]at xN D;clear is I;generalize s[k].toNat=V at*;refine⟨E,ab.of (λh1=>⟨E,ab.of (λy=>D ?_) (λy=>⟨E,ab.of (λF=>D ?_) (λF=>xN ?_)⟩)⟩) (λh1=>⟨E,ab.of (λy=>⟨E,ab.of (λF=>D ?_) (λF=>⟨E,ab.of (λM=>D ?_) (λM=>xN ?_)⟩)⟩) (λy=>xN ?_)⟩)⟩
  all_goals
   clear xN D;simp only[gt_iff_lt,dTx,dFx,Bool.or_eq_true,Bool.and_eq_true,Bool.or_eq_false_iff,Bool.and_eq_false_iff]at*;omega
 ·have h:=of_decide_eq_false h;obtain rfl:k=s.length:=by omega
  rw[take_length]at G;refine ab.of (λy=>⟨?_,rfl⟩) (λy=>⟨?_,rfl⟩)
  ·have y:=of_decide_eq_true y;have O:s≠[]:=by rintro rfl;exact absurd y (by decide)
   unfold nmB;rw[G,Bool.and_true,beq_eq_false_iff_ne.2 O];show _=Value.bool (decide (s.length <=20));congr 1;rw[decide_eq_decide];omega
  ·have y:=of_decide_eq_false y;obtain rfl:s=[]:=List.eq_nil_of_length_eq_zero (by omega);rfl
theorem uT {a:Option Addr}{n c:Nat}{cs:List Cho}(D:Sl vq w A a n c cs)(O:cs.length <=1000000)(key:lU):
 Cf nJ #[.slice a n c,vS key] w (Ret λv w'=>v=vI (atC cs key)/\bW w w'):=by
 apply Jh;have y:=D.len;subst y;refine⟨qF (λc=>c.name==key) cs w,qF.start _ _ _,λm i=>aP.of ?_ _⟩;intro J H;rcases H.go (by omega)with⟨j,hj,rfl,B,h3,hb,hy,y⟩|⟨h3,h4,B⟩
 ·obtain⟨b,nb,e,I,S⟩:=Ge (D.below B) hj;refine ab.yes h3 ⟨⟨hb,D.isSome hj⟩,_,b,nb,e,I,iU.new (zs:=[vS [],.slice none 0 0]) (cs:=[.string (mkS cs[j].name),.slice b nb e]) rfl rfl (bz rfl (bz rfl ja)) J λR U M G F=>?_⟩;have E:=ae B F B.size;exact⟨rfl,_,G.load1 aI rfl rfl,ab.of (λh=>⟨by rw[<- hy h];rfl,E⟩) (λh=>y h _ E)⟩
 ·exact ab.no h3 ⟨by rw[<- h4];rfl,B⟩
def plN (r:lU):lU:=if(125:UInt8)∈r then r.takeWhile (· !=125)else[]
def plO (r:lU):Bool:=decide ((125:UInt8)∈r)&&nmB (r.takeWhile (· !=125))
theorem tC (x:UInt8)(r:lU)(Y:r.length <=8000000)(w:World):Cf lG #[vS (x::r)] w (Ret λv w'=>v=.tuple #[vS (plN r),.bool (plO r)]/\bW w w'):=by
 apply Cu;have Z:(r.takeWhile (· !=125)).length <=r.length:=(List.takeWhile_sublist _).length_le;refine⟨λm i w'=>w'=w/\∃k:Nat,i=(k:Int)+1/\m=r.length-k/\k <=(r.takeWhile (· !=125)).length,⟨_,rfl,0,rfl,rfl,Nat.zero_le _⟩,λm i=>aP.of ?_ _⟩;rintro aa ⟨rfl,k,rfl,rfl,O⟩;have J:(((x::r).length:Nat):Int)=(r.length:Int)+1:=by simp
 rw[J];refine ab.of (λh=>?_) (λh=>?_)<;>simp only[dTx,dFx]at h
 ·have F:k<r.length:=by omega
  have M:aU (x::r) ((k:Int)+1)=((r[k].toNat:Nat):Int):=by
   have:((k:Int)+1).toNat=k+1:=by omega
   rw[iq (by rw[this];simp;omega)];simp only[this,List.getElem_cons_succ]
  have E:=nf (· !=(125:UInt8)) r k F O;rw[M];have I:((k:Int)+1).toNat=k+1:=by omega
  have G:(0 <=(k:Int)+1/\(k:Int)+1 <=(r.length:Int)+1)/\0 <=(1:Int)/\(1:Int) <=((((k:Int)+1).toNat:Nat):Int):=⟨⟨by omega,by omega⟩,by decide,by omega⟩
  refine⟨⟨by omega,by omega⟩,ab.of (λh1=>⟨G,?_⟩) (λh1=>?_)⟩
  ·have D:r[k]=125:=UInt8.toNat_inj.1 (show r[k].toNat=(125:UInt8).toNat from Q4 (k:=125) h1);have y:(125:UInt8)∈r:=D▸getElem_mem F;have U:k=(r.takeWhile (· !=125)).length:=by
    have: ¬ k<(r.takeWhile (· !=125)).length:=λc=>by
     have:=E.2 c;rw[D]at this;simp at this
    omega
   have R:List.drop (Int.toNat 1) (List.take ((k:Int)+1).toNat (x::r))=r.takeWhile (· !=125):=by
    rw[I,List.take_succ_cons];show r.take k=_;rw[U]
    conv=>lhs;rw[<- List.takeWhile_append_dropWhile (p:=(· !=(125:UInt8))) (l:=r)]
    rw[List.take_left' (by rw[List.takeWhile_append_dropWhile])]
   rintro _ rfl;refine⟨G,?_⟩;rintro _ rfl;rw[R];refine⟨nmB (r.takeWhile (· !=125)),λu V=>kz ((pI _ (by omega) u).mono ?_) V,λac H=>⟨?_,H⟩⟩
   ·rintro _ _ ⟨v,rfl,rfl,rfl⟩;exact⟨_,rfl,rfl,Below.refl _ _⟩
   ·unfold plN plO;rw[if_pos y,decide_eq_true y];rfl
  ·have D:r[k]≠125:=λe=>Nx (k:=125) h1 (by rw[e];rfl);exact⟨r.length-(k+1),by omega,rfl,k+1,by rw[wrJ];omega,rfl,E.1 (by simpa using D)⟩
 ·have y:(125:UInt8)∉r:=λy=>by have:=Lz y;omega
  refine⟨?_,Below.refl _ _⟩;unfold plN plO;rw[if_neg y,decide_eq_false y];rfl
theorem Sr {cs:List Cho}:P1 cs r↔plO r=true/\0 <=atC cs (plN r):=by
 unfold P1 plO plN;rw[Bool.and_eq_true,dTx];constructor
 ·rintro⟨h1,h2,h3⟩;rw[if_pos h1];exact⟨⟨h1,h2⟩,h3⟩
 ·rintro⟨⟨h1,h2⟩,h3⟩;rw[if_pos h1]at h3;exact⟨h1,h2,h3⟩
def NK (cs:List Cho)(s:lU)(w:World)(v:Value)(w':World):Prop:=bW w w'/\match Di cs s with
 |none=>v=.tuple #[.slice none 0 0,.bool false]
 |some ts=>∃a n c,v=.tuple #[.slice a n c,.bool true]/\Ow KD co w' NoB a n c (ts.foldl stT [])/\bo w.heap.size a
theorem FJ (h:k<s.length){c:UInt8}{b:Bool}(y:(aU s (k:Int) !=((c.toNat:Nat):Int))=b):(s[k] !=c)=b:=by
 rw[iq (by simpa using h)]at y;rw[<- y,Bool.eq_iff_iff,bne_iff_ne,bne_iff_ne];simp only[Int.toNat_natCast];constructor
 ·exact λh e=>h (UInt8.toNat_inj.1 (by omega))
 ·exact λh e=>h (by rw[e])
theorem GO {n0 c0:Nat}{cs:List Cho}(ac:Sl vq w A p n0 c0 cs)(bs:cs.length <=1000000)(s:lU)(b8:s.length <=1000000):
 Cf rf #[vS s,.slice p n0 c0] w (Ret (NK cs s w)):=by
 apply D8;intro cb b3 aa ag;have av:=(ag▸ar w _:bW w b3)
 have bu:=ac.len;subst bu;refine⟨λm a n c i W=>∃(k:Nat) (done:List Tok),k <=s.length/\i=(k:Int)/\m=s.length-k/\Di cs s=(Di cs (s.drop k)).map (done++ ·)/\done.length <=k/\Ow KD co W NoB a n c (done.foldl stT [])/\bo w.heap.size a/\bW w W,
  ⟨_,0,[],Nat.zero_le _,rfl,rfl,by rw[List.drop_zero];cases Di cs s<;>rfl,Nat.le_refl _,Ow.newF FQ aa ag (l:=[]) (jc.nil _ _ _) (by decide),kx aa,av⟩,λm a n c i=>aP.of ?_ _⟩
 rintro aj ⟨k,done,b5,rfl,rfl,D,bl,V,H,B⟩;refine ab.of (λh=>?_) (λh=>?_)<;>simp only[dTx,dFx]at h
 rotate_left
 ·rw[drop_eq_nil_of_le (by omega),K5]at D;refine⟨B,?_⟩;rw[D];exact⟨_,_,_,rfl,by show Ow KD co aj NoB a n c ((done++[]).foldl stT []);rw[append_nil];exact V,H⟩
 have J:k<s.length:=by omega
 have a8:i64.wrap ((k:Int)+1)=(k:Int)+1:=wrJ;rw[drop_eq_getElem_cons J]at D;refine⟨⟨by omega,h⟩,ab.of (λh1=>?_) (λh1=>⟨⟨by omega,by omega⟩,?_⟩)⟩
 ·have I:s[k]≠123:=by simpa using FJ J (c:=123) h1
  rw[HT _ I]at D;refine⟨s.length-(k+1),by omega,k+1,done++[(.inl s[k]:Tok)],by omega,a8,rfl,D.trans (Kj _ done [(.inl s[k]:Tok)]),by simp;omega,?_,H,B⟩;rw[List.foldl_append];exact V
 have I:s[k]=123:=by simpa using FJ J (c:=123) h1
 rintro _ rfl;rw[Int.toNat_natCast,drop_eq_getElem_cons J,I];rw[I]at D;have b7:(s.drop (k+1)).length=s.length-(k+1):=length_drop;have bk:∀j,(s.drop (k+1)).drop j=s.drop (k+1+j):=λj=>by rw[List.drop_drop]
 generalize s.drop (k+1)=r at*;refine aK (tC 123 r (by omega) aj) ?_;rintro _ cd ⟨rfl,F⟩;refine⟨_,_,rfl,aK (uT ((ac.below B).below F) bs (plN r)) ?_⟩;rintro _ w34 ⟨rfl,Y⟩;have O:=ae B (ae F Y F.size) B.size;have G:=V.below (ae F Y F.size);have Z: ¬ P1 cs r->NK cs s w (.tuple #[.slice none 0 0,.bool false]) w34:=λhp=>⟨O,by rw[D,K4 hp];rfl⟩
 refine⟨_,rfl,jE (w:=w34) (P1 cs r) (ab.of (λE=>Z ?_) (λE=>ab.of (λy=>Z ?_) (λy=>⟨rfl,Sr.2 ⟨by simpa using E,by simpa using y⟩⟩))) λhp=>?_⟩
 ·exact λhp=>by rw[(Sr.1 hp).1]at E;cases E
 ·exact λhp=>by have:=(Sr.1 hp).2;have:=of_decide_eq_true y;omega
 have U:plN r=r.takeWhile (· !=125):=if_pos hp.1;rw[HU hp,<- U]at D;have bq:=Lz hp.1;rw[<- U]at bq;generalize b4:atC cs (plN r)=i at*;have bt:=G.len;have b6:(done.foldl stT []).length <=k:=Nat.le_trans (Kz _ _) (by simpa using bl);have ad:(done++[(.inr i:Tok)]).foldl stT []=if i∈done.foldl stT []then done.foldl stT []else done.foldl stT []++[i]:=by rw[List.foldl_append];rfl
 generalize done.foldl stT []=out at*;subst bt;have a9:i64.wrap ((i64.wrap ((k:Int)+(i64.wrap (((length (plN r):Nat):Int)+1))))+1)=((k+1+((plN r).length+1):Nat):Int):=by
  rw[wrap_i64 (n:=((length (plN r):Nat):Int)+1) (by omega) (by omega),wrJ (n:=(k:Int)+_),wrJ];omega
 rw[a9];have bw:dF 125 r=s.drop (k+1+((plN r).length+1)):=by rw[I8,<- U,bk]
 rw[bw]at D;have be:=D.trans (Kj _ done [(.inr i:Tok)]);refine⟨λm b q W=>W=w34/\∃t:Nat,t <=out.length/\q=(t:Int)/\m=out.length-t/\b=decide (i∈out.take t),⟨_,rfl,0,Nat.zero_le _,rfl,rfl,by simp⟩,λm b q=>aP.of ?_ _⟩;rintro W ⟨rfl,t,b9,rfl,rfl,rfl⟩;refine ab.of (λE=>?_) (λE=>?_)<;>simp only[dTx,dFx]at E
 ·have M:t<out.length:=by omega
  obtain⟨v,af,b0⟩:=G.all.load1 (P:=prog) (i:=(t:Int)) eI rfl rfl (by simpa using M);have:=F2 b0;subst this;simp only[Int.toNat_natCast]at af;have a0:i64.wrap ((t:Int)+1)=((t+1:Nat):Int):=by rw[wrJ];omega
  try dsimp only
  rw[a0];refine⟨⟨⟨by omega,E⟩,G.all.isSome M⟩,_,af,ab.of (λy=>⟨_,by omega,rfl,t+1,by omega,rfl,rfl,?_⟩) (λy=>⟨_,by omega,rfl,t+1,by omega,rfl,rfl,?_⟩)⟩
  ·have y:=of_decide_eq_true y;rw[decide_eq_true];rw[take_succ_eq_append_getElem M];exact mem_append_left _ y
  ·have y:=of_decide_eq_false y;rw[Bool.eq_iff_iff,beq_iff_eq,dTx,take_succ_eq_append_getElem M,mem_append,mem_singleton];exact⟨λe=>.inr e.symm,λe=>(e.resolve_left y).symm⟩
 ·obtain rfl:t=out.length:=by omega
  rw[take_length];refine⟨λa n c R=>Ow KD co R NoB a n c ((done++[(.inr i:Tok)]).foldl stT [])/\bo w.heap.size a/\bW w R,ab.of (λy=>?_) (λy=>?_),λa n c=>aP.of ?_ _⟩
  ·have y:i∉out:=by simpa using y
   intro cc cf bp b1;rw[ad,if_neg y];exact uQ (ty:=lu) FQ Jv mE (by decide) G H O bp b1 (x:=i) (vs:=[vI i]) Qc (cm:=1) (by omega)
  ·have y:i∈out:=by simpa using y
   rw[ad,if_pos y];exact⟨G,H,O⟩
  ·rintro R ⟨b2,bb,an⟩;exact⟨_,by omega,_,done++[(.inr i:Tok)],by omega,rfl,rfl,be,by simp;omega,b2,bb,an⟩
theorem Py (a b:Int)(w:World):(Builtin.min_ #[co,co] co #[vI a,vI b]).run prog w=.ok (vI (min a b)) w:=by
 show Result.ok (vI (if b<a then b else a)) w=_;congr 2;split<;>omega
theorem GQ {H c0:Nat}{us:List Int}(F:Sl KD w A p H c0 us){I c1:Nat}{cs:List Cho}(V:Sl vq w B q I c1 cs)(ad:∀i∈us,0 <=i/\i<cs.length)(a9:us.length <=10000000):
 Cf ri #[.slice p H c0,.slice q I c1] w (Ret λv w'=>v=vI (Ra cs us 1)/\w'=w):=by
 apply EA;have af:=F.len;subst af;refine⟨λm n i w'=>w'=w/\∃j:Nat,i=(j:Int)/\m=us.length-j/\j <=us.length/\0 <=n/\n <=25/\Ra cs us 1=Ra cs (us.drop j) n,⟨_,rfl,0,rfl,rfl,Nat.zero_le _,by decide,by decide,rfl⟩,λm n i=>aP.of ?_ _⟩;rintro bb ⟨rfl,j,rfl,rfl,av,O,R,y⟩;refine ab.of (λh=>?_) (λh=>?_)<;>simp only[dTx,dFx]at h
 rotate_left
 ·rw[drop_eq_nil_of_le (by omega)]at y;exact⟨by rw[y];rfl,rfl⟩
 have D:j<us.length:=by omega
 rw[drop_eq_getElem_cons D,Ra]at y;obtain⟨v,G,ag⟩:=F.load1 (P:=prog) (i:=(j:Int)) eI rfl rfl (by simpa using D);have:=F2 ag;subst this;simp only[Int.toNat_natCast]at G;obtain⟨Y,Z⟩:=ad _ (getElem_mem D);generalize us[j]=i at*;obtain⟨U,aj,b,nb,M,aa,S⟩:=vM V Y Z;have ac:=S.len;subst ac;generalize (dR cs i).length=E at*;have J:0 <=min (E:Int) 25:=by omega
 have an:min (E:Int) 25 <=25:=by omega
 have a8:0 <=n*min (E:Int) 25:=Int.mul_nonneg O J;have a0:n*min (E:Int) 25 <=25*25:=Int.mul_le_mul R an J (by omega);refine⟨⟨⟨by omega,h⟩,F.isSome D⟩,i,G,U,aj,b,_,M,aa,_,Py _ _ _,_,Py _ _ _,us.length-(j+1),by omega,rfl,j+1,by rw[wrJ];omega,rfl,by omega,?_,?_,?_⟩
 ·rw[wrJ];omega
 ·omega
 ·rw[wrJ];exact y
theorem GP {ac c1:Nat}{cs:List Cho}(Y:Sl vq w B p ac c1 cs)(J:X2 cs)(b1:s.length <=1000000){ts:List Tok}(bp:Di cs s=some ts):
 Cf rh #[vS s,.slice p ac c1] w (Ret λv w'=>v=.bool (decide (2000<Hg cs ts))/\bW w w'):=by
 apply D9;refine⟨λm n i W=>bW w W/\∃(k:Nat) (done rest:List Tok),k <=s.length/\i=(k:Int)/\m=s.length-k/\n=((Hg cs done:Nat):Int)/\Hg cs done <=2000000/\ts=done++rest/\Di cs (s.drop k)=some rest,⟨_,Below.refl _ _,0,[],ts,Nat.zero_le _,rfl,rfl,rfl,Nat.zero_le _,rfl,bp⟩,λm n i=>aP.of ?_ _⟩;rintro ad ⟨D,k,done,rest,bu,rfl,rfl,rfl,bt,rfl,y⟩;refine jE (w:=ad) (k<s.length/\Hg cs done <=2000) (ab.of (λh=>ab.of (λF=>⟨rfl,by have:=of_decide_eq_true h;omega,by have:=of_decide_eq_true F;omega⟩) (λF=>⟨?_,D⟩)) (λh=>⟨?_,D⟩)) ?_
 ·have F:=of_decide_eq_false F;rw[wE,decide_eq_true (by omega),decide_eq_true (by omega)]
 ·have h:=of_decide_eq_false h;rw[drop_eq_nil_of_le (by omega),K5]at y;cases y;rw[append_nil];congr 1;rw[decide_eq_decide];omega
 rintro⟨hlt,h20⟩;have an:i64.wrap ((k:Int)+1)=(k:Int)+1:=wrJ;rw[drop_eq_getElem_cons hlt]at y;refine⟨⟨by omega,by omega⟩,ab.of (λh1=>?_) (λh1=>⟨⟨by omega,by omega⟩,?_⟩)⟩
 ·have G:s[k]≠123:=by simpa using FJ hlt (c:=123) h1
  rw[HT _ G]at y;cases E:Di cs (s.drop (k+1))with
  |none=>rw[E]at y;cases y
  |some us=>
   rw[E]at y;cases y;have e:Hg cs (done++[(.inl s[k]:Tok)])=Hg cs done+1:=by rw[wE];rfl
   exact⟨s.length-(k+1),by omega,D,k+1,done++[(.inl s[k]:Tok)],us,by omega,an,rfl,by rw[e,wrJ];omega,by omega,by simp,E⟩
 have G:s[k]=123:=by simpa using FJ hlt (c:=123) h1
 rintro _ rfl;rw[Int.toNat_natCast,drop_eq_getElem_cons hlt,G];rw[G]at y;have b0:(s.drop (k+1)).length=s.length-(k+1):=length_drop;have a0:∀j,(s.drop (k+1)).drop j=s.drop (k+1+j):=λj=>by rw[List.drop_drop]
 generalize s.drop (k+1)=r at*;have hp:P1 cs r:=by
  refine Decidable.byContradiction λhp=>?_;rw[K4 hp]at y;cases y
 rw[HU hp]at y;have O:plN r=r.takeWhile (· !=125):=if_pos hp.1;rw[<- O]at y;have a8:=Lz hp.1;rw[<- O]at a8;have Z:=(Sr.1 hp).2;have aa:atC cs (plN r)<cs.length:=Ke _ _;refine aK (tC 123 r (by omega) ad) ?_;rintro _ b4 ⟨rfl,H⟩;refine⟨_,_,rfl,aK (uT ((Y.below D).below H) J.1 (plN r)) ?_⟩;rintro _ bs ⟨rfl,af⟩;have V:=ae D (ae H af H.size) D.size;generalize M:atC cs (plN r)=i at*;obtain⟨E,bl,b,nb,ag,a9,S⟩:=vM (Y.below V) Z aa;obtain⟨M,e⟩:=ox Z aa;have bq:∀v∈dR cs i,v.length <=1000000:=by rw[e];exact(J.2 _ (getElem_mem M)).2
 have b3:(dR cs i).length <=1000000:=by rw[e];exact(J.2 _ (getElem_mem M)).1
 have aj:Hg cs (done++[(.inr i:Tok)])=Hg cs done+ql (dR cs i):=by rw[wE];rfl
 have bk:dF 125 r=s.drop (k+1+((plN r).length+1)):=by rw[I8,<- O,a0]
 rw[bk]at y;generalize dR cs i=vs at*;have bb:=S.len;subst bb;refine⟨_,rfl,E,bl,b,_,ag,a9,λm x q w'=>w'=bs/\∃t:Nat,q=(t:Int)/\m=vs.length-t/\t <=vs.length/\x=(((vs.take t).foldl (λm v=>max m v.length) 0:Nat):Int),⟨_,rfl,0,rfl,rfl,Nat.zero_le _,rfl⟩,λm x q=>aP.of ?_ _⟩;rintro b5 ⟨rfl,t,rfl,rfl,b2,rfl⟩;refine ab.of (λI=>?_) (λI=>?_)<;>simp only[dTx,dFx]at I
 ·have U:t<vs.length:=by omega
  refine⟨⟨⟨by omega,I⟩,S.isSome U⟩,vs[t],S.text aI U,_,Px _ _ _,vs.length-(t+1),by omega,rfl,t+1,by rw[wrJ];omega,rfl,by omega,?_⟩;rw[take_succ_eq_append_getElem U,List.foldl_append];show max _ _=(((max _ _:Nat)):Int)
  omega
 ·obtain rfl:t=vs.length:=by omega
  have bw:ql vs <=1000000:=Gk vs 0 _ (Nat.zero_le _) bq;have be:(vs.take vs.length).foldl (λm v=>max m v.length) 0=ql vs:=by rw[take_length];rfl
  rw[be];have av:i64.wrap ((i64.wrap ((k:Int)+(i64.wrap (((length (plN r):Nat):Int)+1))))+1)=((k+1+((plN r).length+1):Nat):Int):=by
   rw[wrap_i64 (n:=((length (plN r):Nat):Int)+1) (by omega) (by omega),wrJ (n:=(k:Int)+_),wrJ];omega
  rw[av];cases R:Di cs (s.drop (k+1+((plN r).length+1)))with
  |none=>rw[R]at y;cases y
  |some us=>
   rw[R]at y;cases y;exact⟨s.length-(k+1+((plN r).length+1)),by omega,V,_,done++[(.inr i:Tok)],us,by omega,rfl,rfl,by rw[aj,wrJ];omega,by omega,by simp,R⟩
def Ta (L:List lU)(cs:List Cho)(w:World)(v:Value)(w':World):Prop:=bW w w'/\∃(nm:lU) (b:Option Addr) (n e:Nat) (vs:List lU) (er:Int) (i:Nat),v=.tuple #[.agg #[vS nm,.slice b n e],vI er,vI (i:Int)]/\Ow tS ai w' NoB b n e vs/\bo w.heap.size b/\match xH L cs with
 |.inl c=>er=0/\c=⟨nm,vs⟩
 |.inr (x,j)=>er=x/\i=j
theorem getD_at {L:List lU}(h:i<L.length):L.getD i []=L[i]:=by rw[List.getD_eq_getElem?_getD,List.getElem?_eq_getElem h];rfl
set_option maxHeartbeats 1000000 in
theorem BN {V:Option Addr}{cc c0:Nat}{L:List lU}(ac:Sl tS w A V cc c0 L)(bk:LW L)(c9:2 <=L.length){a1:Option Addr}{cd c1:Nat}{cs:List Cho}(b8:Sl vq w B a1 cd c1 cs)(c2:Mi cs):
 Cf nr #[.slice V cc c0,.slice a1 cd c1] w (Ret (Ta L cs w)):=by
 apply zK;have dc:=ac.len;have G:=b8.len;have ds:=bk.1;have dr:=c2.1;subst dc G;intro I w4 c4 cb;let U:List Value:=[vS [],.slice none 0 0]
 have E:Sp w [ptA I au U] w4:=(Sp.nil w).add (cb▸ar w _) (p:=ptA I au U) (aB.new c4 cb) λb M=>by rw[List.mem_singleton.1 M];omega
 have an:1<L.length:=by omega
 have bt:(0 <=(1:Int)/\(1:Int)<((L.length:Nat):Int))/\V.isSome=true:=⟨⟨by decide,by omega⟩,ac.isSome an⟩
 have cf:∀{u:World} {i:Nat} (bl:i<L.length),bW w u->(Instr.loadAt ai (.pointer (aw V (i:Int) 1))).run prog u=.ok (.string (mkS L[i])) u:=λbl h=>(ac.below h).text aI bl;have cv:=getD_at an;have dv:=bk.2 _ (getElem_mem an);have ad:xH L cs=if nmB L[1]=false then .inr (221,1)else if(cs.any λc=>c.name==L[1])=true then .inr (52,1)else match zl 2 (L.drop 2) []with
  |.inr e=>.inr e
  |.inl vs=>if cs.length=6 then .inr (53,0)else .inl ⟨L[1],vs⟩:=by rw[<- cv];rfl
 have bu:∀{u:World},bW w u->(Instr.loadAt ai (.pointer (aw V (1:Int) 1))).run prog u=.ok (.string (mkS L[1])) u:=λh=>cf an h;generalize L[1]=y at*;refine⟨bt,y,bu E.bw,iU.new (zs:=[vS [],.slice none 0 0]) (cs:=[vS y,.slice none 0 0]) rfl rfl (bz rfl (bz rfl ja)) w4 λO w7 du a8 cn=>?_⟩;have D:Sp w [ptO tS ai none 0 0 [],ptA O au [vS y,.slice none 0 0],ptA I au U] w7:=(E.add cn (p:=ptA O au [vS y,.slice none 0 0]) a8 λb M=>by rw[List.mem_singleton.1 M];omega).add (Below.refl _ _) (p:=ptO tS ai none 0 0 []) (Ow.nil _ _ _ _) λb M=>by cases M
 have J:∀{W:World} {a:Option Addr} {l c:Nat} {vs:List lU} (H x:Int) (i:Nat),x=(i:Int)->Sp w [ptO tS ai a l c vs,ptA O au [vS y,.slice a l c],ptA I au U] W->(match xH L cs with|.inl c=>H=0/\c=⟨y,vs⟩|.inr (x,j)=>H=x/\i=j)->
  ∃(s:lU) (b:Option Addr) (n e:Nat),(Instr.loadAt au (.pointer (some ⟨O,0,none⟩))).run prog W=.ok (.agg #[vS s,.slice b n e]) W/\
   ∃(wx:World),(Instr.storeAt au (.pointer (some ⟨I,0,none⟩)) (.agg #[vS s,.slice b n e])).run prog W=.ok () wx/\
   ∃(s':lU) (b4:Option Addr) (n' b5:Nat),(aS au (.pointer (some ⟨I,0,none⟩))).run prog wx=.ok (.agg #[vS s',.slice b4 n' b5]) wx/\
   Ta L cs w (.tuple #[.agg #[vS s',.slice b4 n' b5],vI H,vI x]) wx:=fun{W a l c vs} H x i bq h G=>by
  obtain⟨wx,q,b2,g⟩:=iU.store0 (P:=prog) (cs:=[vS y,.slice a l c]) rfl (bz rfl (bz rfl ja)) (h.at 2 rfl:aB W I au U) rfl;have bs:=h.upd 2 rfl (Chg.grown g mem_cons_self) (p':=ptA I au [vS y,.slice a l c]) b2 λb M=>.inl M;exact⟨_,_,_,_,iU.load0 (h.at 1 rfl:aB W O au [vS y,.slice a l c]) rfl,wx,q,_,_,_,_,aB.res (iU.load0 b2 rfl),bs.bw,y,a,l,c,vs,H,i,by rw[bq],bs.at 0 rfl,λg c3=>bs.low _ mem_cons_self g (bV.2 c3),G⟩
 refine⟨bt,y,bu D.bw,aK (pI y (by omega) w7) ?_⟩;rintro _ _ ⟨rfl,rfl⟩;refine⟨_,rfl,ab.of (λh=>J 221 1 1 rfl D (by rw[ad,if_pos (by simpa using h)];exact⟨rfl,rfl⟩)) (λh=>⟨bt,y,bu D.bw,aK (uT (b8.below D.bw) (by omega) y) ?_⟩)⟩;rintro _ d3 ⟨rfl,ch⟩;have b7:=D.below ch;have b6:decide (atC cs y >=0)=(cs.any λc=>c.name==y):=Bm _ _;have b9: ¬ nmB y=false:=by simpa using h
 refine⟨_,rfl,?_⟩;show ab _ _ _;rw[b6];refine ab.of (λa9=>J 52 1 1 rfl b7 (by rw[ad,if_neg b9,if_pos a9];exact⟨rfl,rfl⟩)) (λa9=>?_);have hV:xH L cs=match zl 2 (L.drop 2) []with
  |.inr e=>.inr e
  |.inl vs=>if cs.length=6 then .inr (53,0)else .inl ⟨y,vs⟩:=by rw[ad,if_neg b9,if_neg (by rw[a9];decide)]
 clear ad b6;refine⟨λm n W=>∃(i:Nat) (a:Option Addr) (l c:Nat) (vs:List lU),n=(i:Int)/\m=L.length-i/\i <=L.length/\vs.length <=6/\zl 2 (L.drop 2) []=zl i (L.drop i) vs/\Sp w [ptO tS ai a l c vs,ptA O au [vS y,.slice a l c],ptA I au U] W,
  ⟨_,2,_,_,_,[],rfl,rfl,c9,by decide,rfl,b7⟩,λm n=>aP.of ?_ _⟩
 rintro W ⟨i,a,l,c,vs,rfl,rfl,bl,dn,F,af⟩;refine ab.of (λbb=>?_) (λbb=>?_)<;>simp only[dTx,dFx]at bb
 rotate_left
 ·obtain rfl:i=L.length:=by omega
  rw[La (Nat.le_refl _)]at F;rw[F]at hV;have hV:xH L cs=if cs.length=6 then .inr (53,0)else .inl ⟨y,vs⟩:=hV;refine ab.of (λE=>J 53 0 0 rfl af ?_) (λE=>J 0 0 0 rfl af ?_)
  ·have E:=of_decide_eq_true E;rw[hV,if_pos (by omega)];exact⟨rfl,rfl⟩
  ·have E:=of_decide_eq_false E;rw[hV,if_neg (by omega)];exact⟨rfl,rfl⟩
 have Y:i<L.length:=by omega
 have H:∀{e:Int} {j:Nat},zl 2 (L.drop 2) []=.inr (e,j)->xH L cs=.inr (e,j):=λh=>by rw[hV,h]
 refine⟨⟨⟨by omega,bb⟩,ac.isSome Y⟩,L[i],cf Y af.bw,aK (rL L[i] (by have:=bk.2 _ (getElem_mem Y);omega) W) ?_⟩;rintro _ b1 ⟨rfl,cl⟩;have R:=af.below cl;refine⟨_,_,rfl,ab.of (λE=>J 131 i i rfl R ?_) (λE=>?_)⟩
 ·have aj:unP L[i]=none:=by cases h:unP L[i]with
   |none=>rfl
   |some s=>rw[h]at E;cases E
  rw[H (F.trans (K9 Y vs aj))];exact⟨rfl,rfl⟩
 obtain⟨s,aj⟩:∃s,unP L[i]=some s:=by cases h:unP L[i]with
  |none=>rw[h]at E;cases E
  |some s=>exact⟨s,rfl⟩
 rw[aj,Option.getD_some];have F:=F.trans (HZ Y vs aj);have a0:Ow tS ai b1 NoB a l c vs:=R.at 0 rfl;have a8:aB b1 O au [vS y,.slice a l c]:=R.at 1 rfl;have de:=a0.len;subst de;have b0:=a8.load1 (P:=prog) bh rfl (i:=1) rfl;refine⟨rfl,_,_,_,b0,λm n b3=>b3=b1/\∃t:Nat,t <=vs.length/\n=(t:Int)/\m=vs.length-t/\s∉vs.take t,⟨_,rfl,0,Nat.zero_le _,rfl,rfl,by simp⟩,λm n=>aP.of ?_ _⟩;rintro b3 ⟨rfl,t,d1,rfl,rfl,bp⟩;refine ab.of (λbe=>?_) (λbe=>?_)<;>simp only[dTx,dFx]at be
 ·have ag:t<vs.length:=by omega
  refine⟨⟨⟨by omega,be⟩,a0.all.isSome ag⟩,vs[t],a0.all.text aI ag,ab.of (λD=>J 52 i i rfl R ?_) (λD=>⟨vs.length-(t+1),by omega,rfl,t+1,by omega,by rw[wrJ];omega,rfl,?_⟩)⟩
  ·have e:vs[t]=s:=eq_of_beq D;rw[H (F.trans (if_pos (by rw[<- e];exact getElem_mem ag)))];exact⟨rfl,rfl⟩
  ·intro G;rw[take_succ_eq_append_getElem ag]at G;rcases List.mem_append.1 G with G|G
   ·exact bp G
   ·rw[List.mem_singleton.1 G,beq_self_eq_true]at D;cases D
 obtain rfl:t=vs.length:=by omega
 rw[take_length]at bp;rw[if_neg bp]at F;refine⟨rfl,_,_,_,b0,ab.of (λD=>J 53 i i rfl R ?_) (λD=>⟨rfl,_,_,_,b0,λd2 d4 c8 df=>?_⟩)⟩
 ·have D:=of_decide_eq_true D;rw[H (F.trans (if_pos (by omega)))];exact⟨rfl,rfl⟩
 have D:=of_decide_eq_false D;rw[if_neg (by omega)]at F;obtain⟨_,dm,Z,av,aa,dl,dj,cp,dg⟩:=M5 (ty:=aA) (eX _) bh dG (by decide) a0 c8 df (x:=s) (vs:=[vS s]) (mu trivial) (cm:=1) (by omega);have dd:=R.upd 0 rfl cp (p':=ptO tS ai Z av aa (vs++[s])) dj dg.fp;obtain⟨wx,dk,bq,_⟩:=dd.put ng 1 rfl (i:=1) (v:=.slice Z av aa) rfl rfl (by show 1<2;decide);exact⟨dm,Z,av,aa,dl,rfl,wx,dk,L.length-(i+1),by omega,i+1,Z,av,aa,vs++[s],by rw[wrJ];omega,rfl,by omega,by rw[length_append,length_singleton];omega,F,bq⟩
def Tb (L:List lU)(ts:List Tpl)(cs:List Cho)(w:World)(v:Value)(w':World):Prop:=bW w w'/\∃(t:Tpl) (er:Int) (i:Nat),v=.tuple #[t.v,vI er,vI (i:Int)]/\t.ok/\∀ln,match wF L ln ts cs with
 |.inl c=>er=0/\c= { t with line:=ln }
 |.inr (x,j)=>er=x/\i=j
set_option maxHeartbeats 1000000 in
theorem BO {V:Option Addr}{dj c0:Nat}{L:List lU}(b8:Sl tS w A V dj c0 L)(cc:LW L)(e4:L.length=4){a1:Option Addr}{dk c1:Nat}{ts:List Tpl}(cn:Sl kl w B a1 dk c1 ts)(ex:ts.length <=8){a2:Option Addr}{dl c4:Nat}{cs:List Cho}(bs:Sl vq w C a2 dl c4 cs)(c9:Mi cs)(ek:∀c∈cs,c.vals≠[]):
 Cf ns #[.slice V dj c0,.slice a1 dk c1,.slice a2 dl c4] w (Ret (Tb L ts cs w)):=by
 apply zL;have a9:=b8.len;have a8:=cn.len;have ed:=bs.len;subst a9 a8 ed;have b9:nh.ok:=rfl;let M:Tpl:=⟨[],nh,[],0⟩
 intro J w6 eb de;have Z:Sp w [ptA J ah M.cells] w6:=(Sp.nil w).add (de▸ar w _) (p:=ptA J ah M.cells) (aB.new eb de) λb E=>by rw[List.mem_singleton.1 E];omega
 have b0:1<L.length:=by omega
 have af:2<L.length:=by omega
 have b1:3<L.length:=by omega
 have cp:∀{i:Nat},i<L.length->(0 <=(i:Int)/\(i:Int)<((L.length:Nat):Int))/\V.isSome=true:=λR=>⟨⟨by omega,by omega⟩,b8.isSome R⟩
 have cv:∀{u:World} {i:Nat} (R:i<L.length),bW w u->(Instr.loadAt ai (.pointer (aw V (i:Int) 1))).run prog u=.ok (.string (mkS L[i])) u:=λR h=>(b8.below h).text aI R;have bq:∀ln,wF L ln ts cs=if nmB L[1]=false then .inr (221,1)else if(ts.any λt=>t.name==L[1])=true then .inr (52,1)else if(vi L[2]).2≠0 then .inr ((vi L[2]).2,2)else match unP L[3]with
  |none=>.inr (131,3)
  |some s=>match Db cs s with
   |none=>.inr (222,3)
   |some ps=>if 24<Ja cs (yx ps)then .inr (53,3)else if 2000<II cs ps then .inr (54,3)else if ts.length=8 then .inr (53,0)else .inl ⟨L[1],(vi L[2]).1,s,ln⟩:=λln=>by rw[<- getD_at b0,<- getD_at af,<- getD_at b1];rfl
 have b4:= @cp 1 b0;have d6:= @cp 2 af;have d7:= @cp 3 b1;have c2:∀{u:World},bW w u->(Instr.loadAt ai (.pointer (aw V (1:Int) 1))).run prog u=.ok (.string (mkS L[1])) u:=λh=>cv b0 h;have em:∀{u:World},bW w u->(Instr.loadAt ai (.pointer (aw V (2:Int) 1))).run prog u=.ok (.string (mkS L[2])) u:=λh=>cv af h;have en:∀{u:World},bW w u->(Instr.loadAt ai (.pointer (aw V (3:Int) 1))).run prog u=.ok (.string (mkS L[3])) u:=λh=>cv b1 h;have fn:=cc.2 _ (getElem_mem b0);have fo:=cc.2 _ (getElem_mem af);have fp:=cc.2 _ (getElem_mem b1);generalize L[1]=y at*;generalize L[2]=aa at*;generalize L[3]=Y at*;let D:Tpl:=⟨y,nh,[],0⟩
 refine⟨b4,y,c2 Z.bw,dw.new (zs:=M.cells) (cs:=D.cells) rfl rfl (Tpl.one _) w6 λU w9 e2 ds d4=>?_⟩;have b7:Sp w [ptA U ah D.cells,ptA J ah M.cells] w9:=Z.add d4 (p:=ptA U ah D.cells) ds λb E=>by rw[List.mem_singleton.1 E];omega
 have c8:∀{W:World} {t:Tpl} (G x:Int) (i:Nat),x=(i:Int)->t.ok->Sp w [ptA U ah t.cells,ptA J ah M.cells] W->(∀ln,match wF L ln ts cs with|.inl c=>G=0/\c= { t with line:=ln }|.inr (x,j)=>G=x/\i=j)->
  ∃(v:Value),(Instr.loadAt ah (.pointer (some ⟨U,0,none⟩))).run prog W=.ok v W/\
   ∃(wx:World),(Instr.storeAt ah (.pointer (some ⟨J,0,none⟩)) v).run prog W=.ok () wx/\
   ∃(dm:Value),(aS ah (.pointer (some ⟨J,0,none⟩))).run prog wx=.ok dm wx/\
   Tb L ts cs w (.tuple #[dm,vI G,vI x]) wx:=fun{W t} G x i bb o h a8=>by
  obtain⟨wx,q,ag,g⟩:=dw.store0 (P:=prog) (cs:=t.cells) (Tpl.len o) (Tpl.one _) (h.at 1 rfl:aB W J ah M.cells) rfl;have af:=h.upd 1 rfl (Chg.grown g mem_cons_self) (p':=ptA J ah t.cells) ag λb E=>.inl E;exact⟨_,dw.load0 (h.at 0 rfl:aB W U ah t.cells) (Tpl.len o),wx,q,_,aB.res (dw.load0 ag (Tpl.len o)),af.bw,t,G,i,by rw[bb];rfl,o,a8⟩
 have O:∀{W:World} {t:Tpl} {G x:Int} {i:Nat},x=(i:Int)->t.ok->Sp w [ptA U ah t.cells,ptA J ah M.cells] W->(∀ln,wF L ln ts cs=.inr (G,i))->_:=fun{W t G x i} bb o h a8=>c8 (W:=W) (t:=t) G x i bb o h λln=>by rw[a8 ln];exact⟨rfl,rfl⟩
 refine⟨b4,y,c2 b7.bw,aK (pI y (by omega) w9) ?_⟩;rintro _ fb ⟨rfl,b3⟩;have b3:=b3.symm;subst b3;refine⟨_,rfl,ab.of (λh=>O (t:=D) (i:=1) rfl rfl b7 (λln=>by rw[bq,if_pos (by simpa using h)])) (λh=>?_)⟩;have dd: ¬ nmB y=false:=by simpa using h
 refine⟨λm n W=>∃t:Nat,t <=ts.length/\n=(t:Int)/\m=ts.length-t/\(∀q∈ts.take t,(q.name==y)=false)/\bW w9 W,⟨_,0,Nat.zero_le _,rfl,rfl,λq ac=>(by simp at ac),Below.refl _ _⟩,λm n=>aP.of ?_ _⟩;rintro dr ⟨t,e7,rfl,rfl,ch,be⟩;have bt:=b7.below be;refine ab.of (λbk=>?_) (λbk=>?_)<;>simp only[dTx,dFx]at bk
 ·have bu:t<ts.length:=by omega
  obtain⟨eo,ep⟩:=pF (cn.below bt.bw) bu;refine⟨⟨⟨by omega,bk⟩,cn.isSome bu⟩,_,eo,dw.new (zs:=M.cells) (cs:=ts[t].cells) rfl (Tpl.len ep) (Tpl.one _) dr λe9 fa e0 A11 b2=>?_⟩;have B11:=bt.below b2;refine⟨rfl,ts[t].name,λu F=>(A11.below F).load1 aI rfl rfl,b4,y,λu F=>c2 (B11.below F).bw,λfl ac=>?_⟩;have eg:=B11.below ac;refine ab.of (λH=>O (t:=D) (i:=1) rfl rfl eg (λln=>?_)) (λH=>⟨ts.length-(t+1),by omega,t+1,by omega,by rw[wrJ];omega,rfl,λq ad=>?_,ae (ae be b2 be.size) ac (Nat.le_trans be.size b2.size)⟩)
  ·rw[bq,if_neg dd,if_pos (List.any_eq_true.2 ⟨_,getElem_mem bu,H⟩)]
  ·rw[take_succ_eq_append_getElem bu]at ad;rcases List.mem_append.1 ad with ad|ad
   ·exact ch q ad
   ·rw[List.mem_singleton.1 ad];exact H
 obtain rfl:t=ts.length:=by omega
 rw[take_length]at ch;have ea: ¬ (ts.any λt=>t.name==y)=true:=by
  rw[List.any_eq_true];rintro⟨q,ac,e⟩;rw[ch q ac]at e;cases e
 refine⟨d6,aa,em bt.bw,aK (DB aa (by omega) dr) ?_⟩;rintro _ eu ⟨rfl,dv⟩;have F:=QO aa;have hV:∀ln,wF L ln ts cs=if(vi aa).2≠0 then .inr ((vi aa).2,2)else match unP Y with
  |none=>.inr (131,3)
  |some s=>match Db cs s with
   |none=>.inr (222,3)
   |some ps=>if 24<Ja cs (yx ps)then .inr (53,3)else if 2000<II cs ps then .inr (54,3)else if ts.length=8 then .inr (53,0)else .inl ⟨y,(vi aa).1,s,ln⟩:=λln=>by rw[bq,if_neg dd,if_neg ea]
 clear bq;generalize vi aa=es at*;obtain⟨u,d5⟩:=es;simp only at F hV;refine⟨_,_,rfl,sw.new (zs:=nh.cells) (cs:=u.cells) (Url.len b9) (Url.len F) (Url.one _) eu λdg et e1 A12 du=>?_⟩;have b5:=(bt.below dv).add du (p:=ptA dg aM u.cells) A12 λb E=>by rw[List.mem_singleton.1 E];omega
 refine ab.of (λH=>O (t:=D) (i:=2) rfl rfl b5.tail (λln=>?_)) (λH=>?_)
 ·rw[hV,if_pos (by simpa using H)]
 have H:d5=0:=by simpa using H
 subst H;simp only[ne_eq,not_true_eq_false,if_false]at hV;refine⟨d7,Y,en b5.bw,aK (rL Y (by omega) et) ?_⟩;rintro _ fd ⟨rfl,d1⟩;have b6:=b5.below d1;refine⟨_,_,rfl,ab.of (λaj=>O (t:=D) (i:=3) rfl rfl b6.tail (λln=>?_)) (λaj=>?_)⟩
 ·have a9:unP Y=none:=by cases h:unP Y with
   |none=>rfl
   |some s=>rw[h]at aj;cases aj
  rw[hV,a9]
 obtain⟨s,cl⟩:∃s,unP Y=some s:=by cases h:unP Y with
  |none=>rw[h]at aj;cases aj
  |some s=>exact⟨s,rfl⟩
 have e6:=QI cl;rw[cl,Option.getD_some];simp only[cl]at hV;have I:=Sx cs s;refine aK (GO (bs.below b6.bw) (by have:=c9.1;omega) s (by omega)) ?_;rintro v fe ⟨d2,bp⟩;have av:=b6.below d2;cases hp:Db cs s with
 |none=>
  rw[hp]at I;rw[<- I]at bp;obtain rfl:v=.tuple #[.slice none 0 0,.bool false]:=bp;exact⟨_,_,_,_,rfl,ab.yes rfl (O (t:=D) (i:=3) rfl rfl av.tail (λln=>by rw[hV,hp]))⟩
 |some ps=>
 rw[hp]at I;have I:Di cs s=some (ps.flatMap KK):=I.symm;rw[I]at bp;obtain⟨a,n,c,rfl,c3,_⟩:=bp;rw[Ap,<- Ao]at c3;have cf:=Qx (P:=λi=>0 <=i/\i<cs.length) (ps.flatMap KK) [] (λi R=>by cases R) (Rn I);rw[Ap,<- Ao]at cf;have ei:(yx ps).length <=10000000:=by
  rw[Ao,<- Ap];have h1:=Kz (ps.flatMap KK) [];have bk:=Rm I;simp only[length_nil]at h1;omega
 simp only[hp]at hV;have ef:∀i∈yx ps,1 <=(dR cs i).length:=λi R=>by
  obtain⟨d9,h1⟩:=cf i R;obtain⟨E,e⟩:=ox d9 h1;rw[e];have:=ek _ (getElem_mem E);exact List.length_pos_iff.2 this
 have dc:24<Ja cs (yx ps)↔24<Ra cs (yx ps) 1:=LK cs (yx ps) 1 ef (by decide) (by decide);have cd:2000<II cs ps↔2000<Hg cs (ps.flatMap KK):=(Gf cs ps 0).trans (by rw[Nat.zero_add]);have a9:=c3.len;subst a9;refine⟨_,_,_,_,rfl,ab.no rfl (aK (GQ c3.all (bs.below av.bw) cf ei) ?_)⟩;rintro _ _ ⟨rfl,rfl⟩;refine⟨_,rfl,ab.of (λan=>O (t:=D) (i:=3) rfl rfl av.tail (λln=>?_)) (λan=>aK (GP (bs.below av.bw) c9.w (by omega) I) ?_)⟩
 ·rw[hV,if_pos (dc.2 (of_decide_eq_true an))]
 have an:=of_decide_eq_false an;have cb:∀ln,wF L ln ts cs=if 2000<II cs ps then .inr (54,3)else if ts.length=8 then .inr (53,0)else .inl ⟨y,u,s,ln⟩:=λln=>by rw[hV,if_neg (λh=>an (dc.1 h))]
 rintro _ dn ⟨rfl,d3⟩;have a0:=av.below d3;refine⟨_,rfl,ab.of (λZ=>O (t:=D) (i:=3) rfl rfl a0.tail (λln=>by rw[cb,if_pos (cd.2 (of_decide_eq_true Z))])) (λZ=>ab.of (λbl=>O (t:=D) (i:=0) rfl rfl a0.tail (λln=>?_)) (λbl=>?_))⟩
 ·rw[cb,if_neg (λh=>of_decide_eq_false Z (cd.1 h)),if_pos (by have:=of_decide_eq_true bl;omega)]
 have bl:=of_decide_eq_false bl;obtain⟨wx,eq,ag,d8⟩:=sw.store (P:=prog) (cs:=u.cells) (Url.len F) (Url.one _) (a0.at 1 rfl:aB dn U ah D.cells) (i:=1) (by rw[Tpl.len (t:=D) b9];decide);rw[Ma y [] 0 b9]at ag;have bb:=a0.tail.upd 0 rfl (Chg.grown d8 mem_cons_self) (p':=ptA U ah (Tpl.cells ⟨y,u,[],0⟩)) ag λb E=>.inl E;obtain⟨ev,er,df,ew⟩:=bb.put dG 0 rfl (i:=22) (v:=vS s) rfl rfl (by rw[Tpl.len (t:=⟨y,u,[],0⟩) F];decide);rw[L9 y [] s 0 F]at df;exact⟨_,sw.load0 (a0.at 0 rfl:aB dn dg aM u.cells) (Url.len F),rfl,wx,eq,rfl,ev,er,c8 (t:=⟨y,u,s,0⟩) 0 0 0 rfl F df λln=>by rw[cb,if_neg (λh=>of_decide_eq_false Z (cd.1 h)),if_neg (by omega)];exact⟨rfl,rfl⟩⟩
theorem Ow.none0 {T:Ty y}{w w':World}(E:k=w.heap.size)(F:w'=w.alloc (.cells #[] t)):Ow T t w' A (some ⟨k,0,none⟩) 0 0 []:=by
 subst E F;exact⟨rfl,Nat.le_refl _,Nat.zero_le _,.inr ⟨_,#[],(0,0),rfl,heap_alloc_new w _,λi D=>(by simp at D),by simp,by simpa using jc.nil T _ A⟩⟩
def JM (x:lU):List lU:=if[]∈bE 32 [] x then[]else bE 32 [] x
theorem Du (s:lU)(V:s.length <=10000000)(w:World):
 Cf o4 #[vS s] w (Ret λv w'=>∃a n c,v=.tuple #[.slice a n c,.bool (!decide ([]∈bE 32 [] s))]/\Ow tS ai w' NoB a n c (JM s)/\bo w.heap.size a/\bW w w'):=by
 apply Cb;refine aK (fq s 32 (by omega) w) ?_;rintro _ O ⟨a,n,c,rfl,G,J,H⟩;have R:=dK 32 s [];have I:JM s=if[]∈bE 32 [] s then[]else bE 32 [] s:=rfl;generalize bE 32 [] s=L at*;have M:=G.len;subst M;refine⟨_,_,_,rfl,λm i W=>W=O/\∃k:Nat,i=(k:Int)/\m=L.length-k/\k <=L.length/\[]∉L.take k,⟨_,rfl,0,rfl,rfl,Nat.zero_le _,by simp⟩,λm i=>aP.of ?_ _⟩;rintro W ⟨rfl,k,rfl,rfl,U,F⟩;refine ab.of (λh=>?_) (λh=>?_)<;>simp only[dTx,dFx]at h
 ·have E:k<L.length:=by omega
  refine⟨⟨⟨by omega,h⟩,G.all.isSome E⟩,L[k],G.all.text aI E,ab.of (λD=>?_) (λD=>⟨L.length-(k+1),by omega,rfl,k+1,by rw[wrJ];omega,rfl,by omega,λy=>?_⟩)⟩
  ·have e:L[k]=[]:=eq_of_beq D;have y:[]∈L:=by rw[<- e];exact getElem_mem E
   rw[I,if_pos y];exact⟨none,0,0,by rw[decide_eq_true y];rfl,Ow.nil _ _ _ _,bo.none _,H⟩
  ·rw[take_succ_eq_append_getElem E]at y;rcases List.mem_append.1 y with y|y
   ·exact F y
   ·rw[<- List.mem_singleton.1 y,beq_self_eq_true]at D;cases D
 ·obtain rfl:k=L.length:=by omega
  rw[take_length]at F;rw[I,if_neg F];exact⟨_,_,_,by rw[decide_eq_false F];rfl,G,J,H⟩
theorem SB {w0 W:World}{ps:List Pt}{b:Option Addr}{n e:Nat}{vs:List lU}(h:Sp w0 (ptO tS ai b n e vs::ps) W){S:List Nat}{a:Option Addr}{l c:Nat}{cs:List Cho}(G:ps[i]? =some (ptD au S a l c cs))(bw:cs.length <=1000)(E:lU)
 {M:Nat} (a8:M=W.heap.size) (Z:w=W.alloc (.cells #[vS E,.slice b n e] au)):
 ∃(w71:World) (O:Option Addr) (aa c':Nat),(Builtin.append_ #[aJ,aJ] aJ #[.slice a l c,.slice (some ⟨M,0,none⟩) 1 1]).run prog w=.ok (.slice O aa c') w71/\∃S',Sp w0 (ps.set i (ptD au S' O aa c' (cs++[⟨E,vs⟩]))) w71:=by
 obtain⟨bt,a9,be⟩:=(h.at (i+1) (by rw[List.getElem?_cons_succ];exact G):(ptD au S a l c cs).P W)
 have ag:Ow tS ai W NoB b n e vs:=h.at 0 rfl;have aj:∀g,fm a=some g->g∉(fm b).toList:=λg D av=>h.st.ap 0 (i+1) (ptO tS ai b n e vs) (ptD au S a l c cs) rfl (by rw[List.getElem?_cons_succ];exact G) (by omega) g av (List.mem_append.2 (.inl (bV.2 D)));generalize F:S++(fm b).toList=S' at*;have bp:∀b∈S,b∈S':=λb y=>F▸List.mem_append.2 (.inl y);have bq:∀g,fm b=some g->g∈S':=λg D=>F▸List.mem_append.2 (.inr (bV.2 D));have H:∀b∈S',b<W.heap.size:=λx y=>by
  rw[<- F]at y;rcases List.mem_append.1 y with y|y
  ·exact a9 x y
  ·exact ag.lt x (bV.1 y)
 have J:∀g,fm a=some g->g∉S':=λg D y=>by
  rw[<- F]at y;rcases List.mem_append.1 y with y|y
  ·exact be g D y
  ·exact aj g D y
 have af:Ow vq au W (λb=>b∈S') a l c cs:=bt.mono λb _ y=>bp b y;have bb:=h.merge i G (r:=ptD au S' a l c cs) ⟨af,H,J⟩ λb y=>by
  rcases List.mem_append.1 y with y|y
  ·exact .inr (List.mem_append.2 (.inl y))
  ·rw[<- F]at y;rcases List.mem_append.1 y with y|y
   ·exact .inr (List.mem_append.2 (.inr y))
   ·exact .inl y
 have bk:vq.rep W (λb=>b∈S') [vS E,.slice b n e] ⟨E,vs⟩:=⟨b,n,e,rfl,ag.sl (λ_ _ h=>h.elim) bq⟩
 have I:=(Z▸ar W _:bW W w)
 have bl:Src vq w (λb=>b∈S') (some ⟨M,0,none⟩) 1 [⟨E,vs⟩]:=Src.new1 a8 Z bk H;obtain⟨w58,R,ac,U,bu,bs,an,ad⟩:=ff (ty:=aJ) cP pO (by decide) (af.below I) J (cm:=1) bl (by simp only[length_singleton];omega);have V:Chg ((fm a).toList++S') W w58:=((Chg.of I).trans (Chg.row an)).mono λb y=>List.mem_append.2 (.inl y);have b0:=I.size;have a0:=(List.getElem?_eq_some_iff.1 G).1;have Y:=bb.upd i (by rw[List.getElem?_set_self a0]) V (p':=ptD au S' R ac U (cs++[⟨E,vs⟩])) ⟨bs,λb y=>Nat.lt_of_lt_of_le (H b y) V.size,λg D y=>by
  rcases ad g D with e|e
  ·exact J g e y
  ·have:=H g y;omega⟩ λb y=>by
  rcases List.mem_append.1 y with y|y
  ·rcases ad b (bV.1 y)with e|e
   ·exact .inl (List.mem_append.2 (.inl (bV.2 e)))
   ·exact .inr (by omega)
  ·exact .inl (List.mem_append.2 (.inr y))
 rw[List.set_set]at Y;exact⟨w58,R,ac,U,bu,S',Y⟩
theorem Lc:∀(i:Nat) (L vs y:List lU),zl i L vs=.inl y->vs.length+L.length=y.length
 |i,[],vs,y,h=>by cases h;simp
 |i,x::r,vs,y,h=>by
  unfold zl at h;split at h
  ·cases h
  split at h
  ·cases h
  split at h
  ·cases h
  ·have:=Lc _ _ _ _ h;simp at this ⊢;omega
theorem Og {L:List lU}{cs:List Cho}{c:Cho}(D:2<L.length)(h:xH L cs=.inl c):c.vals≠[]:=by
 unfold xH at h;split at h
 ·cases h
 split at h
 ·cases h
 split at h
 ·cases h
 ·rename_i vs y;split at h
  ·cases h
  ·cases h;have:=Lc _ _ _ _ y;rw[length_drop]at this;intro e;have e:vs=[]:=e;rw[e]at this;simp at this;omega
theorem Oa:∀(i:Nat) (L vs:List lU) (e:Int) (k:Nat),zl i L vs=.inr (e,k)->k <=i+L.length
 |i,[],vs,e,k,h=>by cases h
 |i,x::r,vs,e,k,h=>by
  unfold zl at h;split at h
  ·cases h;omega
  split at h
  ·cases h;omega
  split at h
  ·cases h;omega
  ·have:=Oa _ _ _ _ _ h;rw[length_cons];omega
theorem Uj {L:List lU}{cs:List Cho}{e:Int}(D:2<L.length)(h:xH L cs=.inr (e,k)):k <=L.length:=by
 unfold xH at h;split at h
 ·cases h;omega
 split at h
 ·cases h;omega
 split at h
 ·rename_i z y;cases h;have:=Oa _ _ _ _ _ y;rw[length_drop]at this;omega
 ·split at h
  ·cases h;omega
  ·cases h
theorem VL {L:List lU}{ln:Int}{ts:List Tpl}{cs:List Cho}{e:Int}(h:wF L ln ts cs=.inr (e,k)):k <=4:=by
 unfold wF at h;split at h
 ·cases h;decide
 split at h
 ·cases h;decide
 split at h
 ·cases h;decide
 split at h
 ·cases h;decide
 split at h
 ·cases h;decide
 split at h
 ·cases h;decide
 split at h
 ·cases h;decide
 split at h
 ·cases h;decide
 ·cases h
set_option maxHeartbeats 2000000 in
theorem GM (s:lU)(w:World):Cf re #[vS s] w (Ret (Av s w)):=by
 apply D5;intro be J e1 de;have b2:=(de▸ar w _:bW w J)
 have cf:aB J be ax (nG (0,0,0)):=aB.new e1 de;have gi:=cf.lt;have c3:∀{W:World} {a:Option Addr} {n c:Nat} {b:Option Addr} {m e:Nat} (f:Flt),bW J W->(∀wx,bW w wx->W.grownBy wx (some be)->Av s w (.tuple #[.slice a n c,.slice b m e,vE f]) wx)->∃wx,(Instr.storeAt ax (.pointer (some ⟨be,0,none⟩)) (vE f)).run prog W=.ok () wx/\
  ∃(p q r:Int),(aS ax (.pointer (some ⟨be,0,none⟩))).run prog wx=.ok (.agg #[vI p,vI q,vI r]) wx/\Av s w (.tuple #[.slice a n c,.slice b m e,.agg #[vI p,vI q,vI r]]) wx:=fun{W a n c b m e} f y es=>by
  obtain⟨wx,fl,fx,c4⟩:=di.store0 (P:=prog) (cs:=nG f) rfl (pC _) (cf.below y) rfl;exact⟨wx,fl,f.1,f.2.1,f.2.2,aB.res (di.load0 fx rfl),es wx (Below.put (ae b2 y b2.size) c4 (by omega)) c4⟩
 have cp:∀{W:World} (f:Flt),oc s=.inr f->f.1≠0->bW J W->_:=fun{W} f e eg y=>c3 (a:=none) (n:=0) (c:=0) (b:=none) (m:=0) (e:=0) f y λwx B _=>⟨B,by rw[e];exact⟨rfl,eg⟩⟩
 refine ab.of (λc1=>cp (54,1,1) (lO (by have:=of_decide_eq_true c1;omega)) (show(54:Int)≠0 by decide) (Below.refl _ _)) (λc1=>?_);have c1: ¬ 20000<s.length:=by have:=of_decide_eq_false c1;omega
 intro bu w25 ex dc dj w26 e0 dd;have em:Sp J [ptO kl ah (some ⟨bu,0,none⟩) 0 0 []] w25:=(Sp.nil J).add (dc▸ar J _) (p:=ptO kl ah (some ⟨bu,0,none⟩) 0 0 []) (Ow.none0 ex dc) λb y=>by have y:b∈(fm (some (⟨bu,0,none⟩:Addr))).toList:=y;have:=bV.1 y;simp[fm]at this;omega
 have en:Sp J [ptD au [] (some ⟨dj,0,none⟩) 0 0 [],ptO kl ah (some ⟨bu,0,none⟩) 0 0 []] w26:=em.add (dd▸ar w25 _) (p:=ptD au [] (some ⟨dj,0,none⟩) 0 0 []) ⟨Ow.none0 e0 dd,λg H=>(by cases H),λg _ H=>(by cases H)⟩ λb y=>by
  rcases List.mem_append.1 y with y|y
  ·have:=bV.1 y;simp[fm]at this;omega
  ·cases y
 refine aK (nB s (by omega) w26) ?_;rintro _ gm ⟨b,nb,an,rfl,dr,ef,d2⟩;have eo:=en.add d2 (p:=ptO tS ai b nb an (fF s)) dr λg H=>ef g (bV.1 H);have et:=nU s;have f4:=lP s;have hV:oc s=jX Hh 0 ((fF s).drop 0) ([],[]):=jY c1;generalize fF s=M at*;have e4:=dr.len;subst e4;refine⟨_,_,_,rfl,λm a n c F n' c' i W=>∃(j:Nat) (ts:List Tpl) (cs:List Cho) (S:List Nat),i=(j:Int)/\m=M.length-j/\j <=M.length/\(RdI (ts,cs)/\∀x∈cs,x.vals≠[])/\oc s=jX Hh j (M.drop j) (ts,cs)/\Sp J [ptO tS ai b M.length an M,ptD au S F n' c' cs,ptO kl ah a n c ts] W,
  ⟨_,0,[],[],[],rfl,rfl,Nat.zero_le _,⟨⟨Nat.zero_le _,Mi.nil,λt e7=>by cases e7⟩,λx E=>by cases E⟩,hV,eo⟩,λm a n c F n' c' i=>aP.of ?_ _⟩
 rintro wl ⟨j,ts,cs,S,rfl,rfl,f7,⟨G,a9⟩,b7,Y⟩;have dn:Ow tS ai wl NoB b M.length an M:=Y.at 0 rfl;refine ab.of (λb3=>?_) (λb3=>?_)<;>simp only[dTx,dFx]at b3
 rotate_left
 ·have bl:Ow kl ah wl NoB a n c ts:=Y.at 2 rfl;have bk:(ptD au S F n' c' cs).P wl:=Y.at 1 rfl;have c2:bo J.heap.size a:=λg H=>Y.low (ptO kl ah a n c ts) (by simp) g (bV.2 H);have b5:∀g∈(ptD au S F n' c' cs).fp,J.heap.size <=g:=Y.low (ptD au S F n' c' cs) (by simp);refine c3 (0,0,0) Y.bw λwx B g=>⟨B,?_⟩
  rw[b7,nM Hh (by omega)];have af:=b2.size;exact⟨G,_,_,_,_,_,_,S,rfl,bl.put (λg H e=>by have:=c2 g H;omega) g,(ptD au S F n' c' cs).st bk ((Chg.grown (S:=[be]) g mem_cons_self).keep.mono λb y O=>by rw[mem_singleton]at O;have:=b5 b y;omega),c2.mono af,λg H=>Nat.le_trans af (b5 g (List.mem_append.2 (.inl (bV.2 H)))),λg H=>Nat.le_trans af (b5 g (List.mem_append.2 (.inr H)))⟩
 have a8:j<M.length:=by omega
 have ed:i64.wrap ((j:Int)+1)=(j:Int)+1:=wrJ;have gc:=et _ (getElem_mem a8);refine⟨⟨⟨by omega,b3⟩,dn.all.isSome a8⟩,M[j],dn.all.text aI a8,?_⟩;rw[ed];generalize E:M[j]=x at*;have next:∀{W:World} {a:Option Addr} {n c:Nat} {F:Option Addr} {n' c':Nat} {V:List Tpl} {cs':List Cho} {Z:List Nat},Hh j (ts,cs) M[j]=.inl (V,cs')->(RdI (V,cs')/\∀x∈cs',x.vals≠[])->Sp J [ptO tS ai b M.length an M,ptD au Z F n' c' cs',ptO kl ah a n c V] W->∃dm:Nat,dm<M.length-j/\∃(bb:Nat) (ts:List Tpl) (cs:List Cho) (S:List Nat),(j:Int)+1=(bb:Int)/\dm=M.length-bb/\bb <=M.length/\(RdI (ts,cs)/\∀x∈cs,x.vals≠[])/\oc s=jX Hh bb (M.drop bb) (ts,cs)/\Sp J [ptO tS ai b M.length an M,ptD au S F n' c' cs,ptO kl ah a n c ts] W:=
  fun{W a n c F n' c' V cs' Z} e G h=>⟨M.length-(j+1),by omega,j+1,V,cs',Z,rfl,rfl,by omega,G,by rw[b7,je a8 e],h⟩
 have skip:x=[]\/x.head?=some 35->Hh j (ts,cs) M[j]=.inl (ts,cs):=λh=>by rw[E];exact Js h
 refine iV (λW=>W=wl/\ ¬ (x=[]\/x.head?=some 35)) ?_ ?_
 ·refine ab.of (λb4=>next (skip (.inl (eq_of_beq b4))) ⟨G,a9⟩ Y) (λb4=>?_);cases x with
  |nil=>cases b4
  |cons cd r=>
   refine⟨⟨by decide,by simp only[length_cons];omega⟩,ab.of (λa0=>next (skip (.inr ?_)) ⟨G,a9⟩ Y) (λa0=>⟨rfl,?_⟩)⟩
   ·rw[FI rfl]at a0;have:=Q4 (k:=35) a0;rw[List.head?_cons,UInt8.toNat_inj.1 (show cd.toNat=(35:UInt8).toNat from this)]
   ·rw[FI rfl]at a0;have:=Nx (k:=35) a0;rintro(e|e)
    ·cases e
    ·rw[List.head?_cons]at e;cases e;exact this rfl
 rintro W ⟨rfl,e6⟩;have av:Hh j (ts,cs) M[j]=match rdV (bE 32 [] x) ((j:Int)+1) (ts,cs)with
  |.inl st'=>.inl st'
  |.inr (e,k)=>.inr (e,(qL (bE 32 [] x) k:Nat)):=by rw[E];exact Jr e6
 refine aK (Du x (by omega) W) ?_;rintro _ w44 ⟨d,p,q,rfl,U,fW,d3⟩;have ag:=Y.add d3 (p:=ptO tS ai d p q (JM x)) U λg H=>fW g (bV.1 H);have bq:LW (bE 32 [] x):=Tj (by omega);have cb:JM x=if[]∈bE 32 [] x then[]else bE 32 [] x:=rfl;have hp:=U.len;subst hp;refine⟨_,_,_,_,rfl,λa n c F n' c' e k W=>∃(V:List Tpl) (cs':List Cho) (Z:List Nat),Sp J [ptO tS ai d (JM x).length q (JM x),ptO tS ai b M.length an M,ptD au Z F n' c' cs',ptO kl ah a n c V] W/\((e=0/\Hh j (ts,cs) M[j]=.inl (V,cs')/\RdI (V,cs')/\∀x∈cs',x.vals≠[])\/(e≠0/\∃i:Nat,k=(i:Int)/\i <=(JM x).length/\Hh j (ts,cs) M[j]=.inr (e,(qL (JM x) i:Nat)))),?_,λa n c F n' c' e k=>aP.of ?_ _⟩
 ·
  by_cases aj:[]∈bE 32 [] x
  ·rw[decide_eq_true aj];refine gX (w:=w44) false (ab.no rfl ⟨rfl,rfl⟩) (ab.no rfl (gX (w:=w44) false (ab.no rfl ⟨rfl,rfl⟩) (ab.no rfl ⟨ts,cs,S,ag,.inr ⟨by decide,0,rfl,Nat.zero_le _,?_⟩⟩)));have:rdV (bE 32 [] x) ((j:Int)+1) (ts,cs)=.inr (131,0):=by unfold rdV;rw[if_pos aj]
   rw[av,this];rfl
  rw[decide_eq_false aj];rw[if_neg aj]at cb;rw[cb]at*;have I:rdV (bE 32 [] x) ((j:Int)+1) (ts,cs)=if(bE 32 [] x).head?=some pQ/\2<(bE 32 [] x).length then(match xH (bE 32 [] x) cs with|.inr e=>.inr e|.inl c=>.inl (ts,cs++[c]))
   else if(bE 32 [] x).head?=some vm/\(bE 32 [] x).length=4 then(match wF (bE 32 [] x) ((j:Int)+1) ts cs with|.inr e=>.inr e|.inl t=>.inl (ts++[t],cs))
   else .inr (131,0):=by unfold rdV;rw[if_neg aj];rfl
  have b9:0<(bE 32 [] x).length:=List.length_pos_iff.2 (jN 32 x []);clear cb;generalize bE 32 [] x=L at*;have U:Ow tS ai w44 NoB d L.length q L:=U;have dl:∀{u:World},bW w44 u->(Instr.loadAt ai (.pointer (aw d (0:Int) 1))).run prog u=.ok (.string (mkS L[0])) u:=λh=>(U.below h).all.text aI b9;have df:(0 <=(0:Int)/\(0:Int)<((L.length:Nat):Int))/\d.isSome=true:=⟨⟨by decide,by omega⟩,U.all.isSome b9⟩
  have ew:L.head?=some L[0]:=by cases L with
   |nil=>exact absurd b9 (by decide)
   |cons cd r=>rfl
  simp only[ew,Option.some.injEq]at I;refine gX (w:=w44) (decide (L[0]=pQ/\2<L.length)) (ab.yes rfl ⟨df,_,dl (Below.refl _ _),ab.of (λh=>⟨rfl,?_⟩) (λh=>⟨rfl,?_⟩)⟩) (ab.of (λh=>?_) (λh=>gX (w:=w44) (decide (L[0]=vm/\L.length=4)) (ab.yes rfl ⟨df,_,dl (Below.refl _ _),ab.of (λD=>⟨rfl,?_⟩) (λD=>⟨rfl,?_⟩)⟩) (ab.of (λD=>?_) (λD=>⟨ts,cs,S,ag,.inr ⟨by decide,0,rfl,Nat.zero_le _,?_⟩⟩))))
  ·have h:=eq_of_beq h;rw[decide_eq_decide];constructor
   ·exact λD=>⟨h,by omega⟩
   ·exact λD=>by have:=D.2;omega
  ·rw[decide_eq_false];exact λD=>by rw[D.1,beq_self_eq_true]at h;cases h
  ·obtain⟨h1,D⟩:=of_decide_eq_true h;rw[if_pos ⟨h1,D⟩]at I;have bk:(ptD au S F n' c' cs).P w44:=ag.at 2 rfl;refine aK (BN U.all bq (by omega) bk.1.all G.2.1) ?_;rintro v fz ⟨d4,cc,f,g,e,vs,ea,i,rfl,fe,fV,O⟩;have ep:=(ag.add d4 (p:=ptO tS ai f g e vs) fe λb y=>fV b (bV.1 y))
   refine⟨_,_,_,_,_,_,rfl,iU.new (zs:=[vS [],.slice none 0 0]) (cs:=[vS cc,.slice f g e]) rfl rfl (bz rfl (bz rfl ja)) fz λge gj f8 ds dv=>⟨_,_,_,_,iU.load0 ds rfl,λgh go e2 e9=>?_⟩⟩;obtain⟨f0,du,fb,d6,fs,Z,eq⟩:=SB (ep.below dv) (i:=2) rfl (by have b6:cs.length <=6:=G.2.1.1;omega) cc e2 e9;refine⟨f0,du,fb,d6,fs,ts,cs++[Cho.mk cc vs],Z,eq,?_⟩;cases R:xH L cs with
   |inl c=>
    rw[R]at O I;obtain⟨rfl,rfl⟩:=O;exact .inl ⟨rfl,by rw[av,I],⟨G.1,Le bq G.2.1 R,G.2.2⟩,λx E=>by
     rcases List.mem_append.1 E with E|E
     ·exact a9 x E
     ·rw[List.mem_singleton.1 E];exact Og D R⟩
   |inr z=>
    obtain⟨f2,f3⟩:=z;rw[R]at O I;obtain⟨rfl,rfl⟩:=O;exact .inr ⟨Oe R,i,rfl,Uj D R,by rw[av,I]⟩
  ·have D:=eq_of_beq D;rw[Bool.eq_iff_iff,beq_iff_eq,dTx];constructor
   ·exact λaa=>⟨D,by omega⟩
   ·exact λaa=>by have:=aa.2;omega
  ·rw[decide_eq_false];exact λaa=>by rw[aa.1,beq_self_eq_true]at D;cases D
  ·rw[if_neg (of_decide_eq_false h)]at I;obtain⟨h1,af⟩:=of_decide_eq_true D;rw[if_pos ⟨h1,af⟩]at I;have bk:(ptD au S F n' c' cs).P w44:=ag.at 2 rfl;have bl:Ow kl ah w44 NoB a n c ts:=ag.at 3 rfl;refine aK (BO U.all bq af bl.all G.1 bk.1.all G.2.1 a9) ?_;rintro v f1 ⟨d5,t,ea,i,rfl,bp,O⟩;have O:=O ((j:Int)+1);have er:=ag.below d5;refine⟨_,_,_,rfl,dw.new (zs:=Tpl.cells ⟨[],nh,[],0⟩) (cs:=t.cells) rfl (Tpl.len bp) (Tpl.one _) f1 λdg gl f9 b1 d1=>?_⟩;have ek:=er.add d1 (p:=ptA dg ah t.cells) b1 λb y=>by rw[List.mem_singleton.1 y];omega
   obtain⟨wx,fn,bt,_⟩:=ek.put mE 0 rfl (i:=23) (v:=vI ((j:Int)+1)) rfl rfl (by rw[Tpl.len bp];decide);let ad:Tpl:= { t with line:=(j:Int)+1 }
   have b0:ad.ok:=bp;have eb:t.cells.set 23 (vI ((j:Int)+1))=ad.cells:=by
    unfold Tpl.cells;rw[show 23=22+1 from rfl,List.set_cons_succ,List.set_append_right _ _ (by rw[Url.len bp];decide),Url.len bp];rfl
   rw[eb]at bt;have b1:aB wx dg ah ad.cells:=bt.at 0 rfl;have bl:Ow kl ah wx NoB a n c ts:=bt.at 4 rfl;have c8:=G.1;have c8:ts.length <=8:=c8;obtain⟨_,fy,cn,dk,cv,fo,fd,d7,n100⟩:=M5 (ty:=aE) zW bJ jy (by decide) bl rfl rfl (x:=ad) (vs:=ad.cells) ⟨rfl,b0⟩ (cm:=1) (by omega);have ei:=(bt.upd 4 rfl d7 (p':=ptO kl ah cn dk cv (ts++[ad])) fd n100.fp).tail;refine⟨rfl,wx,fn,_,dw.load0 b1 (Tpl.len b0),_,_,_,_,Pr b0 wx,fy,cn,dk,cv,fo,ts++[ad],cs,S,ei,?_⟩;cases R:wF L ((j:Int)+1) ts cs with
   |inl c=>
    rw[R]at O I;obtain⟨rfl,rfl⟩:=O;have:=Hi R;exact .inl ⟨rfl,by rw[av,I],⟨by show(ts++[ad]).length <=8;rw[length_append,length_singleton];omega,G.2.1,λx E=>by
     rcases List.mem_append.1 E with E|E
     ·exact G.2.2 x E
     ·rw[List.mem_singleton.1 E];exact b0⟩,a9⟩
   |inr z=>
    obtain⟨f2,f3⟩:=z;rw[R]at O I;obtain⟨rfl,rfl⟩:=O;exact .inr ⟨QG R,i,rfl,by rw[af];exact VL R,by rw[av,I]⟩
  ·rw[if_neg (of_decide_eq_false h),if_neg (of_decide_eq_false D)]at I;rw[av,I]
 rintro cl ⟨V,cs',Z,aa,c9⟩;refine ab.of (λac=>?_) (λac=>?_)
 rotate_left
 ·have ac:e=0:=by simpa using ac
  obtain⟨_,d8,d9⟩:=c9.resolve_right λh=>h.1 ac;exact next d8 d9 aa.tail
 have ac:e≠0:=by simpa using ac
 obtain⟨_,i,rfl,f6,aj⟩:=c9.resolve_left λh=>ac h.1;have U:Ow tS ai cl NoB d (JM x).length q (JM x):=aa.at 0 rfl;have b8:LW (JM x):=by
  unfold JM;split
  ·exact⟨Nat.zero_le _,λcd fa=>by cases fa⟩
  ·exact bq
 have eu:=J1 b8;have gb:=b8.1;refine⟨λm c k ch=>ch=cl/\∃t:Nat,k=(t:Int)/\m=i-t/\t <=i/\c=((qL (JM x) t:Nat):Int),⟨_,rfl,0,rfl,rfl,Nat.zero_le _,rfl⟩,λm c k=>aP.of ?_ _⟩;rintro ch ⟨rfl,t,rfl,rfl,ga,rfl⟩;have f5:=eu t (by omega);refine ab.of (λb6=>?_) (λb6=>?_)<;>simp only[dTx,dFx]at b6
 ·have bs:t<(JM x).length:=by omega
  have gd:=b8.2 _ (getElem_mem bs);have ev:=qM bs;refine⟨⟨⟨by omega,by omega⟩,U.all.isSome bs⟩,_,U.all.text aI bs,i-(t+1),by omega,rfl,t+1,by rw[wrJ];omega,rfl,by omega,?_⟩;rw[wrap_i64 (n:=((length (JM x)[t]:Nat):Int)+1) (by omega) (by omega),wrJ,ev];omega
 ·obtain rfl:t=i:=by omega
  exact cp (e,(j:Int)+1,(qL (JM x) t:Nat)) (by rw[b7,kw a8 aj]) ac aa.bw
theorem pB {y E:Type}{f:y->List E}{B:Nat} :∀l:List y,(∀x∈l,(f x).length <=B)->(l.flatMap f).length <=l.length*B
 |[],_=>Nat.zero_le _
 |x::l,h=>by
  have h1:=pB l λq D=>h q (mem_cons_of_mem _ D);have F:=h x mem_cons_self;rw[List.flatMap_cons,length_append,length_cons,Nat.add_mul,Nat.one_mul];omega
theorem sI {y D:Type}{f:y->List D}{l:List y}(h:j<l.length):(l.take (j+1)).flatMap f=(l.take j).flatMap f++f l[j]:=by
 rw[take_succ_eq_append_getElem h,List.flatMap_append];simp
theorem SA {T:Ty y}(J:Flat T){P:Program}{st t ty:TypeId}{bytes:Nat}{z:Value}(Z:P.underlying st=some (.slice t))(ac:TF P t T.k bytes z)(H:0<bytes)
 {w0 w:World} {a:Option Addr} {n c:Nat} {xs:List y} (R:Ow T t w NoB a n c xs) (F:bo w0.heap.size a) (E:bW w0 w) {m cm:Nat} {ys:List y} (Y:Sl T w A p m cm ys) (I:(xs.length+ys.length)*bytes <=140737488355328):
 ∃(w2:World) (D:Option Addr) (n' c':Nat),(Builtin.append_ #[st,st] ty #[.slice a n c,.slice p m cm]).run P w=.ok (.slice D n' c') w2/\Ow T t w2 NoB D n' c' (xs++ys)/\bo w0.heap.size D/\bW w0 w2:=by
 obtain⟨ad,a4,aa,G,V,U,O,M⟩:=ff (ty:=ty) Z ac H R (λ_ _ h=>h) (cm:=cm) (Y.flat J) I;exact⟨ad,a4,aa,G,V,U,F.app E.size M,E.grown O E.size F⟩
theorem j4 (h:Hst)(y:h.name.length <=253):(dN h).length <=254:=by
 unfold dN;split
 ·have:=pE h;omega
 ·show 1 <=254;decide
theorem ML (bs:Env w){vs:List Value}{a b:Option Addr}{n c m e:Nat}{ps:List Pat}{ts:List Tpl}(bu:aB w k eO vs)(cd:vs[0]? =some (.slice a n c))(h1:vs[1]? =some (.slice b m e))(aj:Sl lS w A a n c ps)(J:Sl kl w B b m e ts)(ag:Yt ps)(bq:X4 ts)(df:ts.length <=8):
 Cf i7 #[.pointer (some ⟨k,0,none⟩)] w (Ret λv w'=>∃p,v=.pointer p/\KT w.heap.size w' p (va (ps.flatMap (λx=>dN x.host)++ts.flatMap λt=>dN t.url.host))/\bW w w'):=by
 apply rR;have cp:=aj.len;have cn:=J.len;subst cp cn;have bl:∀p∈ps,(dN p.host).length <=254:=λp hp=>j4 _ (ag.2 p hp).2;have bp:∀t∈ts,(dN t.url.host).length <=254:=λt J=>j4 _ (bq t J);have de:=ag.1;have bk:∀j,((ps.take j).flatMap λx=>dN x.host).length <=12*254:=λj=>Nat.le_trans (pB (B:=254) _ λx av=>bl x (mem_of_mem_take av)) (Nat.mul_le_mul (by rw[length_take];omega) (Nat.le_refl _));have cc:∀j,((ts.take j).flatMap λx=>dN x.url.host).length <=8*254:=λj=>Nat.le_trans (pB (B:=254) _ λx av=>bp x (mem_of_mem_take av)) (Nat.mul_le_mul (by rw[length_take];omega) (Nat.le_refl _));refine⟨rfl,rfl,a,_,c,by rw[vW];exact bu.load1 dy rfl cd,λO a3 M H i W=>∃j:Nat,i=(j:Int)/\O=ps.length-j/\j <=ps.length/\Ow tS ai W NoB a3 M H ((ps.take j).flatMap λx=>dN x.host)/\bo w.heap.size a3/\bW w W,
  ⟨_,0,rfl,rfl,Nat.zero_le _,Ow.nil _ _ _ _,bo.none _,Below.refl _ _⟩,λO a3 M H i=>aP.of ?_ _⟩
 rintro W ⟨j,rfl,rfl,I,F,R,y⟩;refine ab.of (λh=>?_) (λh=>?_)<;>simp only[dTx,dFx]at h
 ·have D:j<ps.length:=by omega
  obtain⟨a0,E⟩:=lK (aj.below y) D;have hp:=ag.2 _ (getElem_mem D);have cf:=bl _ (getElem_mem D);have an:=sI (f:=λx:Pat=>dN x.host) D;have bt:=bk j;generalize ps[j]=p at*;refine⟨⟨⟨by omega,h⟩,(aj.below y).isSome D⟩,_,a0,ck.new (zs:=(⟨false,jZ,false,false,[]⟩:Pat).cells) (cs:=p.cells) rfl (Pat.len E) (Pat.one _) W λdk c9 dg bw ac=>?_⟩;have V:=ae y ac y.size;refine⟨rfl,_,bn.load bw (i:=1) (us:=p.host.cells) (Hst.len E) (λj I=>Af E I),aK (L5 (h:=p.host) E (Nat.le_trans hp.2 (by decide)) c9 (bs.step V)) ?_⟩;rintro _ dm ⟨b1,c3,b5,rfl,a9,G⟩;have U:=ae V G V.size;obtain⟨bb,Z,n',c',a8,o2,af,aa⟩:=SA (ty:=aA) (eX _) bh dG (by decide) (F.below (ae ac G ac.size)) R U a9 (by omega);exact⟨_,_,_,rfl,bb,Z,n',c',a8,ps.length-(j+1),by omega,j+1,by rw[wrJ];omega,rfl,by omega,by rw[an];exact o2,af,aa⟩
 obtain rfl:j=ps.length:=by omega
 rw[take_length]at F;have cl:=bk ps.length;rw[take_length]at cl;refine⟨rfl,rfl,b,_,e,by rw[fc];exact(bu.below y).load1 bJ rfl h1,λO a3 M H i W=>∃j:Nat,i=(j:Int)/\O=ts.length-j/\j <=ts.length/\Ow tS ai W NoB a3 M H (ps.flatMap (λx=>dN x.host)++(ts.take j).flatMap λx=>dN x.url.host)/\bo w.heap.size a3/\bW w W,
  ⟨_,0,rfl,rfl,Nat.zero_le _,by simpa using F,R,y⟩,λO a3 M H i=>aP.of ?_ _⟩
 rintro be ⟨j,rfl,rfl,I,F,R,y⟩;have bt:=cc j;refine ab.of (λh=>?_) (λh=>?_)<;>simp only[dTx,dFx]at h
 ·have D:j<ts.length:=by omega
  obtain⟨a0,E⟩:=pF (J.below y) D;have hp:=bq _ (getElem_mem D);have cf:=bp _ (getElem_mem D);have an:=sI (f:=λx:Tpl=>dN x.url.host) D;generalize ts[j]=t at*;have c8:t.url.ok:=E;refine⟨⟨⟨by omega,h⟩,(J.below y).isSome D⟩,_,a0,dw.new (zs:=Tpl.cells ⟨[],nh,[],0⟩) (cs:=t.cells) rfl (Tpl.len E) (Tpl.one _) be λdl dc dj b0 ad=>?_⟩;have Y:=ae y ad y.size;refine⟨rfl,rfl,_,bn.load b0 (i:=2) (us:=t.url.host.cells) (Hst.len E) (λj I=>by
   rw[show 2+j=1+(1+j) by omega,CL E (by omega)];exact Hl c8 I),aK (L5 (h:=t.url.host) E (Nat.le_trans hp (by decide)) dc (bs.step Y)) ?_⟩
  rintro _ dn ⟨b1,c3,b5,rfl,a9,G⟩;have U:=ae Y G Y.size;obtain⟨bb,Z,n',c',a8,o2,af,aa⟩:=SA (ty:=aA) (eX _) bh dG (by decide) (F.below (ae ad G ad.size)) R U a9 (by rw[length_append];omega);exact⟨_,_,_,rfl,bb,Z,n',c',a8,ts.length-(j+1),by omega,j+1,by rw[wrJ];omega,rfl,by omega,by rw[an,<- append_assoc];exact o2,af,aa⟩
 obtain rfl:j=ts.length:=by omega
 rw[take_length]at F bt;refine aK (EE _ _ _ _ (by rw[length_append];omega) be F.all) ?_;rintro _ dr ⟨p,rfl,ch,b3⟩;obtain⟨b4,b2,c4,b6,c2,cs,fr,b7,b8,e3,b9,e5,cb,dd,e8⟩:=ch;have cv:=y.size;exact⟨_,rfl,p,rfl,⟨b4,b2,c4,b6,c2,cs,fr,b7,b8,e3,b9.mono λ_ _ h=>Nat.le_trans cv h,e5,cb,by omega,by omega⟩,ae y b3 y.size⟩
def Q2 (W:World)(kt:Nat)(rs:List Rul):Prop:=∃(w0:World) (km:Nat) (a:Option Addr) (n c:Nat) (ps:List Pth) (kvs:List (xB×Int)) (es:List (List Bool)),Env w0/\xD w0 cx cy kt km a n c ps kvs es (rs.filter Qg) W
theorem Q2.below {W y:World}{D:Nat}{rs:List Rul}(h:Q2 W D rs)(F:bW W y):Q2 y D rs:=by
 obtain⟨w0,H,a,n,c,ps,I,E,G,h⟩:=h;exact⟨w0,H,a,n,c,ps,I,E,G,h.below F⟩
def Fq (W:World)(k:Nat)(p:Pln):Prop:=∃(a:Option Addr) (n c:Nat) (b:Option Addr) (m e:Nat) (d:Option Addr) (q f:Nat) (kt:Nat) (pa:Option Addr),aB W k eO [.slice a n c,.slice b m e,.slice d q f,.pointer (some ⟨kt,0,none⟩),.pointer pa]/\
 Sl lS W qw a n c p.ps/\Sl kl W qw b m e p.ts/\Sl vq W qw d q f p.cs/\Q2 W kt p.rs/\qD W pa (va p.labs)
theorem Fq.below {W D:World}{p:Pln}(h:Fq W k p)(y:bW W D):Fq D k p:=by
 obtain⟨a,n,c,b,m,e,d,q,f,J,M,h1,E,F,G,H,I⟩:=h;exact⟨a,n,c,b,m,e,d,q,f,J,M,h1.below y,E.below y,F.below y,G.below y,H.below y,I.below y⟩
def Fe (W:World)(n:Nat):World:= { W with heap:=W.heap.extract 0 n }
theorem vb {W:World}(h:n <=W.heap.size):(Fe W n).heap.size=n:=by simp[Fe];omega
theorem yP {W:World}(h:n <=W.heap.size):Below (Fe W n).heap.size (Fe W n) W:=by
 refine⟨rfl,rfl,rfl,by rw[vb h];exact h,λb y=>?_⟩;rw[vb h]at y;have h1:b<W.heap.size:=by omega
 simp only[Fe];rw[Array.getElem?_extract];simp;omega
theorem Q2.turned {w w0 W D:World}(ac:Env w)(G:bW w D)(ag:w.heap.size <=w0.heap.size){S:List Nat}(F:Chg S W D)(Y:∀s∈S,s<w0.heap.size){J H:Nat}{a:Option Addr}{n c:Nat}{ps:List Pth}{U:List (xB×Int)}{O:List (List Bool)}{rs:List Rul}
 (h:xD w0 cx cy J H a n c ps U O (rs.filter Qg) W):Q2 D J rs:=by
 have an:=h.hb.size;have h1:=F.size;have I:w0.heap.size <=D.heap.size:=by omega
 have M:∀g,w0.heap.size <=g->g∉S:=λg y af=>by have:=Y g af;omega
 have E:=vb I;refine⟨Fe D w0.heap.size,H,a,n,c,ps,U,O,ac.step ?_,?_⟩
 ·have Z:=yP I;refine⟨(G.os).trans rfl |>.trans rfl,G.tape,G.output,by rw[E];exact ag,λb aa=>?_⟩;rw[<- G.block b aa];exact(Z.block b (by rw[E];omega)).symm
 ·obtain⟨aj,V,R,ad⟩:=h.h2;refine⟨F.arr h.h1 (M J h.kt0),⟨aj,V,(F.block H (Array.getElem?_eq_some_iff.1 R).1 (M H h.km0)).trans R,ad⟩,h.h3.keep (F.keep.mono λg y=>?_),h.T,h.t,yP I,h.ne,λg y=>?_,by rw[E];exact h.kt0,by rw[E];exact h.km0⟩
  ·rcases y with y|y
   ·exact y.elim
   ·exact M g (h.og g y.symm).2.2
  ·rw[E];exact h.og g y
theorem KT.turned {B:Nat}{W E:World}{ts:List Txt}(h:KT B W p ts){S:List Nat}(y:Chg S W E)(U:∀s∈S,s<B):qD E p ts:=by
 obtain⟨b,a,n,c,m,cs,fr,J,F,e3,M,⟨Z,I,H,V⟩,O,R,e8⟩:=h;have D:∀g,B <=g->g∉S:=λg G Y=>by have:=U g Y;omega
 exact⟨b,a,n,c,m,cs,fr,J,(y.block b (Array.getElem?_eq_some_iff.1 F).1 (D b R)).trans F,e3,(M.keep (y.keep.mono λg G=>D g G)).mono λ_ _ _=>trivial,⟨Z,I,(y.block m (Array.getElem?_eq_some_iff.1 H).1 (D m e8)).trans H,V⟩,O⟩
theorem GX (a b c:lU){w K}(h:nA w (.cells #[vI 0,vI 0,vI 0,vI 0] aF) λd e=>nA e (.cells #[.slice none 0 0,.slice none 0 0,.slice none 0 0,.pointer none,.pointer none] eO) λf g=>nA g (.cells #[vI 0,vI 0,vI 0] ax) λi j=>Cf me #[vS a] j λk l=>∃m n o p q r,k=rT #[.slice m n o,.agg #[vI p,vI q,vI r]]/\true/\true/\∃s,Sv aN (vA f 0) (.slice m n o) l s/\∃t,Sv ax (vA i 0) (.agg #[vI p,vI q,vI r]) s t/\true/\∃u,Ld i6 (vA i 0) t (vI u)/\ab (u !=0) (∃v x y,Ld ax (vA i 0) t (.agg #[vI v,vI x,vI y])/\Cf eG #[vI 1,.agg #[vI v,vI x,vI y]] t λz A=>∃B C D E F,z=rT #[.pointer B,.agg #[vI C,vI D,vI E,vI F]]/\∃G,Sv aF (vA d 0) (.agg #[vI C,vI D,vI E,vI F]) A G/\∃H I J L,Rv aF (vA d 0) G (.agg #[vI H,vI I,vI J,vI L])/\K (.tuple #[.pointer B,.agg #[vI H,vI I,vI J,vI L]]) G) (Cf uz #[vS b] t λv x=>∃y z A B C D,v=rT #[.slice y z A,.agg #[vI B,vI C,vI D]]/\∃E,Sv ax (vA i 0) (.agg #[vI B,vI C,vI D]) x E/\true/\∃F,Ld i6 (vA i 0) E (vI F)/\ab (F !=0) (∃G H I,Ld ax (vA i 0) E (.agg #[vI G,vI H,vI I])/\Cf eG #[vI 2,.agg #[vI G,vI H,vI I]] E λJ L=>∃M N O P Q,J=rT #[.pointer M,.agg #[vI N,vI O,vI P,vI Q]]/\∃R,Sv aF (vA d 0) (.agg #[vI N,vI O,vI P,vI Q]) L R/\∃S T U V,Rv aF (vA d 0) R (.agg #[vI S,vI T,vI U,vI V])/\K (.tuple #[.pointer M,.agg #[vI S,vI T,vI U,vI V]]) R) (Cf lZ #[vS c] E λG H=>∃I J L M N O P Q R,G=rT #[.slice I J L,.slice M N O,.agg #[vI P,vI Q,vI R]]/\true/\true/\∃S,Sv aE (vA f 1) (.slice I J L) H S/\true/\true/\∃T,Sv aJ (vA f 2) (.slice M N O) S T/\∃U,Sv ax (vA i 0) (.agg #[vI P,vI Q,vI R]) T U/\true/\∃V,Ld i6 (vA i 0) U (vI V)/\ab (V !=0) (∃X Y Z,Ld ax (vA i 0) U (.agg #[vI X,vI Y,vI Z])/\Cf eG #[vI 3,.agg #[vI X,vI Y,vI Z]] U λaa ac=>∃ad af ag aj al,aa=rT #[.pointer ad,.agg #[vI af,vI ag,vI aj,vI al]]/\∃an,Sv aF (vA d 0) (.agg #[vI af,vI ag,vI aj,vI al]) ac an/\∃ao av bb bd,Rv aF (vA d 0) an (.agg #[vI ao,vI av,vI bb,vI bd])/\K (.tuple #[.pointer ad,.agg #[vI ao,vI av,vI bb,vI bd]]) an) (true/\true/\∃X Y Z,Ld aE (vA f 1) U (.slice X Y Z)/\∃aa:Nat->FP [shI],(∃ac,aa ac (0:Int) U)/\∀ac ad,aP 16 (∀af,aa ac ad af->ab (decide (ad<(Y:Int))) ((bx ad (Y:Int)/\Option.isSome X=true)/\∃ag,Ld ah (aw X ad 24) af ag/\nA af (.cells dZ ah) λaj al=>∃an,Sv ah (vA aj 0) ag al an/\∃ao,Ld ah (vA aj 0) an ao/\uB iD #[.pointer (vA f 0),ao] an λav bb=>ab (!av) (true/\∃bd,Ld co (vA aj 23) bb (vI bd)/\Cf eG #[vI 3,.agg #[vI 231,vI bd,vI 1]] bb λbe bk=>∃bl bp bq bs bt,be=rT #[.pointer bl,.agg #[vI bp,vI bq,vI bs,vI bt]]/\∃bw,Sv aF (vA d 0) (.agg #[vI bp,vI bq,vI bs,vI bt]) bk bw/\∃cb cc cf ch,Rv aF (vA d 0) bw (.agg #[vI cb,vI cc,vI cf,vI ch])/\K (.tuple #[.pointer bl,.agg #[vI cb,vI cc,vI cf,vI ch]]) bw) (∃bd:Nat,bd<ac/\aa bd (i64.wrap (ad+1)) bb)) (uP rm #[.slice y z A] af λag aj=>uP i7 #[.pointer (vA f 0)] aj λal an=>true/\true/\∃ao,Sv pS (vA f 3) (.pointer ag) an ao/\true/\true/\∃av,Sv eM (vA f 4) (.pointer al) ao av/\true/\true/\∃bb,Ld eM (vA f 4) av (.pointer bb)/\uI aV #[.pointer bb] av λbd be=>ab (decide (bd>(512:Int))) (Cf eG #[vI 1,.agg #[vI 53,vI 1,vI 1]] be λbk bl=>∃bp bq bs bt bw,bk=rT #[.pointer bp,.agg #[vI bq,vI bs,vI bt,vI bw]]/\∃cb,Sv aF (vA d 0) (.agg #[vI bq,vI bs,vI bt,vI bw]) bl cb/\∃cc cf ch cl,Rv aF (vA d 0) cb (.agg #[vI cc,vI cf,vI ch,vI cl])/\K (.tuple #[.pointer bp,.agg #[vI cc,vI cf,vI ch,vI cl]]) cb) (∃bk,Sv aF (vA d 0) (.agg #[vI 0,vI 0,vI 0,vI 0]) be bk/\∃bl bp bq bs,Rv aF (vA d 0) bk (.agg #[vI bl,vI bp,vI bq,vI bs])/\K (.tuple #[.pointer (vA f 0),.agg #[vI bl,vI bp,vI bq,vI bs]]) bk))))))):Cf ux #[vS a,vS b,vS c] w (Ret K):=ru func8 [(40,[(66,shI)])] h
end Go.Pk
