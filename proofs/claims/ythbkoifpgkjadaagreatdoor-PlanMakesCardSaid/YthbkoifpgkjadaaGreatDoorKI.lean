/- What the laws lean on: TplC, TplQ, TplD, UrlY, UrlC, V54, TplE, TplF, WD, V55, V56, TplG, RulF, PlnP, PlnQ; what is used. Its conditions: none. -/
import Derived.Test.YthbkoifpgkjadaaGreatDoorKH
import Derived.Defers
import Derived.Recover
set_option linter.unusedVariables false
set_option linter.unusedSimpArgs false
set_option linter.unusedSectionVars false
set_option maxRecDepth 100000
open List (drop_eq_getElem_cons drop_eq_nil_of_le getElem_mem length length_append length_cons length_singleton map_toArray mem_cons_of_mem mem_cons_self mem_singleton size_toArray take_length)
open Go.World (drew)
variable {n i k:Nat}{s:List UInt8}{A B:Go.Pk.Bl}{P:Go.Program}{I:Go.Func}
open Go.IntKind (i64)
open Go.Proofs.Tryz
open List (length)
open Option (isSome)
namespace Go.Pk
open Go.RowKit (Below)
open Go.Proofs
def LW (L:List lU):Prop:=L.length <=100000/\∀x∈L,x.length <=100000
theorem J1 {L:List lU}(h:LW L):∀t,t <=L.length->qL L t <=1+t*100001
 |0,_=>Nat.le_refl _
 |t+1,y=>by
  rw[qM (by omega)];have:=J1 h t (by omega);have:=h.2 _ (getElem_mem (show t<L.length by omega));omega
def nmF (s:lU)(taken:Bool):Int:=if nmB s=false then 221 else if taken=true then 52 else 0
structure Rdr where
 a:Option Addr
 n:Nat
 c:Nat
 b:Option Addr
 m:Nat
 e:Nat
 ln:Int
 d:Option Addr
 p:Nat
 q:Nat
def Rdr.cells (r:Rdr):List Value:=[.slice r.a r.n r.c,.slice r.b r.m r.e,vI r.ln,.slice r.d r.p r.q]
def ptD (t:TypeId)(S:List Nat)(a:Option Addr)(n c:Nat)(cs:List Cho):Pt where
 fp:=(fm a).toList++S
 P:=λw=>Ow vq t w (λb=>b∈S) a n c cs/\(∀b∈S,b<w.heap.size)/\∀g,fm a=some g->g∉S
 st:=fun{w w'} h hk=>⟨h.1.keep (hk.mono λb hb=>by
  rcases hb with hb|hb
  ·exact List.mem_append.2 (.inr hb)
  ·exact List.mem_append.2 (.inl (bV.2 hb.symm))),λb hb=>Nat.lt_of_lt_of_le (h.2.1 b hb) hk.size,h.2.2⟩
 lt:=fun{w} h b hb=>by
  rcases List.mem_append.1 hb with hb|hb
  ·exact h.1.lt b (bV.1 hb)
  ·exact h.2.1 b hb
theorem dw:Whl prog ah 24:=⟨⟨_,_,jy⟩,by kernel_rfl⟩
def Q8 (x:Flt):List PanicEntry:=[{ v:=.iface ax (vE x),recovered:=false }]
theorem jg {w:World}{vs:List Value}{ln:Int}{d:Option Addr}{p q:Nat}{L:List lU}(F:aB w k aR vs)(H:vs[2]? =some (vI ln))(I:vs[3]? =some (.slice d p q))(y:Sl tS w A d p q L)(E:LW L)(code:Int)(i:Nat)(O:i <=L.length):
 Cf aO #[.pointer (some ⟨k,0,none⟩),vI code,vI (i:Int)] w (JN (λ_ _=>False) λG w'=>G=Q8 (code,ln,(qL L i:Nat))/\w'=w):=by
 apply nY;unfold gD;have hp:=y.len;have R:p <=q:=y.2.1;have J:=E.1;refine⟨rfl,rfl,d,p,q,by rw[fc];exact F.load1 bh rfl I,⟨by omega,by omega⟩,?_⟩;rw[Int.toNat_natCast];refine⟨λm n j w'=>w'=w/\∃t:Nat,j=(t:Int)/\m=i-t/\t <=i/\n=(qL L t:Nat),⟨_,rfl,0,rfl,rfl,Nat.zero_le _,rfl⟩,λm n j=>aP.of ?_ _⟩;rintro Y ⟨rfl,t,rfl,rfl,U,rfl⟩;refine ab.of (λh=>?_) (λh=>?_)<;>simp only[dTx,dFx]at h
 ·have D:t<L.length:=by omega
  have M:=J1 E t (by omega);have V:=E.2 _ (getElem_mem D);refine⟨⟨⟨by omega,h⟩,y.isSome D⟩,L[t],y.text aI D,i-(t+1),by omega,rfl,t+1,by rw[wrJ];omega,rfl,by omega,?_⟩;rw[qM D,wrJ (n:=((length L[t]:Nat):Int)+1),wrJ];omega
 ·obtain rfl:t=i:=by omega
  exact⟨rfl,rfl,ln,by rw[fc];exact F.load1 eI rfl H,rfl,rfl⟩
theorem E8 {w:World}{vs:List Value}{ln:Int}{d:Option Addr}{p q:Nat}{L:List lU}(H:aB w k aR vs)(J:vs[2]? =some (vI ln))(G:vs[3]? =some (.slice d p q))(D:Sl tS w A d p q L)(I:LW L)(i:Nat)(E:i<L.length):
 Cf eW #[.pointer (some ⟨k,0,none⟩),vI (i:Int)] w (JN (λv w'=>(∃s,unP L[i]=some s/\v=vS s)/\bW w w') λF w'=>unP L[i]=none/\F=Q8 (131,ln,(qL L i:Nat))/\bW w w'):=by
 apply oa;unfold gF;have hp:=D.len;refine⟨rfl,rfl,d,p,q,by rw[fc];exact H.load1 bh rfl G,⟨⟨by omega,by omega⟩,D.isSome E⟩,L[i],D.text aI E,aK (BF L[i] (by have:=I.2 _ (getElem_mem E);omega) w) ?_⟩;rintro _ R ⟨rfl,y⟩;unfold unT;cases O:unP L[i]with
 |none=>
  refine⟨_,_,rfl,ab.yes rfl ((jg (H.below y) J G (D.below y) I 131 i (by omega)).mono ?_)⟩;rintro _ _ (⟨v,rfl,M⟩|⟨F,rfl,rfl,rfl⟩)
  ·exact M.elim
  ·exact .inr ⟨_,rfl,rfl,rfl,y⟩
 |some s=>exact⟨_,_,rfl,ab.no rfl ⟨⟨s,rfl,rfl⟩,y⟩⟩
theorem AH (c:Cho)(a:Option Addr)(l e:Nat){w:World}(G:aB w k ai [vS s]):
 Cf aW #[.agg #[vS c.name,.slice a l e],.pointer (some ⟨k,0,none⟩)] w (Ret λv w'=>v=.bool (c.name==s)/\bW w w'):=by
 apply jF;intro I E H D;have y:=(D▸ar w _:bW w E)
 have F:aB E I au [vS c.name,.slice a l e]:=aB.new H D;exact⟨rfl,_,F.load1 aI rfl rfl,_,(G.below y).load1 aI rfl rfl,rfl,y⟩
theorem ME {w:World}{a:Option Addr}{n c:Nat}{xs:List Cho}(D:Sl vq w A a n c xs)(R:aB w k ai [vS s]):
 Cf cq #[.slice a n c,.func (.func aW) #[] #[.pointer (some ⟨k,0,none⟩)]] w (Ret λv w'=>v=.bool (xs.any λc=>c.name==s)/\bW w w'):=by
 apply cQ;have F:=D.len;have U:=D.le;subst F;refine aK (K:=λv w'=>v=vI (MG (λc=>c.name==s) xs)/\bW w w') ?_ ?_
 ·apply cZ;refine⟨qF (λc=>c.name==s) xs w,qF.start _ _ _,λm i=>aP.of ?_ _⟩;intro aa M;rcases M.go U with⟨j,H,rfl,B,E,O,Y,F⟩|⟨E,y,B⟩
  ·obtain⟨b,l,e,V,_⟩:=Ge (D.below B) H;refine ab.yes E ⟨⟨O,D.isSome H⟩,_,_,_,_,V,aK (AH xs[j] b l e (R.below B)) ?_⟩;rintro _ w' ⟨rfl,I⟩;have G:=ae B I B.size;exact⟨_,rfl,ab.of (λy=>⟨by rw[Y y],G⟩) (λy=>F y _ G)⟩
  ·exact ab.no E ⟨by rw[y],B⟩
 ·rintro _ Z ⟨rfl,J⟩;exact⟨_,rfl,by rw[Bm],J⟩
theorem AP (t:Tpl){w:World}(G:aB w k ai [vS s]):
 Cf aX #[t.v,.pointer (some ⟨k,0,none⟩)] w (Ret λv w'=>v=.bool (t.name==s)/\bW w w'):=by
 apply jG;intro I E H D;have y:=(D▸ar w _:bW w E)
 have F:aB E I ah t.cells:=aB.new H D;exact⟨rfl,_,F.load1 aI rfl rfl,_,(G.below y).load1 aI rfl rfl,rfl,y⟩
theorem pF {w:World}{a:Option Addr}{l c:Nat}{xs:List Tpl}(h:Sl kl w A a l c xs)(y:i<xs.length):
 (Instr.loadAt ah (.pointer (aw a (i:Int) 24))).run prog w=.ok xs[i].v w/\xs[i].ok:=by
 obtain⟨vs,h1,rfl,D⟩:=dw.elem (T:=kl) rfl h y;exact⟨h1,D⟩
theorem MF {w:World}{a:Option Addr}{n c:Nat}{xs:List Tpl}(D:Sl kl w A a n c xs)(R:aB w k ai [vS s]):
 Cf bU #[.slice a n c,.func (.func aX) #[] #[.pointer (some ⟨k,0,none⟩)]] w (Ret λv w'=>v=.bool (xs.any λc=>c.name==s)/\bW w w'):=by
 apply cH;have F:=D.len;have U:=D.le;subst F;refine aK (K:=λv w'=>v=vI (MG (λc=>c.name==s) xs)/\bW w w') ?_ ?_
 ·apply cN;refine⟨qF (λc=>c.name==s) xs w,qF.start _ _ _,λm i=>aP.of ?_ _⟩;intro Z M;rcases M.go U with⟨j,H,rfl,B,E,O,V,F⟩|⟨E,y,B⟩
  ·refine ab.yes E ⟨⟨O,D.isSome H⟩,_,(pF (D.below B) H).1,aK (AP xs[j] (R.below B)) ?_⟩;rintro _ w' ⟨rfl,I⟩;have G:=ae B I B.size;exact⟨_,rfl,ab.of (λy=>⟨by rw[V y],G⟩) (λy=>F y _ G)⟩
  ·exact ab.no E ⟨by rw[y],B⟩
 ·rintro _ Y ⟨rfl,J⟩;exact⟨_,rfl,by rw[Bm],J⟩
theorem H1 {w:World}{vs:List Value}{b:Option Addr}{m e:Nat}{cs:List Cho}(J:aB w n ay [.pointer (some ⟨k,0,none⟩)])(H:aB w k aR vs)(h1:vs[1]? =some (.slice b m e))(I:Sl vq w A b m e cs)(s:lU):
 Cf bM #[vS s,.pointer (some ⟨n,0,none⟩)] w (Ret λv w'=>v=.bool (cs.any λc=>c.name==s)/\bW w w'):=by
 apply kR;intro O E M D;have y:=(D▸ar w _:bW w E)
 have F:aB E O ai [vS s]:=aB.new M D;refine⟨_,(J.below y).load1 bf rfl rfl,rfl,rfl,b,m,e,by rw[fc];exact(H.below y).load1 cP rfl h1,aK (ME (I.below y) F) ?_⟩;rintro _ R ⟨rfl,G⟩;exact⟨_,rfl,rfl,ae y G y.size⟩
theorem H9 {w:World}{k E:Nat}{vs:List Value}{a:Option Addr}{n c:Nat}{ts:List Tpl}(M:aB w E ay [.pointer (some ⟨k,0,none⟩)])(I:aB w k aR vs)(h1:vs[0]? =some (.slice a n c))(J:Sl kl w A a n c ts)(s:lU):
 Cf bm #[vS s,.pointer (some ⟨E,0,none⟩)] w (Ret λv w'=>v=.bool (ts.any λc=>c.name==s)/\bW w w'):=by
 apply kT;intro R F O D;have y:=(D▸ar w _:bW w F)
 have G:aB F R ai [vS s]:=aB.new O D;refine⟨_,(M.below y).load1 bf rfl rfl,rfl,rfl,a,n,c,by rw[fc];exact(I.below y).load1 bJ rfl h1,aK (MF (J.below y) G) ?_⟩;rintro _ U ⟨rfl,H⟩;exact⟨_,rfl,rfl,ae y H y.size⟩
def Yr (L:List lU)(ln:Int)(taken:Bool)(w:World):Ending->World->Prop:=JN (λv w'=>nmF (L.getD 1 []) taken=0/\v=vS (L.getD 1 [])/\bW w w') λch w'=>nmF (L.getD 1 []) taken≠0/\ch=Q8 (nmF (L.getD 1 []) taken,ln,(qL L 1:Nat))/\bW w w'
theorem zZb {w:World}{vs:List Value}{ln:Int}{b d:Option Addr}{m e p q:Nat}{cs:List Cho}{L:List lU}(ad:aB w n ay [.pointer (some ⟨k,0,none⟩)])(F:aB w k aR vs)(h1:vs[1]? =some (.slice b m e))(R:vs[2]? =some (vI ln))(I:vs[3]? =some (.slice d p q))
 (ac:Sl vq w B b m e cs) (E:Sl tS w A d p q L) (U:LW L) (G:1<L.length):
 Cf bS #[.pointer (some ⟨k,0,none⟩),.func (.func bM) #[] #[.pointer (some ⟨n,0,none⟩)]] w (Yr L ln (cs.any λc=>c.name==L.getD 1 []) w):=by
 apply eU;unfold bN;have hp:=E.len;have V:∀{W:World},bW w W->(Instr.loadAt aA (.pointer (Option.map (λx=>x.add 3) (some (⟨k,0,none⟩:Addr))))).run prog W=.ok (.slice d p q) W:=λM=>by rw[fc];exact(F.below M).load1 bh rfl I
 have tx:∀{W:World},bW w W->(Instr.loadAt ai (.pointer (aw d ((1:Nat):Int) 1))).run prog W=.ok (.string (mkS L[1])) W:=λM=>(E.below M).text aI G;have aa:L.getD 1 []=L[1]:=by simp[List.getD,List.getElem?_eq_getElem G]
 rw[aa];refine⟨λW=>bW w W/\nmF L[1] (cs.any λc=>c.name==L[1])=0,⟨rfl,rfl,d,p,q,V (Below.refl _ _),⟨⟨by decide,by omega⟩,E.isSome G⟩,L[1],tx (Below.refl _ _),aK (Kk L[1] w) ?_⟩,aP.of ?_ _⟩
 ·rintro _ af ⟨rfl,y⟩;refine⟨_,rfl,ab.of (λh=>?_) (λh=>?_)⟩
  ·have h:nmB L[1]=false:=by simpa using h
   refine(jg (F.below y) R I (E.below y) U 221 1 (by omega)).mono ?_;rintro _ _ (⟨v,rfl,O⟩|⟨Y,rfl,rfl,rfl⟩)
   ·exact O.elim
   ·have e:nmF L[1] (cs.any λc=>c.name==L[1])=221:=by unfold nmF;rw[if_pos h]
    exact .inr ⟨_,rfl,by rw[e];decide,by rw[e],y⟩
  have h:nmB L[1]=true:=by simpa using h
  refine aK (H1 (ad.below y) (F.below y) h1 (ac.below y) L[1]) ?_;rintro _ ag ⟨rfl,D⟩;have D:=ae y D y.size;refine⟨_,rfl,ab.of (λJ=>?_) (λJ=>⟨D,?_⟩)⟩
  ·refine(jg (F.below D) R I (E.below D) U 52 1 (by omega)).mono ?_;rintro _ _ (⟨v,rfl,O⟩|⟨Y,rfl,rfl,rfl⟩)
   ·exact O.elim
   ·have e:nmF L[1] (cs.any λc=>c.name==L[1])=52:=by unfold nmF;rw[h,J];rfl
    exact .inr ⟨_,rfl,by rw[e];decide,by rw[e],D⟩
  ·unfold nmF;rw[h,J];rfl
 ·rintro W ⟨H,Z⟩;exact⟨rfl,rfl,d,p,q,V H,⟨⟨by decide,by omega⟩,E.isSome G⟩,L[1],tx H,Z,rfl,H⟩
theorem IU {w:World}{k V:Nat}{vs:List Value}{ln:Int}{a d:Option Addr}{n c p q:Nat}{ts:List Tpl}{L:List lU}(af:aB w V ay [.pointer (some ⟨k,0,none⟩)])(F:aB w k aR vs)(h1:vs[0]? =some (.slice a n c))(R:vs[2]? =some (vI ln))(I:vs[3]? =some (.slice d p q))
 (ad:Sl kl w B a n c ts) (E:Sl tS w A d p q L) (U:LW L) (G:1<L.length):
 Cf bS #[.pointer (some ⟨k,0,none⟩),.func (.func bm) #[] #[.pointer (some ⟨V,0,none⟩)]] w (Yr L ln (ts.any λc=>c.name==L.getD 1 []) w):=by
 apply eV;unfold bP;have hp:=E.len;have Y:∀{W:World},bW w W->(Instr.loadAt aA (.pointer (Option.map (λx=>x.add 3) (some (⟨k,0,none⟩:Addr))))).run prog W=.ok (.slice d p q) W:=λM=>by rw[fc];exact(F.below M).load1 bh rfl I
 have tx:∀{W:World},bW w W->(Instr.loadAt ai (.pointer (aw d ((1:Nat):Int) 1))).run prog W=.ok (.string (mkS L[1])) W:=λM=>(E.below M).text aI G;have ac:L.getD 1 []=L[1]:=by simp[List.getD,List.getElem?_eq_getElem G]
 rw[ac];refine⟨λW=>bW w W/\nmF L[1] (ts.any λc=>c.name==L[1])=0,⟨rfl,rfl,d,p,q,Y (Below.refl _ _),⟨⟨by decide,by omega⟩,E.isSome G⟩,L[1],tx (Below.refl _ _),aK (Kk L[1] w) ?_⟩,aP.of ?_ _⟩
 ·rintro _ ag ⟨rfl,y⟩;refine⟨_,rfl,ab.of (λh=>?_) (λh=>?_)⟩
  ·have h:nmB L[1]=false:=by simpa using h
   refine(jg (F.below y) R I (E.below y) U 221 1 (by omega)).mono ?_;rintro _ _ (⟨v,rfl,O⟩|⟨Z,rfl,rfl,rfl⟩)
   ·exact O.elim
   ·have e:nmF L[1] (ts.any λc=>c.name==L[1])=221:=by unfold nmF;rw[if_pos h]
    exact .inr ⟨_,rfl,by rw[e];decide,by rw[e],y⟩
  have h:nmB L[1]=true:=by simpa using h
  refine aK (H9 (af.below y) (F.below y) h1 (ad.below y) L[1]) ?_;rintro _ aj ⟨rfl,D⟩;have D:=ae y D y.size;refine⟨_,rfl,ab.of (λJ=>?_) (λJ=>⟨D,?_⟩)⟩
  ·refine(jg (F.below D) R I (E.below D) U 52 1 (by omega)).mono ?_;rintro _ _ (⟨v,rfl,O⟩|⟨Z,rfl,rfl,rfl⟩)
   ·exact O.elim
   ·have e:nmF L[1] (ts.any λc=>c.name==L[1])=52:=by unfold nmF;rw[h,J];rfl
    exact .inr ⟨_,rfl,by rw[e];decide,by rw[e],D⟩
  ·unfold nmF;rw[h,J];rfl
 ·rintro W ⟨H,aa⟩;exact⟨rfl,rfl,d,p,q,Y H,⟨⟨by decide,by omega⟩,E.isSome G⟩,L[1],tx H,aa,rfl,H⟩
theorem QI {x s:lU}(h:unP x=some s):s.length <=x.length:=by
 have h:=(CQ x s).1 h;subst h;unfold vn;split
 ·rename_i h;subst h;exact Nat.zero_le _
 ·exact(oB s).1
theorem VJ (p:UInt8->Bool)(s:lU):(s.takeWhile p).length <=s.length:=(List.takeWhile_sublist p).length_le
theorem E6 (l:List Cho):∀(k:Nat) (s:lU) (ps:List Prt),s.length <=k->xV l k s=some ps->ps.length <=2*s.length/\∀p∈ps,p.2<(l.length:Int)/\p.1.length <=s.length
 |0,s,ps,D,h=>by
  cases h;exact⟨Nat.zero_le _,λp hp=>by cases hp⟩
 |k+1,s,ps,D,h=>by
  unfold xV at h;split at h
  ·cases h;exact⟨Nat.zero_le _,λp hp=>by cases hp⟩
  rename_i F;have J:0<s.length:=List.length_pos_iff.2 F;split at h
  ·rename_i h1;have G:=fh 123 s;have H:=fh 125 (dF 123 s);unfold dF at G H;simp only at h;split at h
   ·rename_i M;rw[Option.map_eq_some_iff]at h;obtain⟨r,E,rfl⟩:=h;obtain⟨I,y⟩:=E6 l k _ r (by omega) E;refine⟨by simp only[length_cons];omega,λp hp=>?_⟩;rcases List.mem_cons.1 hp with rfl|hp
    ·exact⟨by show(-1:Int)<_;omega,VJ _ _⟩
    rcases List.mem_cons.1 hp with rfl|hp
    ·exact⟨Ke _ _,Nat.zero_le _⟩
    ·obtain⟨a,b⟩:=y p hp;exact⟨a,by omega⟩
   ·cases h
  ·cases h;refine⟨by simp only[length_singleton];omega,λp hp=>?_⟩;rw[mem_singleton]at hp;subst hp;exact⟨by show(-1:Int)<_;omega,Nat.le_refl _⟩
theorem M3 {l:List Cho}{ps:List Prt}(h:Db l s=some ps):ps.length <=2*s.length/\∀p∈ps,p.2<(l.length:Int)/\p.1.length <=s.length:=E6 l _ s ps (Nat.le_refl _) h
def Mi (cs:List Cho):Prop:=cs.length <=6/\∀c∈cs,c.vals.length <=6/\∀v∈c.vals,v.length <=100000
theorem Mi.nil:Mi []:=⟨by decide,λc h=>by cases h⟩
theorem Mi.w {cs:List Cho}(h:Mi cs):X2 cs:=⟨Nat.le_trans h.1 (by decide),λc y=>⟨Nat.le_trans (h.2 c y).1 (by decide),λv D=>Nat.le_trans ((h.2 c y).2 v D) (by decide)⟩⟩
theorem Lb:∀(i:Nat) (L vs D:List lU),(∀x∈L,x.length <=100000)->vs.length <=6->(∀v∈vs,v.length <=100000)->zl i L vs=.inl D->D.length <=6/\∀v∈D,v.length <=100000
 |i,[],vs,D,F,h1,E,e=>by cases e;exact⟨h1,E⟩
 |i,x::r,vs,D,F,h1,E,e=>by
  unfold zl at e;split at e
  ·cases e
  rename_i s G;split at e
  ·cases e
  split at e
  ·cases e
  rename_i J;refine Lb (i+1) r (vs++[s]) D (λI H=>F I (mem_cons_of_mem _ H)) (by rw[length_append,length_singleton];omega) (λv y=>?_) e;rcases List.mem_append.1 y with y|y
  ·exact E v y
  ·rw[mem_singleton]at y;subst y;exact Nat.le_trans (QI G) (F x mem_cons_self)
theorem Le {L:List lU}{cs:List Cho}{c:Cho}(E:LW L)(h:Mi cs)(e:xH L cs=.inl c):Mi (cs++[c]):=by
 unfold xH at e;split at e
 ·cases e
 split at e
 ·cases e
 split at e
 ·cases e
 rename_i vs D;split at e
 ·cases e
 rename_i G;cases e;have:=Lb 2 _ [] vs (λx F=>E.2 x (List.mem_of_mem_drop F)) (by decide) (λv D=>by cases D) D;have H:=h.1;refine⟨by rw[length_append,length_singleton];omega,λd y=>?_⟩;rcases List.mem_append.1 y with y|y
 ·exact h.2 d y
 ·rw[mem_singleton]at y;subst y;exact this
theorem Hi {L:List lU}{ln:Int}{ts:List Tpl}{cs:List Cho}{t:Tpl}(e:wF L ln ts cs=.inl t):ts.length≠8:=by
 unfold wF at e;intro y;split at e
 ·cases e
 split at e
 ·cases e
 split at e
 ·cases e
 split at e
 ·cases e
 split at e
 ·cases e
 split at e
 ·cases e
 split at e
 ·cases e
 cases e
theorem Uk {L:List lU}{cs:List Cho}{b:Bool}(D:(cs.any λc=>c.name==L.getD 1 [])=b)(h:nmF (L.getD 1 []) b≠0):xH L cs=.inr (nmF (L.getD 1 []) b,1):=by
 unfold nmF at*;unfold xH;split at h
 ·rename_i h1;rw[if_pos h1,if_pos h1]
 ·rename_i h1;split at h
  ·rename_i y;rw[if_neg h1,D,if_pos y,if_neg h1,if_pos y]
  ·exact absurd rfl h
theorem Ul {L:List lU}{cs:List Cho}{b:Bool}(D:(cs.any λc=>c.name==L.getD 1 [])=b)(h:nmF (L.getD 1 []) b=0):xH L cs=match zl 2 (L.drop 2) []with
 |.inr e=>.inr e
 |.inl vs=>if cs.length=6 then .inr (53,0)else .inl ⟨L.getD 1 [],vs⟩:=by
 unfold nmF at h;unfold xH;split at h
 ·cases h
 rename_i h1;split at h
 ·cases h
 rename_i y;rw[if_neg h1,D,if_neg y];rfl
theorem QH {L:List lU}{ln:Int}{ts:List Tpl}{cs:List Cho}{b:Bool}(D:(ts.any λc=>c.name==L.getD 1 [])=b)(h:nmF (L.getD 1 []) b≠0):wF L ln ts cs=.inr (nmF (L.getD 1 []) b,1):=by
 unfold nmF at*;unfold wF;split at h
 ·rename_i h1;rw[if_pos h1,if_pos h1]
 ·rename_i h1;split at h
  ·rename_i y;rw[if_neg h1,D,if_pos y,if_neg h1,if_pos y]
  ·exact absurd rfl h
theorem VM {L:List lU}{ln:Int}{ts:List Tpl}{cs:List Cho}{b:Bool}(D:(ts.any λc=>c.name==L.getD 1 [])=b)(h:nmF (L.getD 1 []) b=0):wF L ln ts cs=if(vi (L.getD 2 [])).2≠0 then .inr ((vi (L.getD 2 [])).2,2)
 else match unP (L.getD 3 [])with
  |none=>.inr (131,3)
  |some s=>match Db cs s with
   |none=>.inr (222,3)
   |some ps=>if 24<Ja cs (yx ps)then .inr (53,3)else if 2000<II cs ps then .inr (54,3)else if ts.length=8 then .inr (53,0)
    else .inl ⟨L.getD 1 [],(vi (L.getD 2 [])).1,s,ln⟩:=by
 unfold nmF at h;unfold wF;split at h
 ·cases h
 rename_i h1;split at h
 ·cases h
 rename_i y;rw[if_neg h1,D,if_neg y];rfl
theorem K9 {L:List lU}(y:i<L.length)(vs:List lU)(h:unP L[i]=none):zl i (L.drop i) vs=.inr (131,i):=by
 rw[drop_eq_getElem_cons y];unfold zl;rw[h]
theorem HZ {L:List lU}(y:i<L.length)(vs:List lU)(h:unP L[i]=some s):zl i (L.drop i) vs=if s∈vs then .inr (52,i)else if vs.length=6 then .inr (53,i)else zl (i+1) (L.drop (i+1)) (vs++[s]):=by
 rw[drop_eq_getElem_cons y]
 conv=>lhs;unfold zl
 rw[h]
theorem La {L:List lU}(y:L.length <=i)(vs:List lU):zl i (L.drop i) vs=.inl vs:=by
 rw[drop_eq_nil_of_le y];unfold zl;rfl
def RdP (k:Nat)(r:Rdr)(ts:List Tpl)(cs:List Cho)(L:List lU)(S:List Nat)(ex:List Pt):List Pt:=ptA k aR r.cells::ptO kl ah r.a r.n r.c ts::ptD au S r.b r.m r.e cs::ptO tS ai r.d r.p r.q L::ex
def ZR (w0:World)(k:Nat)(r:Rdr)(ts:List Tpl)(cs:List Cho)(L:List lU)(ex:List Pt):Ending->World->Prop:=JN (λv w'=>v=.tuple #[]/\∃(c:Cho) (r':Rdr) (S':List Nat),xH L cs=.inl c/\r'.ln=r.ln/\Sp w0 (RdP k r' ts (cs++[c]) L S' ex) w')
 λch w'=>∃(e:Int) (i:Nat),xH L cs=.inr (e,i)/\ch=Q8 (e,r.ln,(qL L i:Nat))/\bW w0 w'
theorem I5 {w0 w:World}{r:Rdr}{ts:List Tpl}{cs:List Cho}{L:List lU}{S:List Nat}{Y:List Pt}(h:Sp w0 (RdP k r ts cs L S Y) w)(be:LW L)(d4:2 <=L.length)(dn:Mi cs):
 Cf fK #[.pointer (some ⟨k,0,none⟩)] w (ZR w0 k r ts cs L Y):=by
 apply mO;unfold fv;intro I w1 d1 cp;have de:=(cp▸ar w _:bW w w1)
 have U:aB w1 I ay [.pointer (some ⟨k,0,none⟩)]:=aB.new d1 cp;have h1:Sp w0 (ptA I ay [.pointer (some ⟨k,0,none⟩)]::RdP k r ts cs L S Y) w1:=h.add de U λb y=>by rw[List.mem_singleton.1 y];omega
 have O:aB w1 k aR r.cells:=h1.at 1 rfl;have bt:Ow vq au w1 (λb=>b∈S) r.b r.m r.e cs:=(h1.at 3 rfl:(ptD au S r.b r.m r.e cs).P w1).1;have ac:Ow tS ai w1 NoB r.d r.p r.q L:=h1.at 4 rfl;have eu:=bt.len;have hp:=ac.len;refine⟨_,U.load1 bf rfl rfl,(zZb U O rfl rfl rfl bt.all ac.all be (by omega)).mono ?_⟩;rintro _ er (⟨_,rfl,a8,rfl,bu⟩|⟨cc,rfl,a8,rfl,bu⟩)
 rotate_left
 ·exact .inr ⟨_,rfl,_,1,Uk rfl a8,rfl,(h1.below bu).bw⟩
 have hV:=Ul rfl a8;clear U O bt ac a8;generalize L.getD 1 []=D at*;refine .inl ⟨_,rfl,iU.new (zs:=[vS [],.slice none 0 0]) (cs:=[vS D,.slice none 0 0]) rfl rfl (bz rfl (bz rfl ja)) er λZ w2 et ad df=>?_⟩;have dk:Sp w0 (ptA Z au [vS D,.slice none 0 0]::ptA I ay [.pointer (some ⟨k,0,none⟩)]::RdP k r ts cs L S Y) w2:=(h1.below bu).add df ad λb y=>by rw[List.mem_singleton.1 y];omega
 have dl:Sp w0 (ptO tS ai none 0 0 []::ptA Z au [vS D,.slice none 0 0]::ptA I ay [.pointer (some ⟨k,0,none⟩)]::RdP k r ts cs L S Y) w2:=dk.add (Below.refl _ _) (Ow.nil _ _ _ _) λb y=>by cases y
 refine⟨λm c2 W=>∃(i:Nat) (a:Option Addr) (l c:Nat) (vs:List lU),c2=(i:Int)/\m=L.length-i/\i <=L.length/\vs.length <=6/\zl 2 (L.drop 2) []=zl i (L.drop i) vs/\Sp w0 (ptO tS ai a l c vs::ptA Z au [vS D,.slice a l c]::ptA I ay [.pointer (some ⟨k,0,none⟩)]::RdP k r ts cs L S Y) W,
  ⟨_,2,_,_,_,[],rfl,rfl,d4,by decide,rfl,dl⟩,λm c2=>aP.of ?_ _⟩
 rintro W ⟨i,a,l,c,vs,rfl,rfl,cn,es,H,M⟩;have U:aB W I ay [.pointer (some ⟨k,0,none⟩)]:=M.at 2 rfl;have O:aB W k aR r.cells:=M.at 3 rfl;have ac:Ow tS ai W NoB r.d r.p r.q L:=M.at 6 rfl;have aa:∀{W':World},bW W W'->(Instr.loadAt ay (.pointer (some ⟨I,0,none⟩))).run prog W'=.ok (.pointer (some ⟨k,0,none⟩)) W':=λy=>(U.below y).load1 bf rfl rfl;have b0:∀{W':World} {e:Int} {j:Nat} {b9:World->Prop},bW W W'->j <=L.length->xH L cs=.inr (e,j)->Cf aO #[.pointer (some ⟨k,0,none⟩),vI e,vI (j:Int)] W' λch c9=>(ch=.returned (.tuple #[])/\b9 c9)\/∃cf,ch=.panicked cf/\(∃(e:Int) (i:Nat),xH L cs=.inr (e,i)/\cf=Q8 (e,r.ln,(qL L i:Nat))/\bW w0 c9):=fun{W' e j b9} y dv dm=>by
  refine(jg (O.below y) rfl rfl (ac.below y).all be e j dv).mono ?_;rintro _ _ (⟨v,rfl,ds⟩|⟨cc,rfl,rfl,rfl⟩)
  ·exact ds.elim
  ·exact .inr ⟨_,rfl,e,j,dm,rfl,(M.below y).bw⟩
 refine⟨_,aa (Below.refl _ _),rfl,rfl,r.d,r.p,r.q,by rw[fc];exact O.load1 bh rfl rfl,ab.of (λcl=>?_) (λcl=>?_)⟩<;>simp only[dTx,dFx]at cl
 ·have b1:i<L.length:=by omega
  refine⟨_,aa (Below.refl _ _),(E8 O rfl rfl ac.all be i b1).mono ?_⟩;rintro _ b7 (⟨_,rfl,⟨s,F,rfl⟩,R⟩|⟨cc,rfl,F,rfl,R⟩)
  rotate_left
  ·exact .inr ⟨_,rfl,131,i,by rw[hV,H,K9 b1 vs F],rfl,(M.below R).bw⟩
  have H:=H.trans (HZ b1 vs F);have b4:=M.below R;have ag:Ow tS ai b7 NoB a l c vs:=b4.at 0 rfl;have ad:aB b7 Z au [vS D,.slice a l c]:=b4.at 1 rfl;refine .inl ⟨s,rfl,λW'=>W'=b7/\s∉vs/\vs.length≠6,⟨rfl,a,l,c,ad.load1 bh rfl rfl,aK (AK ag.all s ag.le) ?_⟩,aP.of ?_ _⟩
  ·rintro _ _ ⟨rfl,rfl⟩;refine⟨_,rfl,ab.of (λa9=>⟨_,aa R,b0 R cn ?_⟩) (λa9=>⟨rfl,a,l,c,ad.load1 bh rfl rfl,ab.of (λE=>⟨_,aa R,b0 R cn ?_⟩) (λE=>⟨rfl,of_decide_eq_false a9,?_⟩)⟩)⟩
   ·rw[hV,H,if_pos (of_decide_eq_true a9)]
   ·have E:l=6:=Q4 (k:=6) E;rw[hV,H,if_neg (of_decide_eq_false a9),if_pos (by rw[<- ag.len];exact E)]
   ·have E:l≠6:=Nx (k:=6) E;rw[<- ag.len];exact E
  ·rintro _ ⟨rfl,d6,b3⟩;rw[if_neg d6,if_neg b3]at H;refine⟨rfl,a,l,c,ad.load1 bh rfl rfl,λev ex d2 eb=>?_⟩;obtain⟨_,eq,aj,bq,av,eo,ek,dg,ei⟩:=M5 (ty:=aA) (eX _) bh dG (by decide) ag d2 eb (x:=s) (vs:=[vS s]) (mu trivial) (cm:=1) (by omega);have d9:=b4.upd 0 rfl dg (p':=ptO tS ai aj bq av (vs++[s])) ek ei.fp;obtain⟨b8,b6,b5,_⟩:=d9.put ng 1 rfl (i:=1) (v:=.slice aj bq av) rfl rfl (by show 1<2;decide);refine⟨eq,aj,bq,av,eo,rfl,b8,b6,L.length-(i+1),by omega,i+1,aj,bq,av,vs++[s],?_,rfl,by omega,by rw[length_append,length_singleton];omega,H,b5⟩;have:=be.1;rw[wrJ];omega
 ·obtain rfl:i=L.length:=by omega
  rw[La (Nat.le_refl _)]at H;rw[H]at hV;have bt:Ow vq au W (λb=>b∈S) r.b r.m r.e cs:=(M.at 5 rfl:(ptD au S r.b r.m r.e cs).P W).1;refine⟨λW'=>W'=W/\cs.length≠6,⟨_,aa (Below.refl _ _),rfl,rfl,r.b,r.m,r.e,by rw[fc];exact O.load1 cP rfl rfl,ab.of (λE=>⟨_,aa (Below.refl _ _),b0 (Below.refl _ _) (Nat.zero_le _) ?_⟩) (λE=>⟨rfl,?_⟩)⟩,aP.of ?_ _⟩
  ·have E:r.m=6:=Q4 (k:=6) E;rw[hV];show ite _ _ _=_;rw[if_pos (by omega)]
  ·have E:r.m≠6:=Nx (k:=6) E;omega
  rintro cb ⟨rfl,b3⟩;have hV:xH L cs=.inl ⟨D,vs⟩:=by
   rw[hV];show ite _ _ _=_;rw[if_neg b3]
  have dr:=dJ cb;generalize drew cb=G at*;have bp:=M.below dr;obtain⟨en,d5,d7⟩:=(bp.at 5 rfl:(ptD au S r.b r.m r.e cs).P G)
  have c8:Ow tS ai G NoB a l c vs:=bp.at 0 rfl;have dd:∀g,fm r.b=some g->g∉(fm a).toList:=λg J du=>bp.st.ap 0 5 _ _ rfl rfl (by decide) g du (List.mem_append.2 (.inl (bV.2 J)));generalize af:S++(fm a).toList=S' at*;have ef:∀b∈S,b∈S':=λb y=>af▸List.mem_append.2 (.inl y);have eg:∀g,fm a=some g->g∈S':=λg J=>af▸List.mem_append.2 (.inr (bV.2 J));have bk:∀b∈S',b<G.heap.size:=λb y=>by
   rw[<- af]at y;rcases List.mem_append.1 y with y|y
   ·exact d5 b y
   ·exact c8.lt b (bV.1 y)
  have b2:∀g,fm r.b=some g->g∉S':=λg J y=>by
   rw[<- af]at y;rcases List.mem_append.1 y with y|y
   ·exact d7 g J y
   ·exact dd g J y
  have c4:Ow vq au G (λb=>b∈S') r.b r.m r.e cs:=en.mono λb _ y=>ef b y;have bl:=bp.merge 4 rfl (r:=ptD au S' r.b r.m r.e cs) ⟨c4,bk,b2⟩ λb y=>by
   rcases List.mem_append.1 y with y|y
   ·exact .inr (List.mem_append.2 (.inl y))
   ·rw[<- af]at y;rcases List.mem_append.1 y with y|y
    ·exact .inr (List.mem_append.2 (.inr y))
    ·exact .inl y
  have d8:vq.rep G (λb=>b∈S') [vS D,.slice a l c] ⟨D,vs⟩:=⟨a,l,c,rfl,c8.sl (λ_ _ h=>h.elim) eg⟩
  have A2d:aB G Z au [vS D,.slice a l c]:=bl.at 0 rfl;have A1d:aB G I ay [.pointer (some ⟨k,0,none⟩)]:=bl.at 1 rfl;have Akd:aB G k aR r.cells:=bl.at 2 rfl;refine⟨λu=>aB u I ay [.pointer (some ⟨k,0,none⟩)]/\aB u k aR r.cells/\aB u Z au [vS D,.slice a l c],⟨A1d,Akd,A2d⟩,
   _,λu F=>F.1.load1 bf rfl rfl,_,λu F=>F.1.load1 bf rfl rfl,rfl,rfl,r.b,r.m,r.e,λu F=>by rw[fc];exact F.2.1.load1 cP rfl rfl,
   D,a,l,c,λu F=>iU.load0 F.2.2 rfl,λed dc d3 cv=>?_⟩
  have V:=(cv▸ar G _:bW G dc)
  have ea:Src vq dc (λb=>b∈S') (some ⟨ed,0,none⟩) 1 [⟨D,vs⟩]:=Src.new1 d3 cv d8 bk;obtain⟨w58,an,bs,a0,ep,em,dj,c3⟩:=ff (ty:=aJ) cP pO (by decide) (c4.below V) b2 (cm:=1) ea (by have:=dn.1;simp only[length_singleton];omega);have cd:Chg ((fm r.b).toList++S') G w58:=((Chg.of V).trans (Chg.row dj)).mono λb y=>List.mem_append.2 (.inl y);have ew:=V.size;have bb:=bl.upd 4 rfl cd (p':=ptD au S' an bs a0 (cs++[⟨D,vs⟩])) ⟨em,λb y=>Nat.lt_of_lt_of_le (bk b y) cd.size,λg J y=>by
   rcases c3 g J with e|e
   ·exact b2 g e y
   ·have:=bk g y;omega⟩ λb y=>by
   rcases List.mem_append.1 y with y|y
   ·rcases c3 b (bV.1 y)with e|e
    ·exact .inl (List.mem_append.2 (.inl (bV.2 e)))
    ·exact .inr (by omega)
   ·exact .inl (List.mem_append.2 (.inr y))
  refine⟨⟨A1d.below V,Akd.below V,A2d.below V⟩,w58,an,bs,a0,ep,⟨bb.at 1 rfl,bb.at 2 rfl,bb.at 0 rfl⟩,rfl,rfl,?_⟩;obtain⟨b8,b6,b5,_⟩:=bb.put kU 2 rfl (i:=1) (v:=.slice an bs a0) rfl rfl (by show 1<4;decide);refine⟨b8,by rw[fc];exact b6,rfl,⟨D,vs⟩,{ r with b:=an,m:=bs,e:=a0 },S',hV,rfl,b5.tail.tail⟩
theorem JC (b:Bool)(w:World):Cf uG #[.bool b] w (Ret λv w'=>v=.tuple #[vS (if b then[104,116,116,112,115,58,47,47]else[104,116,116,112,58,47,47]),vI (if b then 443 else 80)]/\w'=w):=by
 apply Ha;cases b
 ·exact⟨rfl,rfl⟩
 ·exact⟨rfl,rfl⟩
theorem lJ (p:lU):∀s:lU,Lib.indexAny s p=if dt p s=s.length then -1 else((dt p s:Nat):Int)
 |[]=>rfl
 |b::l=>by
  have G:=lJ p l;have H:=kf p l;have e:dt p (b::l)=if p.contains b then 0 else dt p l+1:=by
   unfold dt;rw[List.takeWhile_cons];cases p.contains b<;>rfl
  have y:Lib.indexAny (b::l) p=if p.contains b then(0:Int)else if Lib.indexAny l p== -1 then -1 else Lib.indexAny l p+1:=rfl;by_cases D:p.contains b=true
  ·rw[if_pos D]at e y;rw[y,e,length_cons,if_neg (by omega)];rfl
  ·rw[if_neg D]at e y;rw[y,e,G,length_cons];by_cases h:dt p l=l.length
   ·simp only[h,if_true];rfl
   ·have E: ¬ dt p l+1=l.length+1:=by omega
    have F:(((dt p l:Nat):Int)== -1)=false:=by rw[beq_eq_false_iff_ne];omega
    simp only[if_neg h,if_neg E,F];simp
theorem OY (s:lU)(c:UInt8):Lib.hasPrefix s [c]=decide (s.head?=some c):=by
 cases s with
 |nil=>rfl
 |cons d r=>
  show(c==d&&true)=_;rw[Bool.and_true,List.head?_cons];by_cases h:c=d
  ·rw[h,beq_self_eq_true,decide_eq_true rfl]
  ·rw[beq_eq_false_iff_ne.2 h,decide_eq_false (λe=>h (Option.some.inj e).symm)]
def fZ (s:lU)(sec:Bool):Hst×Int×Int:=match qk s with
 |none=>(jZ,0,31)
 |some h=>match zr sec (s.drop (el s))with
  |none=>(jZ,0,42)
  |some n=>(h,n,0)
theorem PU (s:lU)(D:Bool):(fZ s D).1.ok:=by
 unfold fZ;split
 ·rfl
 ·rename_i h y;split
  ·rfl
  ·exact Ls y
theorem Nr (r:lU)(y:Bool):NB r y=if(fZ (r.take (dt [47,63,35] r)) y).2.2≠0 then(nh,(fZ (r.take (dt [47,63,35] r)) y).2.2)
 else if mN (qo (r.drop (dt [47,63,35] r)))=true then(⟨y,(fZ (r.take (dt [47,63,35] r)) y).1,(fZ (r.take (dt [47,63,35] r)) y).2.1,qo (r.drop (dt [47,63,35] r))⟩,0)else(nh,43):=by
 unfold NB fZ;generalize qk (r.take (dt [47,63,35] r))=o;cases o with
 |none=>rfl
 |some h=>
  show(match zr y ((r.take (dt [47,63,35] r)).drop (el (r.take (dt [47,63,35] r))))with|none=>_|some n=>_)=_;generalize zr y ((r.take (dt [47,63,35] r)).drop (el (r.take (dt [47,63,35] r))))=q;cases q<;>rfl
theorem N3 (b:Bool){h:Hst}(o:h.ok)(n:Int)(p:lU)(w:World):(Instr.build aM #[(0,.bool b),(1,h.v),(2,vI n),(3,vS p)]).run prog w=.ok (⟨b,h,n,p⟩:Url).v w:=by
 obtain⟨y,D,a⟩:=h;obtain⟨E,F,R,U,V,Y,Z,aa,ac,ad,G,H,I,J,M,O,rfl⟩:=pV a o;kernel_rfl
theorem yK (s:lU)(c:UInt8)(w:World):Cf eS #[vS s,.int .u8 (c.toNat:Nat)] w (Ret λv w'=>v=vI (if dt [c] s=s.length then -1 else((dt [c] s:Nat):Int))/\w'=w):=by
 refine(Tryz.strings_IndexByte (mkS s) (c.toNat:Nat) w).mono ?_;rintro _ _ ⟨rfl,rfl⟩;refine⟨_,rfl,?_,rfl⟩;rw[<- lJ,Lib.indexAny_one];simp only[Int.toNat_natCast];rw[show c.toNat.toUInt8=c by simp];rfl
theorem yS (s p:lU)(F:s.length <=9223372036854775800)(hp:p.length <=9223372036854775800)(w:World):Cf py #[vS s,vS p] w (Ret λv w'=>(∃(x:lU) (b:Bool),v=.tuple #[vS x,.bool b]/\(b=decide (eF (s.take p.length)=eF p))/\(b=true->x=s.drop p.length))/\bW w w'):=by
 apply G7;refine iV (λw'=>eF (s.take p.length)=eF p/\bW w w') ?_ ?_
 ·refine ab.of (λh=>⟨⟨s,false,rfl,?_,λe=>by cases e⟩,Below.refl _ _⟩) (λh=>?_)<;>simp only[dTx,dFx]at h
  ·rw[eq_comm,dFx];intro e;have:=Wd e;simp[eF]at this;omega
  ·refine⟨⟨by omega,by omega⟩,?_⟩;rw[Int.toNat_natCast];rintro _ rfl;refine aK (Gr _ p (by simp;omega) hp w) ?_;rintro _ E ⟨rfl,y⟩;refine⟨_,rfl,ab.of (λc=>⟨⟨s,false,rfl,?_,λe=>by cases e⟩,y⟩) (λc=>⟨?_,y⟩)⟩
   ·rw[eq_comm,dFx];simpa using c
   ·simpa using c
 ·rintro E ⟨h,y⟩;have D:=Wd h;simp[eF]at D;refine⟨⟨by omega,by omega⟩,?_⟩;rw[Int.toNat_natCast];rintro _ rfl;exact⟨⟨_,true,rfl,(decide_eq_true h).symm,λ_=>rfl⟩,y⟩
theorem Jz (s:lU)(J:s.length <=9223372036854775000)(w:World):Cf uE #[vS s] w (Ret λv w'=>v=.tuple #[vS (s.take (el s)),vS (s.drop (el s))]/\bW w w'):=by
 apply G8;refine aK (I3 s [91] w) ?_;rintro _ M ⟨rfl,F⟩;rw[F];clear F;refine⟨_,rfl,?_⟩;rw[OY];refine ab.of (λh=>?_) (λh=>?_)<;>simp only[dTx,dFx]at h
 ·have E:el s=min (dt [93] s+1) s.length:=by unfold el;rw[if_pos h]
  have G:=kf [93] s;refine aK (yK s 93 w) ?_;rintro _ H ⟨rfl,y⟩;rw[y];clear y;refine⟨_,rfl,?_⟩;by_cases c:dt [93] s=s.length
  ·rw[if_pos c];refine ab.no rfl ⟨?_,Below.refl _ _⟩;rw[show el s=s.length by omega,take_length,List.drop_length]
  ·rw[if_neg c];have e:i64.wrap (((dt [93] s:Nat):Int)+1)=((el s:Nat):Int):=by rw[wrJ];omega
   try dsimp only
   rw[e,Int.toNat_natCast];refine ab.yes (decide_eq_true (by omega)) ⟨⟨by omega,by omega⟩,?_⟩;rintro _ rfl;refine⟨⟨by omega,by omega⟩,?_⟩;rintro _ rfl I D;exact⟨rfl,D⟩
 ·have E:el s=dt [58] s:=by unfold el;rw[if_neg h]
  have G:=kf [58] s;refine aK (yK s 58 w) ?_;rintro _ H ⟨rfl,y⟩;rw[y];clear y;refine⟨_,rfl,?_⟩;rw[<- E];by_cases c:el s=s.length
  ·rw[if_pos c];refine ab.no rfl ⟨?_,Below.refl _ _⟩;rw[c,take_length,List.drop_length]
  ·try dsimp only
   rw[if_neg c,Int.toNat_natCast];refine ab.yes (decide_eq_true (by omega)) ⟨⟨by omega,by omega⟩,?_⟩;rintro _ rfl;refine⟨⟨by omega,by omega⟩,?_⟩;rintro _ rfl I D;exact⟨rfl,D⟩
theorem JA (s:lU)(y:Bool)(ch:s.length <=2000000000)(w:World)(O:Env w):Cf uF #[vS s,vI (if y then 443 else 80)] w (Ret λv w'=>v=.tuple #[(fZ s y).1.v,vI (fZ s y).2.1,vI (fZ s y).2.2]/\bW w w'):=by
 apply G9;intro k4 a9 b4 b0;have bk:=(b0▸ar w _:bW w a9)
 have b2:aB a9 k4 am jZ.cells:=aB.new b4 b0;refine aK (Jz s (by omega) a9) ?_;rintro _ b8 ⟨rfl,bp⟩;have af:=ae bk bp bk.size;refine⟨_,_,rfl,?_⟩;have Y:qk s=if s.drop (el s)≠[]/\(s.drop (el s)).head?≠some 58 then none else bY (s.take (el s)):=rfl;have hV:fZ s y=match qk s with
  |none=>(jZ,0,31)
  |some h=>match zr y (s.drop (el s))with
   |none=>(jZ,0,42)
   |some n=>(h,n,0):=rfl
 have cb:(s.take (el s)).length <=s.length:=by simp;omega
 have cf:(s.drop (el s)).length <=s.length:=by simp
 generalize s.take (el s)=c at*;generalize s.drop (el s)=q at*;refine aK (lI c (by omega) b8 (O.step af)) ?_;rintro _ b9 ⟨rfl,bq⟩;have bl:=ae af bq af.size;have Z:=pD λx E=>iX (s:=c) E;rw[iy];refine⟨_,_,rfl,?_⟩;refine bn.new (zs:=jZ.cells) (cs:=((bY c).getD jZ).cells) rfl (Hst.len Z) (Hst.one _) b9 λb6 ac cd be bs=>?_;have V:=ae bl bs bl.size;have bb:=((b2.below bp).below bq).below bs;have bt:w.heap.size <=k4:=by omega
 have ad:∀{e:Int} {I:World},bW ac I->fZ s y=(jZ,0,e)->∃D,(Instr.storeAt am (.pointer (some ⟨k4,0,none⟩)) (.agg bB)).run prog I=.ok () D/\
  ∃H:Value,(aS am (.pointer (some ⟨k4,0,none⟩))).run prog D=.ok H D/\(Value.tuple #[H,vI 0,vI e]=.tuple #[(fZ s y).1.v,vI (fZ s y).2.1,vI (fZ s y).2.2]/\bW w D):=fun{e I} F O=>
  bn.fin (K:=λH D=>Value.tuple #[H,vI 0,vI e]=.tuple #[(fZ s y).1.v,vI (fZ s y).2.1,vI (fZ s y).2.2]/\bW w D) (cs:=jZ.cells) rfl (Hst.one _) (bb.below F) rfl (ae V F V.size) bt λD a8=>⟨by rw[O];rfl,a8⟩
 have xN:∀{h:Hst} {n:Int} {I:World},bY c=some h->bW ac I->fZ s y=(h,n,0)->∃v,(Instr.loadAt am (.pointer (some ⟨b6,0,none⟩))).run prog I=.ok v I/\∃D,(Instr.storeAt am (.pointer (some ⟨k4,0,none⟩)) v).run prog I=.ok () D/\
  ∃H:Value,(aS am (.pointer (some ⟨k4,0,none⟩))).run prog D=.ok H D/\(Value.tuple #[H,vI n,vI 0]=.tuple #[(fZ s y).1.v,vI (fZ s y).2.1,vI (fZ s y).2.2]/\bW w D):=fun{h n I} av F O=>by
  rw[av]at be Z;exact⟨_,bn.load0 (be.below F) (Hst.len Z),bn.fin (K:=λH D=>Value.tuple #[H,vI n,vI 0]=.tuple #[(fZ s y).1.v,vI (fZ s y).2.1,vI (fZ s y).2.2]/\bW w D) (cs:=h.cells) (Hst.len Z) (Hst.one _) (bb.below F) rfl (ae V F V.size) bt λD a8=>⟨by rw[O];rfl,a8⟩⟩
 refine iV (λw'=>w'=ac/\∃h,bY c=some h/\qk s=some h) ?_ ?_
 ·refine gX (w:=ac) (decide (qk s=none)) ?_ ?_
  ·have b3:∀(c1:bY c=none),qk s=none:=λc1=>by rw[Y,c1];split<;>rfl
   refine ab.of (λh=>⟨rfl,?_⟩) (λh=>ab.of (λU=>⟨⟨by decide,?_⟩,rfl,?_⟩) (λU=>⟨rfl,?_⟩))
   ·have:bY c=none:=by
     cases G:bY c with
     |none=>rfl
     |some x=>rw[G]at h;cases h
    rw[decide_eq_true (b3 this)]
   all_goals
    have G:bY c≠none:=λG=>by rw[G]at h;cases h
   ·have:q≠[]:=by simpa using U
    have:=List.length_pos_iff.2 this;omega
   ·have bu:q≠[]:=by simpa using U
    have a0:=List.length_pos_iff.2 bu;have F:=byte_at (s:=q) (k:=0) a0;rw[show((0:Nat):Int)=0 from rfl]at F;have bw:=om q[0] 58;rw[show(((58:UInt8).toNat:Nat):Int)=58 from rfl]at bw;have av:q.head?=some q[0]:=by rw[List.head?_eq_getElem?,List.getElem?_eq_getElem a0]
    have e:((aU q 0) !=58)= !(q[0]==58):=by rw[F];show(!_)=_;rw[bw]
    rw[e,Y,av];by_cases c:q[0]=58
    ·rw[if_neg (by rintro⟨-,E⟩;exact E (by rw[c])),decide_eq_false G,c];rfl
    ·rw[if_pos ⟨bu,λE=>c (Option.some.inj E)⟩,beq_eq_false_iff_ne.2 c];rfl
   ·have:q=[]:=by simpa using U
    rw[Y,if_neg (λE=>E.1 this),decide_eq_false G]
  ·refine ab.of (λh=>?_) (λh=>⟨rfl,?_⟩)
   ·exact ad (Below.refl _ _) (by rw[hV,of_decide_eq_true h])
   ·have b5:=of_decide_eq_false h;cases M:qk s with
    |none=>exact absurd M b5
    |some x=>
     refine⟨x,?_,rfl⟩;rw[Y]at M;split at M
     ·cases M
     ·exact M
 ·rintro b7 ⟨rfl,h,G,M⟩;rw[M]at hV;refine ab.of (λc1=>?_) (λc1=>?_)
  ·have c1:q=[]:=by simpa using c1
   exact xN G (Below.refl _ _) (by rw[hV,c1];rfl)
  ·have c1:q≠[]:=by simpa using c1
   have a0:=List.length_pos_iff.2 c1;refine⟨⟨by decide,by omega⟩,?_⟩;intro d an;rw[show Int.toNat 1=1 from rfl]at an;have cc:d.length <=q.length:=by rw[an];simp
   have ag:zr y q=if Ae d/\1 <=mJ d/\mJ d <=65535 then some (mJ d)else none:=by unfold zr;rw[if_neg c1,<- an]
   refine aK (rG d (by omega) b7) ?_;rintro _ aa ⟨rfl,aj⟩;by_cases R:Ae d
   ·rw[if_pos R];refine⟨_,_,rfl,?_⟩;refine jE (w:=aa) (1 <=mJ d/\mJ d <=65535) ?_ ?_
    ·refine gX (w:=aa) (decide (¬ (1 <=mJ d/\mJ d <=65535))) ?_ ?_
     ·refine ab.no rfl (ab.of (λJ=>⟨rfl,?_⟩) (λJ=>⟨rfl,?_⟩))
      ·rw[eq_comm,dTx];simp at J;omega
      ·rw[Bool.eq_iff_iff,dTx,dTx];simp at J;omega
     ·refine ab.of (λJ=>?_) (λJ=>⟨rfl,Decidable.not_not.1 (of_decide_eq_false J)⟩);rw[dTx]at J;exact ad aj (by rw[hV,ag,if_neg (λE=>J E.2)])
    ·intro b1;exact xN G aj (by rw[hV,ag,if_pos ⟨R,b1⟩])
   ·rw[if_neg R];refine⟨_,_,rfl,?_⟩;refine jE (w:=aa) False ?_ (λh=>h.elim);refine gX (w:=aa) true (ab.yes rfl ⟨rfl,rfl⟩) (ab.yes rfl ?_);exact ad aj (by rw[hV,ag,if_neg (λE=>R E.1)])
theorem Jy (s:lU)(cf:s.length <=1000000000)(w:World)(ad:Env w):Cf uD #[vS s] w (Ret (qI s w)):=by
 apply G6;intro k2 M b2 bb;have Y:=(bb▸ar w _:bW w M)
 have bu:aB M k2 aM nh.cells:=aB.new b2 bb;have b3:w.heap.size <=k2:=by omega
 have O:∀{u:Url} {e:Int} {ag:World},u.ok->bW M ag->vi s=(u,e)->∃wy,(Instr.storeAt aM (.pointer (some ⟨k2,0,none⟩)) u.v).run prog ag=.ok () wy/\
  ∃V:Value,(aS aM (.pointer (some ⟨k2,0,none⟩))).run prog wy=.ok V wy/\qI s w (.tuple #[V,vI e]) wy:=fun{u e ag} o D ad=>
  sw.fin (K:=λV wy=>qI s w (.tuple #[V,vI e]) wy) (cs:=u.cells) (Url.len o) (Url.one _) (bu.below D) rfl (ae Y D Y.size) b3 λwy G=>⟨by rw[ad];rfl,G⟩
 refine aK (yS s [104,116,116,112,115,58,47,47] (by omega) (by decide) M) ?_;rintro _ b5 ⟨⟨x,sec,rfl,J,b4⟩,ac⟩;rw[show([104,116,116,112,115,58,47,47]:lU).length=8 from rfl,show eF [104,116,116,112,115,58,47,47]=[104,116,116,112,115,58,47,47] from rfl]at J;refine⟨_,_,rfl,?_⟩;refine⟨λr w'=>QL s=some (r,sec)/\bW M w',?_,λr=>aP.of ?_ _⟩
 ·refine ab.of (λc=>?_) (λc=>?_)
  ·have c:sec=false:=by simpa using c
   rw[c]at J;have R: ¬ eF (s.take 8)=[104,116,116,112,115,58,47,47]:=of_decide_eq_false J.symm;refine aK (yS s [104,116,116,112,58,47,47] (by omega) (by decide) b5) ?_;rintro _ bp ⟨⟨bq,b,rfl,D,G⟩,U⟩;rw[show([104,116,116,112,58,47,47]:lU).length=7 from rfl,show eF [104,116,116,112,58,47,47]=[104,116,116,112,58,47,47] from rfl]at D;have av:=ae ac U ac.size;refine⟨_,_,rfl,ab.of (λy=>?_) (λy=>⟨?_,av⟩)⟩
   ·have y:b=false:=by simpa using y
    rw[y]at D;exact O (u:=nh) rfl av (by unfold vi QL;rw[if_neg (of_decide_eq_false D.symm),if_neg R])
   ·have y:b=true:=by simpa using y
    have e:=G y;rw[y]at D;unfold QL;rw[if_pos (of_decide_eq_true D.symm),e,c];rfl
  ·have c:sec=true:=by simpa using c
   have e:=b4 c;rw[c]at J;have R:=of_decide_eq_true J.symm;refine⟨?_,ac⟩;unfold QL;rw[if_neg,if_pos R,e,c];rfl;intro aj;have:eF (s.take 7)=(eF (s.take 8)).take 7:=by simp[eF,List.map_take,List.take_take]
   rw[this,R]at aj;revert aj;decide
 ·rintro bp ⟨F,U⟩;have cd:r.length <=s.length:=by
   unfold QL at F;split at F
   ·cases F;simp
   split at F
   ·cases F;simp
   ·cases F
  have hV:vi s=NB r sec:=by unfold vi;rw[F]
  rw[Nr]at hV;have b8:=kf [47,63,35] r;refine aK (uH [47,63,35] (by decide) (by decide) (by decide) r (by omega) bp) ?_;rintro _ af ⟨rfl,b0⟩;have Z:=ae U b0 U.size;rw[lJ];refine⟨_,rfl,WW (w:=af) ((dt [47,63,35] r:Nat):Int) ?_ ?_⟩
  ·by_cases c:dt [47,63,35] r=r.length
   ·rw[if_pos c];exact ab.yes rfl ⟨rfl,by rw[c]⟩
   ·rw[if_neg c];exact ab.no (decide_eq_false (by omega)) ⟨rfl,rfl⟩
  refine aK (JC sec af) ?_;rintro _ b6 ⟨rfl,be⟩;rw[be];clear be b6;refine⟨_,_,rfl,⟨by omega,by omega⟩,?_⟩;rw[Int.toNat_natCast];rintro _ rfl;have hp:(r.take (dt [47,63,35] r)).length <=s.length:=by simp;omega
  have b9:(r.drop (dt [47,63,35] r)).length <=s.length:=by simp;omega
  refine aK (JA _ sec (by omega) af ((ad.step Y).step Z)) ?_;rintro _ b7 ⟨rfl,b1⟩;have a0:=ae Z b1 Z.size;refine⟨_,_,_,rfl,?_⟩;have H:=PU (r.take (dt [47,63,35] r)) sec;revert hV H;generalize fZ (r.take (dt [47,63,35] r)) sec=p;intro hV H;refine bn.new (zs:=jZ.cells) (cs:=p.1.cells) rfl (Hst.len H) (Hst.one _) b7 λch bk cc bs bw=>?_;have aa:=ae a0 bw a0.size;refine ab.of (λc=>?_) (λc=>?_)
  ·have c:p.2.2≠0:=by simpa using c
   rw[if_pos c]at hV;exact O (u:=nh) rfl aa hV
  have c:p.2.2=0:=by simpa using c
  rw[if_neg (by rw[c];decide)]at hV;refine⟨⟨by omega,by omega⟩,?_⟩;generalize r.drop (dt [47,63,35] r)=x at*;intro bq G;rw[G];clear G bq;have cb:=kf [63,35] x;refine⟨λt w'=>t=x.take (dt [63,35] x)/\bW bk w',?_,λt=>aP.of ?_ _⟩
  ·refine aK (uH [63,35] (by decide) (by decide) (by decide) x (by omega) bk) ?_;rintro _ bl ⟨rfl,I⟩;rw[lJ];refine⟨_,rfl,?_⟩;by_cases c:dt [63,35] x=x.length
   ·rw[if_pos c,c,take_length];exact ab.no rfl ⟨rfl,I⟩
   ·try dsimp only
    rw[if_neg c,Int.toNat_natCast];refine ab.yes (decide_eq_true (by omega)) ⟨⟨by omega,by omega⟩,?_⟩;rintro _ rfl;exact⟨rfl,I⟩
  ·rintro bl ⟨rfl,I⟩;have a8:=ae aa I aa.size;have bt:=bs.below I;refine⟨λt w'=>w'=bl/\t=qo x,?_,λt=>aP.of ?_ _⟩
   ·unfold qo;refine ab.of (λc=>⟨rfl,?_⟩) (λc=>⟨rfl,?_⟩)
    ·rw[if_pos (by simpa using c)]
    ·rw[if_neg (by simpa using c)]
   ·rintro _ ⟨rfl,rfl⟩;refine aK (vk (qo x) _) ?_;rintro _ cl ⟨rfl,an⟩;have a9:=ae a8 an a8.size;refine⟨_,rfl,ab.of (λE=>?_) (λE=>?_)⟩
    ·have E:mN (qo x)=false:=by simpa using E
     rw[if_neg (by rw[E];decide)]at hV;exact O (u:=nh) rfl a9 hV
    ·have E:mN (qo x)=true:=by simpa using E
     rw[if_pos E]at hV;exact⟨_,bn.load0 (bt.below an) (Hst.len H),_,N3 _ H _ _ _,O (show Url.ok ⟨_,_,_,_⟩ from H) a9 hV⟩
def fw (a:Option Addr)(b:World)(c:VP)(d:List PanicEntry->World->Prop):Prop:=nA b (.cells #[.pointer a] ay) λe f=>∃g:FP [.one .ptr],(∃h:World->Prop,h (drew f)/\∃i,(∀j,h j->Ld ay (vA e 0) j (.pointer i))/\(Option.isSome i=true)/\(Option.isSome i=true)/\∃j,(∀k,h k->Ld co (Option.map (λl=>l.add 2) i) k (vI j))/\∃k,(∀l,h l->Ld ay (vA e 0) l (.pointer k))/\(Cf bS #[.pointer k,.func (.func bm) #[] #[.pointer (vA e 0)]] (drew f) λl m=>(∃n,l=.returned (vS n)/\h m/\nA m (.cells dZ ah) λo p=>h p/\∃q,Sv ah (vA o 0) (.agg #[vS n,.bool false,vI 0,vS [],u0,u0,u0,u0,u0,u0,u0,u0,u0,u0,u0,u0,u0,u0,u0,u0,vI 0,vS [],vS [],vI j]) p q/\g (vA o 0) q)\/∃n,l=.panicked n/\∀_:Fr,d n m)/\∀l m,l=(drew f).heap.size->m=(drew f).alloc (.cells dZ ah)->h m/\Cf bS #[.pointer k,.func (.func bm) #[] #[.pointer (vA e 0)]] m λn o=>(∃p,n=.returned (vS p)/\h o/\∃q,Sv ah (vA l 0) (.agg #[vS p,.bool false,vI 0,vS [],u0,u0,u0,u0,u0,u0,u0,u0,u0,u0,u0,u0,u0,u0,u0,u0,vI 0,vS [],vS [],vI j]) o q/\g (vA l 0) q)\/∃p,n=.panicked p/\∀_:Fr,d p o)/\∀h,aP 8 (∀i,g h i->∃j,Ld ay (vA e 0) i (.pointer j)/\(Option.isSome j=true)/\(Option.isSome j=true)/\∃k l m,Ld aA (Option.map (λn=>n.add 3) j) i (.slice k l m)/\(bx (2:Int) (l:Int)/\Option.isSome k=true)/\∃n,Ld ai (aw k (2:Int) 1) i (vS n)/\Cf uD #[vS n] i λo p=>∃q r,o=rT #[q,vI r]/\nA p (.cells eQ aM) λs t=>∃u,Sv aM (vA s 0) q t u/\∃v:FP [],(ab (r !=0) (∃w,Ld ay (vA e 0) u (.pointer w)/\Cf aO #[.pointer w,vI r,vI 2] u λx y=>(x=rT #[]/\v y)\/∃z,x=.panicked z/\d z y) (v u))/\aP 5 (∀w,v w->∃x:World->Prop,x (drew w)/\∃y,(∀z,x z->Ld aM (vA s 0) z y)/\∃z,(∀A,x A->Ld ay (vA e 0) A (.pointer z))/\(Option.isSome h=true)/\Cf eW #[.pointer z,vI 3] (drew w) λA B=>(∃C,A=.returned (vS C)/\x B/\∃D,Sv aM (Option.map (λE=>E.add 1) h) y B D/\x D/\(Option.isSome h=true)/\∃E,Sv ai (Option.map (λF=>F.add 22) h) (vS C) D E/\(Option.isSome h=true)/\∃F,(∀G,bW E G->Ld ai (Option.map (λH=>H.add 22) h) G (vS F))/\∃G,(∀H,bW E H->Ld ay (vA e 0) H (.pointer G))/\(Option.isSome G=true)/\(Option.isSome G=true)/\∃H I J,(∀K,bW E K->Ld aJ (Option.map (λL=>L.add 1) G) K (.slice H I J))/\∀K,bW E K->Cf kO #[vS F,.slice H I J] K λL M=>∃N O P Q,L=rT #[.slice N O P,.bool Q]/\∃R:FP [],(ab (!Q) (∃S,Ld ay (vA e 0) M (.pointer S)/\Cf aO #[.pointer S,vI 222,vI 3] M λT U=>(T=rT #[]/\R U)\/∃V,T=.panicked V/\d V U) (∃S,(∀T,bW M T->Ld ay (vA e 0) T (.pointer S))/\(Option.isSome S=true)/\(Option.isSome S=true)/\∃T U V,(∀X,bW M X->Ld aJ (Option.map (λY=>Y.add 1) S) X (.slice T U V))/\∃X:FP [.one .slice],(∀Y Z aa ac ad,X Y Z aa ac->bW ac ad->X Y Z aa ad)/\(∀Y,bW M Y->uL mb #[.slice N O P] Y λZ aa ac ad=>X Z aa ac ad/\bW Y ad)/\∀Y Z aa,∃ac,(∀ad,bW M ad->X Y Z aa ad->Cf ma #[.slice Y Z aa,.slice T U V] ad λaf ag=>af=.returned (vI ac)/\bW ad ag)/\∀ad,bW M ad->X Y Z aa ad->ab (decide (ac>(24:Int))) (∃af,Ld ay (vA e 0) ad (.pointer af)/\Cf aO #[.pointer af,vI 53,vI 3] ad λag aj=>(ag=rT #[]/\R aj)\/∃al,ag=.panicked al/\d al aj) (∃af,Ld ay (vA e 0) ad (.pointer af)/\(Option.isSome af=true)/\(Option.isSome af=true)/\∃ag aj al,Ld aJ (Option.map (λan=>an.add 1) af) ad (.slice ag aj al)/\uI jV #[.slice N O P,.slice ag aj al] ad λan ao=>ab (decide (an>(2000:Int))) (∃av,Ld ay (vA e 0) ao (.pointer av)/\Cf aO #[.pointer av,vI 54,vI 3] ao λbb bd=>(bb=rT #[]/\R bd)\/∃be,bb=.panicked be/\d be bd) (∃av,Ld ay (vA e 0) ao (.pointer av)/\(Option.isSome av=true)/\(Option.isSome av=true)/\∃bb bd be,Ld aE (Option.map (λbk=>bk.add 0) av) ao (.slice bb bd be)/\ab ((bd:Int)==8) (∃bk,Ld ay (vA e 0) ao (.pointer bk)/\Cf aO #[.pointer bk,vI 53,vI 0] ao λbl bp=>(bl=rT #[]/\R bp)\/∃bq,bl=.panicked bq/\d bq bp) (R ao)))))/\aP 35 (∀S,R S->∃T:World->Prop,T (drew S)/\∃U,(∀V,T V->Ld ay (vA e 0) V (.pointer U))/\∃V,(∀X,T X->Ld ay (vA e 0) X (.pointer V))/\(Option.isSome V=true)/\(Option.isSome V=true)/\∃X Y Z,(∀aa,T aa->Ld aE (Option.map (λac=>ac.add 0) V) aa (.slice X Y Z))/\∃aa,(∀ac,T ac->Ld ah h ac aa)/\∃ac ad af ag,(Instr.buildSlice aE 1 #[(0,aa)]).run prog (drew S)=.ok (.slice ad af ag) ac/\T ac/\∃aj al an ao,(Builtin.append_ #[aE,aE] aE #[.slice X Y Z,.slice ad af ag]).run prog ac=.ok (.slice al an ao) aj/\T aj/\(Option.isSome U=true)/\(Option.isSome U=true)/\∃av,Sv aE (Option.map (λbb=>bb.add 0) U) (.slice al an ao) aj av/\c (.tuple #[]) av))\/∃C,A=.panicked C/\∀_:Fr,d C B))
theorem mP (y:Option Addr){w:World}{K:Value->World->Prop}{X:List PanicEntry->World->Prop}(h:fw y w K X):Cf fL #[.pointer y] w (JN K X):=
 oK (c:=aH Tryz.f157) (by kernel_rfl) func157 (by kernel_rfl) [(2,[(2,.one (.ptr))]),(6000003,[]),(6,[]),(5000010,[]),(6000013,[]),(1000015,[]),(3000015,[(0,.one (.bool)),(1,.one (.bool)),(2,.one (.bool)),(3,.one (.bool)),(4,.one (.bool)),(5,.one (.bool))]),(16,[]),(5000021,[]),(1000023,[]),(3000023,[(0,.one (.bool)),(2,.one (.bool)),(3,.one (.bool)),(4,.one (.bool)),(5,.one (.bool)),(1,.one (.slice)),(6,.one (.bool)),(7,.one (.bool)),(8,.one (.bool))]),(5000025,[]),(5000029,[]),(5000033,[]),(4000035,[])] [.pointer y] (of_decide_eq_true (by kernel_rfl)) (fw y w K X) (by kernel_rfl) h
theorem Ma (y s:lU)(ln:Int){u v:Url}(D:u.ok):(Tpl.cells ⟨y,u,s,ln⟩).take 1++v.cells++(Tpl.cells ⟨y,u,s,ln⟩).drop (1+21)=Tpl.cells ⟨y,v,s,ln⟩:=by
 unfold Tpl.cells;rw[show 1+21=21+1 from rfl,List.drop_succ_cons,List.drop_append_of_le_length (by rw[Url.len D];exact Nat.le_refl _),drop_eq_nil_of_le (by rw[Url.len D];exact Nat.le_refl _)];rfl
theorem L9 (y s t:lU)(ln:Int){u:Url}(D:u.ok):(Tpl.cells ⟨y,u,s,ln⟩).set 22 (vS t)=Tpl.cells ⟨y,u,t,ln⟩:=by
 unfold Tpl.cells;rw[show 22=21+1 from rfl,List.set_cons_succ,List.set_append_right _ _ (by rw[Url.len D];exact Nat.le_refl _),Url.len D];rfl
theorem SN {t:Tpl}(o:t.ok):t.cells[22]? =some (vS t.text):=Hj o 0
theorem Pr {o:Tpl}(k:o.ok)(w:World):(Instr.buildSlice aE 1 #[(0,o.v)]).run prog w=.ok (.slice (some ⟨w.heap.size,0,none⟩) 1 1) (w.alloc (.cells o.cells.toArray ah)):=by
 obtain⟨E,⟨H,⟨y,D,e3⟩,G,F⟩,tx,ln⟩:=o;obtain⟨I,J,Z,aa,ac,ad,af,ag,aj,an,M,O,R,U,V,Y,rfl⟩:=pV e3 k;kernel_rfl
def ZS (w0:World)(k:Nat)(r:Rdr)(ts:List Tpl)(cs:List Cho)(L:List lU)(S:List Nat)(ex:List Pt):Ending->World->Prop:=JN (λv w'=>v=.tuple #[]/\∃(t:Tpl) (r':Rdr),wF L r.ln ts cs=.inl t/\t.ok/\r'.ln=r.ln/\Sp w0 (RdP k r' (ts++[t]) cs L S ex) w')
 λch w'=>∃(e:Int) (i:Nat),wF L r.ln ts cs=.inr (e,i)/\ch=Q8 (e,r.ln,(qL L i:Nat))/\bW w0 w'
theorem I6 {w0 w:World}{r:Rdr}{ts:List Tpl}{cs:List Cho}{L:List lU}{S:List Nat}{aa:List Pt}(h:Sp w0 (RdP k r ts cs L S aa) w)(bs:LW L)(gc:L.length=4)(d4:Mi cs)(ge:ts.length <=8)(d7:Env w0):
 Cf fL #[.pointer (some ⟨k,0,none⟩)] w (ZS w0 k r ts cs L S aa):=by
 apply mP;unfold fw;intro G w1 fa ea;have es:=(ea▸ar w _:bW w w1)
 have F:aB w1 G ay [.pointer (some ⟨k,0,none⟩)]:=aB.new fa ea;have h1:Sp w0 (ptA G ay [.pointer (some ⟨k,0,none⟩)]::RdP k r ts cs L S aa) w1:=h.add es F λb y=>by rw[List.mem_singleton.1 y];omega
 have bu:=dJ w1;generalize drew w1=Y at*;have h1:=h1.below bu;clear F bu;have F:aB Y G ay [.pointer (some ⟨k,0,none⟩)]:=h1.at 0 rfl;have H:aB Y k aR r.cells:=h1.at 1 rfl;have a9:Ow kl ah Y NoB r.a r.n r.c ts:=h1.at 2 rfl;have ac:Ow tS ai Y NoB r.d r.p r.q L:=h1.at 4 rfl;have hp:=ac.len;have c8:nh.ok:=rfl;have cv:∀{W:World},bW Y W->Cf bS #[.pointer (some ⟨k,0,none⟩),.func (.func bm) #[] #[.pointer (some ⟨G,0,none⟩)]] W (Yr L r.ln (ts.any λc=>c.name==L.getD 1 []) W):=λy=>
  IU (F.below y) (H.below y) rfl rfl rfl (a9.below y).all (ac.below y).all bs (by omega)
 have cl:∀{W W':World} {D:Nat} {E:lU},bW Y W->bW W W'->aB W' D ah (Tpl.cells ⟨E,nh,[],r.ln⟩)->W.heap.size <=D->Sp w0 (ptA D ah (Tpl.cells ⟨E,nh,[],r.ln⟩)::ptA G ay [.pointer (some ⟨k,0,none⟩)]::RdP k r ts cs L S aa) W':=fun{W W' D E} y e0 A e9=>(h1.below y).add e0 A λb y=>by rw[List.mem_singleton.1 y];exact e9
 refine⟨λeg W=>∃D:Nat,eg=some ⟨D,0,none⟩/\nmF (L.getD 1 []) (ts.any λc=>c.name==L.getD 1 [])=0/\bW Y W/\Sp w0 (ptA D ah (Tpl.cells ⟨L.getD 1 [],nh,[],r.ln⟩)::ptA G ay [.pointer (some ⟨k,0,none⟩)]::RdP k r ts cs L S aa) W,
  ⟨λu=>aB u G ay [.pointer (some ⟨k,0,none⟩)]/\aB u k aR r.cells,⟨F,H⟩,_,λu M=>M.1.load1 bf rfl rfl,rfl,rfl,r.ln,λu M=>by rw[fc];exact M.2.load1 eI rfl rfl,_,λu M=>M.1.load1 bf rfl rfl,(cv (Below.refl _ _)).mono ?_,λD b3 dc b1=>?_⟩,λeg=>aP.of ?_ _⟩
 ·rintro _ ch (⟨_,rfl,U,rfl,J⟩|⟨c3,rfl,U,rfl,J⟩)
  rotate_left
  ·exact .inr ⟨_,rfl,λ_=>⟨_,1,QH rfl U,rfl,(h1.below J).bw⟩⟩
  refine .inl ⟨_,rfl,⟨F.below J,H.below J⟩,λD b3 dc b1=>?_⟩;have R:=(b1▸ar ch _:bW ch b3)
  have dl:=ae J R J.size;have Z:aB b3 D ah (Tpl.cells ⟨[],nh,[],0⟩):=aB.new dc b1;obtain⟨wx,b2,cn,c4⟩:=dw.store0 (P:=prog) (cs:=Tpl.cells ⟨L.getD 1 [],nh,[],r.ln⟩) rfl (Tpl.one _) Z rfl;have bk:bW ch wx:=Below.put R c4 (by omega);exact⟨⟨F.below dl,H.below dl⟩,wx,b2,D,rfl,U,ae J bk J.size,cl J bk cn (by omega)⟩
 ·have R:=(b1▸ar Y _:bW Y b3)
  have Z:aB b3 D ah (Tpl.cells ⟨[],nh,[],0⟩):=aB.new dc b1;refine⟨⟨F.below R,H.below R⟩,(cv R).mono ?_⟩;rintro _ ch (⟨_,rfl,U,rfl,J⟩|⟨c3,rfl,U,rfl,J⟩)
  ·have cp:=ae R J R.size;obtain⟨wx,b2,cn,c4⟩:=dw.store0 (P:=prog) (cs:=Tpl.cells ⟨L.getD 1 [],nh,[],r.ln⟩) rfl (Tpl.one _) (Z.below J) rfl;have bk:bW Y wx:=Below.put cp c4 (by omega);exact .inl ⟨_,rfl,⟨F.below cp,H.below cp⟩,wx,b2,D,rfl,U,bk,cl (Below.refl _ _) bk cn (by omega)⟩
  ·exact .inr ⟨_,rfl,λ_=>⟨_,1,QH rfl U,rfl,(h1.below (ae R J R.size)).bw⟩⟩
 rintro W ⟨D,rfl,U,f9,V⟩;have hV:=VM (ln:=r.ln) (cs:=cs) rfl U;clear F H a9 ac cv cl U h1;have F:aB W G ay [.pointer (some ⟨k,0,none⟩)]:=V.at 1 rfl;have H:aB W k aR r.cells:=V.at 2 rfl;have ac:Ow tS ai W NoB r.d r.p r.q L:=V.at 5 rfl;have d3:L.getD 2 []=L[2]:=by simp[List.getD,List.getElem?_eq_getElem (show 2<L.length by omega)]
 have b6:L.getD 3 []=L[3]:=by simp[List.getD,List.getElem?_eq_getElem (show 3<L.length by omega)]
 rw[d3,b6]at hV;clear d3 b6;generalize L.getD 1 []=E at*;have tx:(Instr.loadAt ai (.pointer (aw r.d ((2:Nat):Int) 1))).run prog W=.ok (.string (mkS L[2])) W:=ac.all.text aI (by omega);have bl:∀{W':World} {t:Tpl} {e:Int} {j:Nat} {dn:World->Prop},Sp w0 (ptA D ah t.cells::ptA G ay [.pointer (some ⟨k,0,none⟩)]::RdP k r ts cs L S aa) W'->j <=L.length->wF L r.ln ts cs=.inr (e,j)->Cf aO #[.pointer (some ⟨k,0,none⟩),vI e,vI (j:Int)] W' λd1 ei=>(d1=.returned (.tuple #[])/\dn ei)\/∃dv,d1=.panicked dv/\(∃(e:Int) (i:Nat),wF L r.ln ts cs=.inr (e,i)/\dv=Q8 (e,r.ln,(qL L i:Nat))/\bW w0 ei):=fun{W' t e j dn} V e7 b8=>by
  have H:aB W' k aR r.cells:=V.at 2 rfl;have ac:Ow tS ai W' NoB r.d r.p r.q L:=V.at 5 rfl;refine(jg H rfl rfl ac.all bs e j e7).mono ?_;rintro _ _ (⟨v,rfl,e4⟩|⟨c3,rfl,rfl,rfl⟩)
  ·exact e4.elim
  ·exact .inr ⟨_,rfl,e,j,b8,rfl,V.bw⟩
 refine⟨_,F.load1 bf rfl rfl,rfl,rfl,r.d,r.p,r.q,by rw[fc];exact H.load1 bh rfl rfl,⟨⟨by decide,by omega⟩,ac.all.isSome (i:=2) (by omega)⟩,L[2],tx,aK (Jy L[2] (by have:=bs.2 _ (getElem_mem (show 2<L.length by omega));omega) W (d7.step V.bw)) ?_⟩;rintro _ f5 ⟨rfl,c2⟩;have M:=QO L[2];generalize vi L[2]=f4 at*;obtain⟨u,d2⟩:=f4;simp only at M hV;refine⟨_,_,rfl,sw.new (zs:=nh.cells) (cs:=u.cells) (Url.len c8) (Url.len M) (Url.one _) f5 λk3 f6 gb eq et=>?_⟩;have dm:=ae c2 et c2.size;have d8:=V.below dm;have fo:∀b∈[D],b≠k3:=λb y=>by
  rw[List.mem_singleton.1 y];have:aB W D ah (Tpl.cells ⟨E,nh,[],r.ln⟩):=V.at 0 rfl;have:=this.lt;have:=c2.size;omega
 refine⟨λW'=>W'=f6/\d2=0,ab.of (λbp=>⟨_,(F.below dm).load1 bf rfl rfl,bl d8 (j:=2) (by omega) ?_⟩) (λbp=>⟨rfl,?_⟩),aP.of ?_ _⟩
 ·have bp:d2≠0:=by simpa using bp
  rw[hV,if_pos bp]
 ·simpa using bp
 rintro em ⟨rfl,rfl⟩;rw[if_neg (by decide)]at hV;have bu:=dJ em;generalize drew em=dj at*;have b0:=d8.below bu;have A1d:aB dj G ay [.pointer (some ⟨k,0,none⟩)]:=b0.at 1 rfl;have Akd:aB dj k aR r.cells:=b0.at 2 rfl;have fz:Ow tS ai dj NoB r.d r.p r.q L:=b0.at 5 rfl;have A3d:=eq.below bu;refine⟨λI=>aB I k3 aM u.cells/\aB I G ay [.pointer (some ⟨k,0,none⟩)],⟨A3d,A1d⟩,u.v,λI O=>sw.load0 O.1 (Url.len M),_,λI O=>O.2.load1 bf rfl rfl,rfl,(E8 Akd rfl rfl fz.all bs 3 (by omega)).mono ?_⟩;rintro _ dg (⟨_,rfl,⟨s,cc,rfl⟩,be⟩|⟨c3,rfl,cc,rfl,be⟩)
 rotate_left
 ·exact .inr ⟨_,rfl,λ_=>⟨131,3,by rw[hV,cc],rfl,(b0.below be).bw⟩⟩
 rw[cc]at hV;have dd:=b0.below be;have ep:aB dg D ah (Tpl.cells ⟨E,nh,[],r.ln⟩):=dd.at 0 rfl;obtain⟨wx3,f0,dk,b6⟩:=sw.store (P:=prog) (cs:=u.cells) (Url.len M) (Url.one _) ep (i:=1) (by rw[Tpl.len (t:=⟨E,nh,[],r.ln⟩) c8];decide);rw[Ma E [] r.ln c8]at dk;have ds:Chg [D] dg wx3:=Chg.grown b6 mem_cons_self;have d9:=dd.upd 0 rfl ds (p':=ptA D ah (Tpl.cells ⟨E,u,[],r.ln⟩)) dk λb y=>.inl y;have eo:aB wx3 G ay [.pointer (some ⟨k,0,none⟩)]:=d9.at 1 rfl;have er:aB wx3 k3 aM u.cells:=ds.arr (A3d.below be) λad=>fo _ mem_cons_self (List.mem_singleton.1 ad).symm;have o1:(Tpl.mk E u [] r.ln).ok:=M;obtain⟨wx4,f1,ag,ga⟩:=d9.put dG 0 rfl (i:=22) (v:=vS s) rfl rfl (by rw[Tpl.len o1];decide);rw[L9 E [] s r.ln M]at ag;have ag:Sp w0 (ptA D ah (Tpl.cells ⟨E,u,s,r.ln⟩)::ptA G ay [.pointer (some ⟨k,0,none⟩)]::RdP k r ts cs L S aa) wx4:=ag;have o2:(Tpl.mk E u s r.ln).ok:=M;have gj:s.length <=100000:=Nat.le_trans (QI cc) (bs.2 _ (getElem_mem (show 3<L.length by omega)));have Z:aB wx4 D ah (Tpl.cells ⟨E,u,s,r.ln⟩):=ag.at 0 rfl;have F:aB wx4 G ay [.pointer (some ⟨k,0,none⟩)]:=ag.at 1 rfl;have H:aB wx4 k aR r.cells:=ag.at 2 rfl;have f3:(Tpl.cells ⟨E,u,s,r.ln⟩)[22]? =some (vS s):=SN o2;refine .inl ⟨s,rfl,⟨A3d.below be,(dd.at 1 rfl:aB dg G ay [.pointer (some ⟨k,0,none⟩)])⟩,wx3,f0,⟨er,eo⟩,rfl,wx4,by rw[fc];exact f1,rfl,s,λI y=>by rw[fc];exact(Z.below y).load1 aI rfl f3,_,λI y=>(F.below y).load1 bf rfl rfl,rfl,rfl,r.b,r.m,r.e,λI y=>by rw[fc];exact(H.below y).load1 cP rfl rfl,λen fd=>?_⟩;have de:=ag.below fd;have cf:Ow vq au en (λb=>b∈S) r.b r.m r.e cs:=(de.at 4 rfl:(ptD au S r.b r.m r.e cs).P en).1;refine aK (Sn s (by omega) cf.all (d7.step de.bw)) ?_;rintro v av ⟨eu,ad⟩;have a8:=de.below eu;have F:aB av G ay [.pointer (some ⟨k,0,none⟩)]:=a8.at 1 rfl;have H:aB av k aR r.cells:=a8.at 2 rfl;have cf:Ow vq au av (λb=>b∈S) r.b r.m r.e cs:=(a8.at 4 rfl:(ptD au S r.b r.m r.e cs).P av).1;have an:∀{W':World},bW av W'->(Instr.loadAt ay (.pointer (some ⟨G,0,none⟩))).run prog W'=.ok (.pointer (some ⟨k,0,none⟩)) W':=λy=>(F.below y).load1 bf rfl rfl;have ed:∀{W':World},bW av W'->(Instr.loadAt aJ (.pointer (Option.map (λx=>x.add 1) (some (⟨k,0,none⟩:Addr))))).run prog W'=.ok (.slice r.b r.m r.e) W':=λy=>by rw[fc];exact(H.below y).load1 cP rfl rfl
 have fe:∃(a:Option Addr) (n c:Nat) (b:Bool),v=.tuple #[.slice a n c,.bool b]/\((b=false/\Db cs s=none)\/∃ps,b=true/\Db cs s=some ps/\Ow TL bL av NoB a n c ps):=by
  cases af:Db cs s with
  |none=>rw[af]at ad;exact⟨_,_,_,_,ad,.inl ⟨rfl,rfl⟩⟩
  |some ps=>
   rw[af]at ad;obtain⟨a,n,c,e,o,_⟩:=ad;exact⟨a,n,c,true,e,.inr ⟨ps,rfl,rfl,o⟩⟩
 clear ad;obtain⟨a,n,c,b,rfl,e1⟩:=fe;refine⟨a,n,c,b,rfl,λW'=>wF L r.ln ts cs=.inl ⟨E,u,s,r.ln⟩/\Sp w0 (ptA D ah (Tpl.cells ⟨E,u,s,r.ln⟩)::ptA G ay [.pointer (some ⟨k,0,none⟩)]::RdP k r ts cs L S aa) W',?_,aP.of ?_ _⟩
 ·rcases e1 with⟨rfl,af⟩|⟨ps,rfl,af,ef⟩
  ·exact ab.yes rfl ⟨_,an (Below.refl _ _),bl a8 (j:=3) (by omega) (by rw[hV];simp only[af])⟩
  simp only[af]at hV;obtain⟨gi,df⟩:=M3 af;have d6:=Mf (l:=cs) ps [] (λi e6=>by cases e6) λp hp=>(df p hp).1;rw[<- Ao]at d6;refine ab.no rfl ⟨_,λI y=>an y,rfl,rfl,r.b,r.m,r.e,λI y=>ed y,λdr eb du W'=>Ow KD co W' NoB dr eb du (yx ps),λ_ _ _ _ _ fb y=>fb.below y,λI y=>(VU (ef.below y).all (by omega)).mono ?_,λdr eb du=>⟨Ja cs (yx ps),λI y d5=>(Vw d5.all (cf.below y).all d6 d4.w).mono ?_,λgl y d5=>?_⟩⟩
  ·rintro _ w' ⟨_,rfl,a5,fs,c5,rfl,o5,_,ev⟩;exact⟨a5,fs,c5,rfl,o5,ev⟩
  ·rintro _ w' ⟨_,rfl,rfl,rfl⟩;exact⟨rfl,Below.refl _ _⟩
  have fl:=a8.below y;refine ab.of (λb7=>⟨_,an y,bl fl (j:=3) (by omega) ?_⟩) (λb7=>⟨_,an y,rfl,rfl,r.b,r.m,r.e,ed y,aK (Po (ef.below y).all (cf.below y).all (λp hp=>(df p hp).1) d4.w (by omega) λp hp=>by have:=(df p hp).2;omega) ?_⟩)
  ·rw[hV,if_pos (of_decide_eq_true b7)]
  have b7:=of_decide_eq_false b7;rw[if_neg (by omega)]at hV;rintro _ f7 ⟨rfl,ew⟩;have bt:=ae y ew y.size;have b9:=a8.below bt;have a9:Ow kl ah f7 NoB r.a r.n r.c ts:=b9.at 3 rfl;have gd:=a9.len;refine⟨_,rfl,ab.of (λa0=>⟨_,an bt,bl b9 (j:=3) (by omega) ?_⟩) (λa0=>⟨_,an bt,rfl,rfl,r.a,r.n,r.c,by rw[fc];exact(H.below bt).load1 bJ rfl rfl,ab.of (λbq=>⟨_,an bt,bl b9 (j:=0) (by omega) ?_⟩) (λbq=>⟨?_,b9⟩)⟩)⟩
  ·rw[hV,if_pos (of_decide_eq_true a0)]
  ·have a0:=of_decide_eq_false a0;have bq:r.n=8:=Q4 (k:=8) bq;rw[hV,if_neg (by omega),if_pos (by omega)]
  ·have a0:=of_decide_eq_false a0;have bq:r.n≠8:=Nx (k:=8) bq;rw[hV,if_neg (by omega),if_neg (by omega)]
 rintro ek ⟨b8,aj⟩;have e2:=dJ ek;generalize drew ek=bb at*;have aj:=aj.below e2;have Z:aB bb D ah (Tpl.cells ⟨E,u,s,r.ln⟩):=aj.at 0 rfl;have F:aB bb G ay [.pointer (some ⟨k,0,none⟩)]:=aj.at 1 rfl;have H:aB bb k aR r.cells:=aj.at 2 rfl;have a9:Ow kl ah bb NoB r.a r.n r.c ts:=aj.at 3 rfl;have c9:=ar bb (.cells (Tpl.cells ⟨E,u,s,r.ln⟩).toArray ah);have gh:=Hi b8;obtain⟨_,f8,b4,cd,b5,f2,fy,ex,fx⟩:=M5 (ty:=aE) zW bJ jy (by decide) a9 rfl rfl (x:=⟨E,u,s,r.ln⟩) (vs:=Tpl.cells ⟨E,u,s,r.ln⟩) ⟨rfl,o2⟩ (cm:=1) (by omega);have cb:=aj.upd 3 rfl ex (p':=ptO kl ah b4 cd b5 (ts++[Tpl.mk E u s r.ln])) fy fx.fp;obtain⟨wx,b2,fn,_⟩:=cb.put jz 2 rfl (i:=0) (v:=.slice b4 cd b5) rfl rfl (by show 0<4;decide);refine⟨λI=>aB I G ay [.pointer (some ⟨k,0,none⟩)]/\aB I k aR r.cells/\aB I D ah (Tpl.cells ⟨E,u,s,r.ln⟩),⟨F,H,Z⟩,_,λI O=>O.1.load1 bf rfl rfl,_,λI O=>O.1.load1 bf rfl rfl,rfl,rfl,r.a,r.n,r.c,λI O=>by rw[vW];exact O.2.1.load1 bJ rfl rfl,Tpl.v ⟨E,u,s,r.ln⟩,λI O=>dw.load0 O.2.2 (Tpl.len o2),_,_,_,_,Pr o2 bb,⟨F.below c9,H.below c9,Z.below c9⟩,f8,b4,cd,b5,f2,⟨cb.at 1 rfl,cb.at 2 rfl,cb.at 0 rfl⟩,rfl,rfl,wx,by rw[vW];exact b2,rfl,⟨E,u,s,r.ln⟩,{ r with a:=b4,n:=cd,c:=b5 },b8,o2,rfl,fn.tail.tail⟩
theorem SD {L:List lU}{ln:Int}{st:List Tpl×List Cho}(h:[]∈L):rdV L ln st=.inr (131,0):=by unfold rdV;rw[if_pos h]
theorem Vl {L:List lU}{ln:Int}{ts:List Tpl}{cs:List Cho}(h: ¬ []∈L)(h1:L.head?=some pQ/\2<L.length):rdV L ln (ts,cs)=match xH L cs with|.inr e=>.inr e|.inl c=>.inl (ts,cs++[c]):=by unfold rdV;rw[if_neg h,if_pos h1];rfl
theorem Vm {L:List lU}{ln:Int}{ts:List Tpl}{cs:List Cho}(h: ¬ []∈L)(h1: ¬ (L.head?=some pQ/\2<L.length))(y:L.head?=some vm/\L.length=4):rdV L ln (ts,cs)=match wF L ln ts cs with|.inr e=>.inr e|.inl t=>.inl (ts++[t],cs):=by unfold rdV;rw[if_neg h,if_neg h1,if_pos y];rfl
theorem SE {L:List lU}{ln:Int}{st:List Tpl×List Cho}(h: ¬ []∈L)(h1: ¬ (L.head?=some pQ/\2<L.length))(y: ¬ (L.head?=some vm/\L.length=4)):rdV L ln st=.inr (131,0):=by unfold rdV;rw[if_neg h,if_neg h1,if_neg y]
def mv4:Nat->Nat
 |0=>1
 |1=>2
 |2=>3
 |3=>0
 |n+4=>n+5
theorem U0 (i j:Nat)(e:mv4 i=mv4 j):i=j:=by
 match i,j with
 |0,0|1,1|2,2|3,3=>rfl
 |0,1|0,2|0,3|1,0|1,2|1,3|2,0|2,1|2,3|3,0|3,1|3,2=>cases e
 |0,n+4|1,n+4|2,n+4|3,n+4=>simp[mv4]at e
 |n+4,0|n+4,1|n+4,2|n+4,3=>simp[mv4]at e
 |n+4,m+4=>simp[mv4]at e;omega
def RdI (st:List Tpl×List Cho):Prop:=st.1.length <=8/\Mi st.2/\∀t∈st.1,t.ok
theorem Tj {x:lU}(h:x.length <=20000):LW (bE 32 [] x):=by
 have:=dK 32 x [];refine⟨by omega,λD y=>?_⟩;have:=gp 32 x [] D y;simp at this;omega
def ZU (w0:World)(k:Nat)(ln:Int)(ts:List Tpl)(cs:List Cho)(x:lU)(ex:List Pt):Ending->World->Prop:=JN (λv w'=>v=.tuple #[]/\∃(ts':List Tpl) (cs':List Cho) (r':Rdr) (L':List lU) (S':List Nat),rdV (bE 32 [] x) ln (ts,cs)=.inl (ts',cs')/\RdI (ts',cs')/\LW L'/\r'.ln=ln/\Sp w0 (RdP k r' ts' cs' L' S' ex) w')
 λch w'=>∃(e:Int) (i:Nat),rdV (bE 32 [] x) ln (ts,cs)=.inr (e,i)/\ch=Q8 (e,ln,(qL (bE 32 [] x) i:Nat))/\bW w0 w'
theorem M6 {w0 w:World}{r:Rdr}{ts:List Tpl}{cs:List Cho}{L:List lU}{S:List Nat}{ac:List Pt}(h:Sp w0 (RdP k r ts cs L S ac) w)(b7:LW L)(b6:RdI (ts,cs))(x:lU)(O:x.length <=20000)(bs:Env w0):
 Cf gP #[.pointer (some ⟨k,0,none⟩),vS x] w (ZU w0 k r.ln ts cs x ac):=by
 apply nZ;unfold gE;obtain⟨av,ad,bp⟩:=b6;refine aK (tk x (by omega) w (bs.step h.bw)) ?_;rintro v G ⟨Z,bb⟩;have cc:=h.below bb;have Y:=Tj O;have cb:bE 32 [] x≠[]:=jN 32 x [];generalize bE 32 [] x=H at*;have b5:∀{V:World},bW G V->rdV H r.ln (ts,cs)=.inr (131,0)->Cf aO #[.pointer (some ⟨k,0,none⟩),vI 131,vI ((0:Nat):Int)] V λbl b2=>(bl=.returned (.tuple #[])/\((Value.tuple #[]:Value)=.tuple #[]/\∃(a8:List Tpl) (cs':List Cho) (U:Rdr) (a9:List lU) (af:List Nat),rdV H r.ln (ts,cs)=.inl (a8,cs')/\RdI (a8,cs')/\LW a9/\U.ln=r.ln/\Sp w0 (RdP k U a8 cs' a9 af ac) b2))\/∃bk,bl=.panicked bk/\(∃(e:Int) (i:Nat),rdV H r.ln (ts,cs)=.inr (e,i)/\bk=Q8 (e,r.ln,(qL H i:Nat))/\bW w0 b2):=fun{V} M J=>by
  have a0:=cc.below M;have b4:aB V k aR r.cells:=a0.at 0 rfl;have ch:Ow tS ai V NoB r.d r.p r.q L:=a0.at 3 rfl;refine(jg b4 rfl rfl ch.all b7 131 0 (Nat.zero_le _)).mono ?_;rintro _ _ (⟨v,rfl,b8⟩|⟨be,rfl,rfl,rfl⟩)
  ·exact b8.elim
  ·exact .inr ⟨_,rfl,131,0,J,rfl,a0.bw⟩
 have bt:∀{a:Option Addr} {n c:Nat},Ow tS ai G NoB a n c H->bo w.heap.size a->∃wx,(Instr.storeAt aA (.pointer (Option.map (λx=>x.add 3) (some (⟨k,0,none⟩:Addr)))) (.slice a n c)).run prog G=.ok () wx/\Sp w0 (RdP k { r with d:=a,p:=n,q:=c } ts cs H S ac) wx:=fun{a n c} o f=>by
  have cd:=h.add bb (p:=ptO tS ai a n c H) o λb M=>f b (bV.1 M);obtain⟨wx,aa,O,_⟩:=cd.put ng 1 rfl (i:=3) (v:=.slice a n c) rfl rfl (by show 3<4;decide);exact⟨wx,by rw[fc];exact aa,O.sub mv4 (λi q F=>match i,F with|0,F=>F|1,F=>F|2,F=>F|3,F=>F|_+4,F=>F) (λi j _ _ e=>U0 i j e)⟩
 have cf:∃(a:Option Addr) (n c:Nat) (b:Bool),v=.tuple #[.slice a n c,.bool b]/\((b=false/\[]∈H)\/(b=true/\[]∉H/\Ow tS ai G NoB a n c H/\bo w.heap.size a)):=by
  by_cases E:([]:lU)∈H
  ·rw[if_pos E]at Z;exact⟨_,_,_,_,Z,.inl ⟨rfl,E⟩⟩
  ·rw[if_neg E]at Z;obtain⟨a,n,c,e,o,f⟩:=Z;exact⟨a,n,c,true,e,.inr ⟨rfl,E,o,f⟩⟩
 clear Z;obtain⟨a,n,c,b,rfl,bq⟩:=cf;obtain⟨y,D,rfl⟩:∃y D,H=y::D:=by
  cases H with
  |nil=>exact absurd rfl cb
  |cons y D=>exact⟨y,D,rfl⟩
 have b3:∀(wt:lU) (q:Int->Prop) [DecidablePred q] (Q:List lU->Prop) (F:q (((y::D).length:Nat):Int)↔Q (y::D)) [Decidable ([]∉y::D/\(y::D).head?=some wt/\Q (y::D))],
  ab b (((0 <=(0:Int)/\(0:Int)<(n:Int))/\Option.isSome a=true)/\∃(b1:lU),(Instr.loadAt ai (.pointer (aw a (0:Int) 1))).run prog G=.ok (vS b1) G/\
   ab (b1==wt) (G=G/\decide (q (n:Int))=decide ([]∉y::D/\(y::D).head?=some wt/\Q (y::D))) (G=G/\false=decide ([]∉y::D/\(y::D).head?=some wt/\Q (y::D))))
   (G=G/\false=decide ([]∉y::D/\(y::D).head?=some wt/\Q (y::D))):=λwt q _ Q F _=>by
  rcases bq with⟨rfl,E⟩|⟨rfl,E,o,f⟩
  ·exact ab.no rfl ⟨rfl,(decide_eq_false λh=>h.1 E).symm⟩
  ·have b9:=o.len;subst b9;refine ab.yes rfl ⟨⟨⟨by decide,by simp only[length_cons];omega⟩,o.all.isSome (i:=0) (Nat.zero_lt_succ _)⟩,y,o.all.text aI (i:=0) (Nat.zero_lt_succ _),ab.of (λh=>⟨rfl,?_⟩) (λh=>⟨rfl,?_⟩)⟩
   ·have h:y=wt:=eq_of_beq h;rw[decide_eq_decide];exact⟨λI=>⟨E,by rw[h];rfl,F.1 I⟩,λI=>F.2 I.2.2⟩
   ·have h:y≠wt:=beq_eq_false_iff_ne.1 h;exact(decide_eq_false λI=>h (Option.some.inj I.2.1)).symm
 have b0:[]∉y::D->Ow tS ai G NoB a n c (y::D)/\bo w.heap.size a:=λE=>by
  rcases bq with⟨_,I⟩|⟨_,_,o,f⟩
  ·exact absurd I E
  ·exact⟨o,f⟩
 refine⟨a,n,c,b,rfl,gX (w:=G) (decide ([]∉y::D/\(y::D).head?=some pQ/\2<(y::D).length)) (b3 pQ (λz=>z>2) (λl=>2<l.length) ⟨λh=>by omega,λh=>by omega⟩) (ab.of (λh1=>?_) (λh1=>?_))⟩
 ·obtain⟨E,I⟩:=of_decide_eq_true h1;obtain⟨o,f⟩:=b0 E;obtain⟨wx,aa,O⟩:=bt o f;have hV:=Vl (ln:=r.ln) (ts:=ts) (cs:=cs) E I;refine⟨rfl,rfl,wx,aa,(I5 O Y (Nat.le_of_lt I.2) ad).mono ?_⟩;rintro _ cp (⟨_,rfl,rfl,be,U,af,e,ag,an⟩|⟨_,rfl,e,i,J,rfl,M⟩)
  ·rw[e]at hV;exact .inl ⟨rfl,rfl,ts,cs++[be],U,_,af,hV,⟨av,Le Y ad e,bp⟩,Y,ag,an⟩
  ·rw[J]at hV;exact .inr ⟨_,rfl,e,i,hV,rfl,M⟩
 have bu:[]∉y::D-> ¬ ((y::D).head?=some pQ/\2<(y::D).length):=λE h=>of_decide_eq_false h1 ⟨E,h⟩;refine gX (w:=G) (decide ([]∉y::D/\(y::D).head?=some vm/\(y::D).length=4)) (b3 vm (λz=>z=4) (λl=>l.length=4) ⟨λh=>by omega,λh=>by omega⟩) (ab.of (λaj=>?_) (λaj=>?_))
 ·obtain⟨E,I⟩:=of_decide_eq_true aj;obtain⟨o,f⟩:=b0 E;obtain⟨wx,aa,O⟩:=bt o f;have hV:=Vm (ln:=r.ln) (ts:=ts) (cs:=cs) E (bu E) I;refine⟨rfl,rfl,wx,aa,(I6 O Y I.2 ad av bs).mono ?_⟩;rintro _ cp (⟨_,rfl,rfl,t,U,e,cl,ag,an⟩|⟨_,rfl,e,i,J,rfl,M⟩)
  ·have e:wF (y::D) r.ln ts cs=.inl t:=e;have cv:=Hi e;rw[e]at hV;refine .inl ⟨rfl,rfl,ts++[t],cs,U,_,S,hV,⟨by show(ts++[t]).length <=8;rw[length_append,length_singleton];have:ts.length <=8:=av;omega,ad,λcn R=>?_⟩,Y,ag,an⟩;rcases List.mem_append.1 R with R|R
   ·exact bp cn R
   ·rw[mem_singleton]at R;rw[R];exact cl
  ·have J:wF (y::D) r.ln ts cs=.inr (e,i):=J;rw[J]at hV;exact .inr ⟨_,rfl,e,i,hV,rfl,M⟩
 ·refine b5 (Below.refl _ _) ?_;by_cases E:([]:lU)∈y::D
  ·exact SD E
  ·exact SE E (bu E) λh=>of_decide_eq_false aj ⟨E,h⟩
def yO:Code->Code|.seq a _=>a|c=>c
def seqB:Code->Code|.seq _ b=>b|c=>c
def opsOf:Code->Array Oper|.region _ o _=>o|_=> #[]
def Wa:Code->Nat|.region i _ _=>i|_=>0
def N7:Op->Call|.defer c=>c|.call c=>c|_=>default
def YH:Code->Code|.cond _ a _=>a|c=>c
def Q5:Code->Code|.cond _ _ b=>b|c=>c
def YG:Code->Operand|.cond e _ _=>e|_=>.tmp 0
def Ws:Code->Nat|.block i _=>i|_=>0
def oH:Code->Code|.block _ c=>c|c=>c
def Q7 (P:Program)(fn:Func)(K:Value->World->Prop)(a:Fr)(w:World):Prop:=match Nj fn.results.toList with
 |some l=>K (qm (l.map λt=>jk a t)) w
 |none=>WR P (jk a) w fn.results.toList λvs=>K (qm vs) w
def QE (P:Program)(fn:Func)(K:Value->World->Prop)(N:Fr->World->Prop):Exit->Fr->World->Prop
 |.normal,a,w=>N a w
 |.ret,a,w=>Q7 P fn K a w
 |_,_,_=>False
def WBD (P:Program)(fn:Func)(l:List Tmp)(K:Value->World->Prop)(X:List Value->List PanicEntry->World->Prop):Exit->Fr->World->Prop
 |.normal,a,w|.ret,a,w=>Q7 P fn K a w
 |.panic ch,a,w=>X (l.map (jk a)) ch w
 |_,_,_=>False
def WD (a:Program)(b:Func)(c:Ann)(d e f:Code)(g:Tmp)(h:FuncId)(i:List Tmp)(j:VP)(k:List Value->List PanicEntry->World->Prop)(l:Fr)(m:World):Prop:=W a b.ntmps c 1 d (QE a b j λn o=>W a b.ntmps c (vw d+2) e (QE a b j λp q=>W a b.ntmps c (vw d+vw e+4) f (WBD a b i j k) (iS b.ntmps p (some g) (.func (.func h) #[] (i.map (jk p)).toArray)) q) n o) l m
theorem AR {K:Value->World->Prop}{a:Act}{fr:Fr}{w:World}(D:Rep I.ntmps fr a)(h:Q7 P I K fr w):∃v,(results I a.tmps).run P w=.ok v w/\K v w:=by
 have e:(λt=>a.tmps.getD t undef)=jk fr:=funext D.get;rw[xX,e];unfold Q7 at h;split at h
 ·rename_i l y;exact⟨_,results_tmq y _ _,h⟩
 ·obtain⟨vs,E,h⟩:=NN _ _ h;refine⟨qm vs,?_,h⟩;unfold Wh;rw[Sem.run_bind,Array.mapM_eq_mapM_toList,Sem.run_map,E];simp only[Result.andThen_ok,Sem.run_pure];congr 1
  match vs with
  |[]=>rfl
  |[v]=>rfl
  |v::u::vs=>simp[qm]
theorem SY {P:Program}{id:Nat}{ops:Array Oper}{o1 o2:Oper}{d:Tmp}{g:FuncId}{l:List Tmp}{c:Call}(V:ops.toList=[o1,o2])(J:o1.guard=none)(M:o2.guard=none)(D:o1.dst=some d)(E:o2.dst=none)
 (Z:o1.op=.makeFunc (.func g) #[] (l.map Operand.tmp).toArray) (aa:o2.op=.defer c) (O:c.callee=.value (.tmp d)) (R:c.args= #[]) {Q:Exit->Act->World->Prop} {a:Act} {w:World} (U:d<a.tmps.size)
 (h:Q .normal { tmps:=(a.put (some d) (.func (.func g) #[] (l.map λt=>a.tmps.getD t undef).toArray)).tmps,defers:= { target:=.fn (.func g) (l.map λt=>a.tmps.getD t undef).toArray,args:= #[] } ::a.defers } w):
 (Code.region id ops false).wp P Q a w:=by
 refine wp_region_list ?_;rw[V];have F:(execOp a.eval o1).run P w=.ok (.value (.func (.func g) #[] (l.map λt=>a.tmps.getD t undef).toArray)) w:=by
  unfold execOp;rw[Z];have:((l.map Operand.tmp).toArray.map a.eval)=(l.map λt=>a.tmps.getD t undef).toArray:=by
   rw[map_toArray,List.map_map];rfl
  have y:(#[]:Array Operand).map a.eval= #[]:=by simp
  simp only[this,y];rfl
 unfold wpList;rw[if_pos (by unfold Region.wanted;rw[J])];left;unfold Oper.wp;rw[F,Oper.upon_value,D];have H:(a.put (some d) (.func (.func g) #[] (l.map λt=>a.tmps.getD t undef).toArray)).eval (.tmp d)=.func (.func g) #[] (l.map λt=>a.tmps.getD t undef).toArray:=by
  simp[Act.eval,Act.put,Array.getD_eq_getD_getElem?,U]
 generalize Y:(Value.func (.func g) #[] (l.map λt=>a.tmps.getD t undef).toArray)=v at*;have G:(execOp (a.put (some d) v).eval o2).run P w=.ok (.defer { target:=.fn (.func g) (l.map λt=>a.tmps.getD t undef).toArray,args:= #[] }) w:=by
  unfold execOp;rw[aa];show Sem.run P (do pure (Next.defer (<- resolve (a.put (some d) v).eval c o2.type))) w=_;have y:(#[]:Array Operand).map (a.put (some d) v).eval= #[]:=by simp
  have I:resolve (a.put (some d) v).eval c o2.type=pure { target:=.fn (.func g) (l.map λt=>a.tmps.getD t undef).toArray,args:= #[] } :=by
   unfold resolve;simp only[O,R,y,H];rw[<- Y];rfl
  rw[I];rfl
 unfold wpList;rw[if_pos (by unfold Region.wanted;rw[M])];left;unfold Oper.wp;rw[G,Oper.upon_defer,E];unfold wpList;exact h
theorem Rq (V:P.follows .mixedOrders=true){f g:FuncId}{c0 c1 rest:Code}{id:Nat}{ops:Array Oper}{o1 o2:Oper}{d:Tmp}{l:List Tmp}{c:Call}(b4:P.funcs[f]? =some I)(bu:I.body=some (.seq c0 (.seq c1 (.seq (.region id ops false) rest))))
 (b8:ops.toList=[o1,o2]) (bq:o1.guard=none) (bs:o2.guard=none) (be:o1.dst=some d) (bk:o2.dst=none) (cd:o1.op=.makeFunc (.func g) #[] (l.map Operand.tmp).toArray) (cf:o2.op=.defer c) (bw:c.callee=.value (.tmp d)) (b0:c.args= #[]) (b2:d<I.ntmps)
 (a0:∀t∈l,t∉writes rest/\t≠d)
 (O:Ann) (args:List Value) (cl:args.length <=I.ntmps) {w:World} {K:Value->World->Prop} {X:List Value->List PanicEntry->World->Prop} (ac:Prop) (b3:WD P I O c0 c1 rest d g l K X (mB 0 args) w=ac) (h:ac)
 (av:∀(cap:Array Value) (w:World),(invoke (.fn (.func g) cap) #[]).run P w=.ok (.enter g cap) w)
 (cc:∀(vs:List Value) (w:World),vs.length=l.length->CallsD P g vs.toArray .returning w λe M w'=>(∃v,e=.returned v)/\M=.returning/\w'=w)
 (aa:Fr->World->Prop) (bt:∀fr w,aa fr w=Q7 P I K fr w)
 (bb:∀(vs:List Value) (E:List PanicEntry) (w:World),vs.length=l.length->X vs E w->CallsD P g vs.toArray (.panicking E) w λe M w'=>(∃v,e=.returned v)/\settle M=.returning/\∀fr:Fr,l.map (jk fr)=vs->aa fr w'):
 Calls P f args.toArray w (Ret K):=by
 refine calls_of_wp_defers b4 bu ?_;have Y:Rep I.ntmps (mB 0 args) { tmps:=args.toArray++Array.replicate (I.ntmps-args.toArray.size) undef,defers:=[] } :=by
  refine⟨by simp;omega,λt=>?_⟩;rw[lR];simp only[Nat.zero_le,if_true,Nat.sub_zero,Array.getD_eq_getD_getElem?,Array.getElem?_append,size_toArray,List.getElem?_toArray];by_cases H:t<args.length
  ·simp[H]
  ·simp only[if_neg H];rw[List.getElem?_eq_none (by omega:args.length <=t)];simp only[Array.getElem?_replicate];split<;>rfl
 have hV:=b3▸h;unfold WD at hV;have done:∀{a:Act} {fr:Fr} {w:World},Rep I.ntmps fr a->a.defers=[]->Q7 P I K fr w->Leaves P I a.tmps (Ret K) a.defers .returning w:=fun{a fr w} Y b1 h=>by
  obtain⟨v,J,F⟩:=AR Y h;rw[b1];exact⟨v,J,v,rfl,F⟩
 refine wp_seq (TZ V _ O c0 1 _ _ _ _ Y hV _ λe ch a1 cn a8 aj h1=>?_);cases e with
 |normal=>?_
 |ret=>exact done a8 aj.defers h1
 |_=>exact h1.elim
 refine wp_seq (TZ V _ O c1 _ _ _ _ _ a8 h1 _ λe y a2 cp G b5 U=>?_);have af:a2.defers=[]:=b5.defers.trans aj.defers;cases e with
 |normal=>?_
 |ret=>exact done G af U
 |_=>exact U.elim
 refine wp_seq (SY b8 bq bs be bk cd cf bw b0 (by rw[G.size];exact b2) ?_);have bl:(l.map λt=>a2.tmps.getD t undef)=l.map (jk y):=List.map_congr_left λt _=>G.get t;rw[bl];have a9:=G.put (some d) (.func (.func g) #[] (l.map (jk y)).toArray);have b9:Rep I.ntmps (iS I.ntmps y (some d) (.func (.func g) #[] (l.map (jk y)).toArray)) { tmps:=(a2.put (some d) (.func (.func g) #[] (l.map (jk y)).toArray)).tmps,defers:= { target:=.fn (.func g) (l.map (jk y)).toArray,args:= #[] } ::a2.defers } :=⟨a9.size,a9.get⟩
 refine TZ V _ O rest _ _ _ _ _ b9 U _ λe R a4 w4 Z an D=>?_;have ag:a4.defers=[{ target:=.fn (.func g) (l.map (jk y)).toArray,args:= #[] }]:=by rw[an.defers,af]
 have b7:∀t∈l,a4.tmps.getD t undef=jk y t:=λt H=>by
  rw[an.tmps t (a0 t H).1];show(a2.put (some d) _).tmps.getD t undef=_;rw[<- G.get t];have:=(a0 t H).2;simp[Act.put,Array.getD_eq_getD_getElem?,Array.getElem?_setIfInBounds_ne (Ne.symm this)]
 have bp:(l.map λt=>a4.tmps.getD t undef)=l.map (jk y):=List.map_congr_left b7;have ad:l.map (jk R)=l.map (jk y):=by rw[<- bp];exact List.map_congr_left λt _=>(Z.get t).symm
 have xN:Q7 P I K R w4->Leaves P I a4.tmps (Ret K) a4.defers .returning w4:=λh=>by
  obtain⟨v,J,F⟩:=AR Z h;rw[ag];refine leaves_cons (by simp) (av _ _) ((cc (l.map (jk y)) w4 (by simp)).mono ?_);rintro _ _ _ ⟨⟨v',rfl⟩,rfl,rfl⟩;exact⟨v,J,v,rfl,F⟩
 cases e with
 |normal=>exact xN D
 |ret=>exact xN D
 |panic E=>
  show Leaves P I a4.tmps (Ret K) a4.defers (.panicking E) w4;rw[ag];have D:X (l.map (jk R)) E w4:=D;rw[ad]at D;refine leaves_cons (by simp) (av _ _) ((bb (l.map (jk y)) E w4 (by simp) D).mono ?_);rintro _ M w' ⟨⟨v',rfl⟩,cb,b6⟩;obtain⟨v,J,F⟩:=AR Z (bt _ _▸b6 R ad);show Leaves P I a4.tmps (Ret K) [] (settle M) w';rw[cb];exact⟨v,J,v,rfl,F⟩
 |_=>exact D.elim
inductive Rec:FrameMode->Value->FrameMode->Prop where
 |nil:Rec .returning .nilIface .returning
 |got (v:Value) (older:List PanicEntry):Rec (.panicking ({ v:=v,recovered:=false } ::older)) v (.panicking ({ v:=v,recovered:=true } ::older))
def X3 (P:Program)(fn:Func)(K:Value->World->Prop):Exit->Act->World->Prop
 |.normal,a,w|.ret,a,w=>a.defers=[]/\∃v,(results fn a.tmps).run P w=.ok v w/\K v w
 |_,_,_=>False
theorem Ng {args:List Value}(D:args.length <=n):Rep n (mB 0 args) { tmps:=args.toArray++Array.replicate (n-args.toArray.size) undef,defers:=[] } :=by
 refine⟨by simp;omega,λt=>?_⟩;rw[lR];simp only[Nat.zero_le,if_true,Nat.sub_zero,Array.getD_eq_getD_getElem?,Array.getElem?_append,size_toArray,List.getElem?_toArray];by_cases y:t<args.length
 ·simp[y]
 ·simp only[if_neg y];rw[List.getElem?_eq_none (by omega:args.length <=t)];simp only[Array.getElem?_replicate];split<;>rfl
theorem ND {K:Value->World->Prop}{e:Exit}{fr:Fr}{a:Act}{w:World}(F:Rep I.ntmps fr a)(E:a.defers=[])(h:QE P I K (Q7 P I K) e fr w):X3 P I K e a w:=by
 cases e with
 |normal=>obtain⟨v,D,y⟩:=AR F h;exact⟨E,v,D,y⟩
 |ret=>obtain⟨v,D,y⟩:=AR F h;exact⟨E,v,D,y⟩
 |_=>exact h.elim
theorem AE {g:FuncId}{rest:Code}{id:Nat}{ops:Array Oper}{o:Oper}{d:Tmp}{c:Call}(a9:P.funcs[g]? =some I)(av:I.body=some (.seq (.region id ops false) rest))
 (Z:ops.toList=[o]) (ag:o.guard=none) (U:o.dst=some d) (bs:o.op=.call c) (a0:c.callee=.builtin .recover) (a8:c.args= #[])
 (args:List Value) (bb:args.length <=I.ntmps) {u u':FrameMode} {F:Value} (bk:Rec u F u') {w:World} {K:Value->World->Prop}
 (bl:∀a,Rep I.ntmps (iS I.ntmps (mB 0 args) (some d) F) a->a.defers=[]->rest.wp P (X3 P I K) a w):
 CallsD P g args.toArray u w λe y w'=>(∃v,e=.returned v/\K v w')/\y=u':=by
 have be:=Ng bb;refine callsD_of_wpS a9 av λE cs G=>?_;refine wpS_seq (wpS_region ?_);have bp:ops.size=1:=by rw[<- Array.length_toList,Z];rfl
 have H:ops[0]? =some o:=by rw[<- Array.getElem?_toList,Z];rfl
 rw[bp];show wpOpsS P ops _ [0] _ _ _;unfold wpOpsS;rw[H];simp only;rw[if_pos (by unfold Region.wanted;rw[ag])];generalize aj:({ tmps:=args.toArray++Array.replicate (I.ntmps-args.toArray.size) undef,defers:=[] } :Act)=A at*;have hAd:A.defers=[]:=by rw[<- aj]
 have af:(execOp A.eval o).run P w=.ok .recover w:=by
  unfold execOp;rw[bs];have H:(#[]:Array Operand).map A.eval= #[]:=by simp
  show Sem.run P (do let d <- resolve A.eval c o.type;invoke d.target d.args) w=_;have D:∃R,resolve A.eval c o.type=pure { target:=.builtin .recover c.argTypes o.type R,args:= #[] } :=by
   unfold resolve;simp only[a0,a8,H];exact⟨_,rfl⟩
  obtain⟨R,D⟩:=D;rw[D];rfl
 rw[af];simp only;have V:∀cs',(∃y,cs'= { E with mode:=y } ::cs/\y=u')->(rest.wpS P (bodyPostS P I E cs λe y w'=>(∃v,e=.returned v/\K v w')/\y=u') (A.put (some d) F) cs' w):=λcs' ⟨y,Y,aa⟩=>by
  refine wpS_of_wp ?_;have key:=bl _ (be.put (some d) F) hAd;intro b k ad;obtain⟨e,ac,w',q,an⟩:=key b k ad;refine⟨e,ac,w',?_,an⟩;cases e with
  |normal=>obtain⟨M,v,O,J⟩:=q;exact⟨M,y,Y,v,O,⟨v,rfl,J⟩,aa⟩
  |ret=>obtain⟨M,v,O,J⟩:=q;exact⟨M,y,Y,v,O,⟨v,rfl,J⟩,aa⟩
  |_=>exact q.elim
 cases bk with
 |nil=>
  have D:recoverD (E::cs)=none:=by simp only[recoverD,G]
  rw[D];simp only;rw[U];unfold wpOpsS;exact V _ ⟨_,by cases E;simp only at G;rw[G],rfl⟩
 |got v bq=>
  have D:recoverD (E::cs)=some (F,{ E with mode:=.panicking ({ v:=F,recovered:=true } ::bq) } ::cs):=by simp only[recoverD,G]
  rw[D];simp only;rw[U];unfold wpOpsS;exact V _ ⟨_,rfl,rfl⟩
theorem JJ {ops:Array Oper}{Q:Exit->Act->World->Prop}{o:Oper}{rest:List Oper}{fr:Fr}{a:Act}{w:World}{v:Value}(D:Rep n fr a)(E:o.guard=none)(F:(execOp (evF fr) o).run P w=.ok (.value v) w)
 (h:∀y,Rep n (iS n fr o.dst v) y->y.defers=a.defers->wpList P ops Q rest y w):wpList P ops Q (o::rest) a w:=by
 unfold wpList;rw[if_pos (by unfold Region.wanted;rw[E])];left;unfold Oper.wp;rw[D.eval,F,Oper.upon_value];exact h _ (D.put o.dst v) (by cases o.dst<;>rfl)
theorem yJ {K:Value->World->Prop}{bid:Nat}{e:Exit}{a:Act}{w:World}(h:X3 P I K e a w):Exit.inBlock bid (X3 P I K) e a w:=by
 cases e<;>first|exact h|exact h.elim
theorem HX (b1:P.follows .mixedOrders=true){g:FuncId}{id id3 id5 bid:Nat}{ops ops3 ops5:Array Oper}{e3 e5:Operand}{r4 c6 c7:Code}{o o3 o5 o6 o7:Oper}{d:Tmp}{c:Call}(bw:P.funcs[g]? =some I)
 (bb:I.body=some (.seq (.region id ops false) (.block bid (.seq (.region id3 ops3 false) (.cond e3 r4 (.seq (.region id5 ops5 false) (.cond e5 c6 c7)))))))
 (b3:ops.toList=[o]) (aj:o.guard=none) (Z:o.dst=some d) (b8:o.op=.call c) (be:c.callee=.builtin .recover) (bk:c.args= #[])
 (b4:ops3.toList=[o3]) (an:o3.guard=none) (b5:ops5.toList=[o5,o6,o7]) (av:o5.guard=none) (a0:o6.guard=none) (a8:o7.guard=none)
 (O:Ann) (args:List Value) (b2:args.length <=I.ntmps) {u u':FrameMode} {Y:Value} (b7:Rec u Y u') {w:World} {K:Value->World->Prop} {D y E F G:Fr} {v5 v6 v7:Value}
 (aa:iS I.ntmps (mB 0 args) (some d) Y=D) (cb:(execOp (evF D) o3).run P w=.ok (.value (.bool false)) w) (ac:iS I.ntmps D o3.dst (.bool false)=y) (ch:evF y e3=.bool false)
 (cc:(execOp (evF y) o5).run P w=.ok (.value v5) w) (ad:iS I.ntmps y o5.dst v5=E) (cd:(execOp (evF E) o6).run P w=.ok (.value v6) w) (af:iS I.ntmps E o6.dst v6=F) (cf:(execOp (evF F) o7).run P w=.ok (.value v7) w) (ag:iS I.ntmps F o7.dst v7=G) (cl:evF G e5=.bool true)
 (M:Prop) (bu:W P I.ntmps O 0 c6 (QE P I K (Q7 P I K)) G w=M) (h:M):
 CallsD P g args.toArray u w λe b9 w'=>(∃v,e=.returned v/\K v w')/\b9=u':=by
 refine AE bw bb b3 aj Z b8 be bk args b2 b7 λa R bl=>?_;rw[aa]at R;refine wp_block (wp_seq (wp_region_list ?_));rw[b4];refine JJ R an cb λa1 H bp=>?_;rw[ac]at H;unfold wpList;refine wp_cond_false (by rw[H.eval];exact ch) (wp_seq (wp_region_list ?_));rw[b5];refine JJ H av cc λa2 U bq=>?_;rw[ad]at U;refine JJ U a0 cd λa3 V bs=>?_;rw[af]at V;refine JJ V a8 cf λa4 J bt=>?_;rw[ag]at J;unfold wpList;refine wp_cond_true (by rw[J.eval];exact cl) ?_;exact TZ b1 _ O c6 0 _ _ _ _ J (bu▸h) _ λe cn a5 cp b6 b0 a9=>yJ (ND b6 (b0.defers.trans (bt.trans (bs.trans (bq.trans (bp.trans bl))))) a9)
theorem JY (av:P.follows .mixedOrders=true){g:FuncId}{id id3 bid:Nat}{ops ops3:Array Oper}{e3:Operand}{r4 c5:Code}{o o3:Oper}{d:Tmp}{c:Call}(aj:P.funcs[g]? =some I)
 (Z:I.body=some (.seq (.region id ops false) (.block bid (.seq (.region id3 ops3 false) (.cond e3 r4 c5)))))
 (a8:ops.toList=[o]) (U:o.guard=none) (M:o.dst=some d) (bk:o.op=.call c) (aa:c.callee=.builtin .recover) (ac:c.args= #[])
 (a9:ops3.toList=[o3]) (V:o3.guard=none)
 (G:Ann) (args:List Value) (a0:args.length <=I.ntmps) {u u':FrameMode} {J:Value} (be:Rec u J u') {w:World} {K:Value->World->Prop} {y D:Fr}
 (O:iS I.ntmps (mB 0 args) (some d) J=y) (bp:(execOp (evF y) o3).run P w=.ok (.value (.bool true)) w) (R:iS I.ntmps y o3.dst (.bool true)=D) (bq:evF D e3=.bool true)
 (F:Prop) (ag:W P I.ntmps G 0 r4 (QE P I K (Q7 P I K)) D w=F) (h:F):
 CallsD P g args.toArray u w λe bl w'=>(∃v,e=.returned v/\K v w')/\bl=u':=by
 refine AE aj Z a8 U M bk aa ac args a0 be λa H ad=>?_;rw[O]at H;refine wp_block (wp_seq (wp_region_list ?_));rw[a9];refine JJ H V bp λa1 E af=>?_;rw[R]at E;unfold wpList;refine wp_cond_true (by rw[E.eval];exact bq) ?_;exact TZ av _ G r4 0 _ _ _ _ E (ag▸h) _ λe bs a5 bt bb an Y=>yJ (ND bb (an.defers.trans (af.trans ad)) Y)
def kV (a:lU)(b:World)(c:VP)(d:List Value->List PanicEntry->World->Prop):Prop:=nA b (.cells #[.slice none 0 0] aE) λe f=>nA f (.cells #[.slice none 0 0] aJ) λg h=>nA h (.cells #[vI 0,vI 0,vI 0] ax) λi j=>ab (decide (((length a:Nat):Int)>(20000:Int))) (∃k,Sv aE (vA e 0) (.slice none 0 0) j k/\∃l,Sv aJ (vA g 0) (.slice none 0 0) k l/\∃m,Sv ax (vA i 0) (.agg #[vI 54,vI 1,vI 1]) l m/\∃n o p,Rv aE (vA e 0) m (.slice n o p)/\∃q r s,Rv aJ (vA g 0) m (.slice q r s)/\∃t u v,Rv ax (vA i 0) m (.agg #[vI t,vI u,vI v])/\c (.tuple #[.slice n o p,.slice q r s,.agg #[vI t,vI u,vI v]]) m) (nA j (.cells #[.slice none 0 0,.slice none 0 0,vI 0,.slice none 0 0] aR) λk l=>uL jm #[vS a] l λm n o p=>∃q:Nat->FP [shI],(∃r,q r (0:Int) p)/\∀r s,aP 22 (∀t,q r s t->ab (decide (s<(n:Int))) ((bx s (n:Int)/\Option.isSome m=true)/\∃u,Ld ai (aw m s 1) t (vS u)/\∃v:FP [shB],(ab (!(u==[])) (uB dW #[vS u,vS [35]] t λw x=>v (!w) x) (v false t))/\∀w,aP 6 (∀x,v w x->ab w (true/\true/\∃y,Sv co (vA k 2) (vI (i64.wrap (s+1))) x y/\Cf gP #[.pointer (vA k 0),vS u] y λz A=>(z=rT #[]/\∃B:Nat,B<r/\q B (i64.wrap (s+1)) A)\/∃B,z=.panicked B/\d [.pointer (vA e 0),.pointer (vA g 0),.pointer (vA i 0)] B A) (∃y:Nat,y<r/\q y (i64.wrap (s+1)) x))) (true/\true/\true/\true/\(∃u v w,Ld aE (vA k 0) (drew t) (.slice u v w)/\(∃x y z,Ld aJ (vA k 1) (drew t) (.slice x y z)/\∃A,Sv aE (vA e 0) (.slice u v w) (drew t) A/\∃B,Sv aJ (vA g 0) (.slice x y z) A B/\∃C,Sv ax (vA i 0) (.agg #[vI 0,vI 0,vI 0]) B C/\∃D E F,Rv aE (vA e 0) C (.slice D E F)/\∃G H I,Rv aJ (vA g 0) C (.slice G H I)/\∃J K L,Rv ax (vA i 0) C (.agg #[vI J,vI K,vI L])/\c (.tuple #[.slice D E F,.slice G H I,.agg #[vI J,vI K,vI L]]) C)/\∃x,Sv aE (vA e 0) (.slice u v w) (drew t) x/\∃y z A,Ld aJ (vA k 1) x (.slice y z A)/\∃B,Sv aJ (vA g 0) (.slice y z A) x B/\∃C,Sv ax (vA i 0) (.agg #[vI 0,vI 0,vI 0]) B C/\∃D E F,Rv aE (vA e 0) C (.slice D E F)/\∃G H I,Rv aJ (vA g 0) C (.slice G H I)/\∃J K L,Rv ax (vA i 0) C (.agg #[vI J,vI K,vI L])/\c (.tuple #[.slice D E F,.slice G H I,.agg #[vI J,vI K,vI L]]) C)/\∃u v w,Ld aJ (vA k 1) (drew t) (.slice u v w)/\∃x y z,Ld aE (vA k 0) (drew t) (.slice x y z)/\∃A,Sv aE (vA e 0) (.slice x y z) (drew t) A/\∃B,Sv aJ (vA g 0) (.slice u v w) A B/\∃C,Sv ax (vA i 0) (.agg #[vI 0,vI 0,vI 0]) B C/\∃D E F,Rv aE (vA e 0) C (.slice D E F)/\∃G H I,Rv aJ (vA g 0) C (.slice G H I)/\∃J K L,Rv ax (vA i 0) C (.agg #[vI J,vI K,vI L])/\c (.tuple #[.slice D E F,.slice G H I,.agg #[vI J,vI K,vI L]]) C)))
abbrev jM:List Nat:=[2,3,4]
def jP (a:VP)(b:Fr)(c:World):Prop:=∃d e f,(aS aE (jk b 2)).run prog c=.ok (.slice d e f) c/\∃g h i,(aS aJ (jk b 3)).run prog c=.ok (.slice g h i) c/\∃j k l,(aS ax (jk b 4)).run prog c=.ok (.agg #[vI j,vI k,vI l]) c/\a (.tuple #[.slice d e f,.slice g h i,.agg #[vI j,vI k,vI l]]) c
theorem yh (s0:lU){w:World}{K:Value->World->Prop}{X:List Value->List PanicEntry->World->Prop}(h:kV s0 w K X)
 (F:∀(cap:Array Value) (w:World),(invoke (.fn (.func dE) cap) #[]).run prog w=.ok (.enter dE cap) w)
 (G:∀(vs:List Value) (w:World),vs.length=jM.length->CallsD prog dE vs.toArray .returning w λe y w'=>(∃v,e=.returned v)/\y=.returning/\w'=w)
 (E:∀(vs:List Value) (D:List PanicEntry) (w:World),vs.length=jM.length->X vs D w->CallsD prog dE vs.toArray (.panicking D) w λe y w'=>(∃v,e=.returned v)/\settle y=.returning/\∀fr:Fr,jM.map (jk fr)=vs->jP K fr w'):
 Cf lZ #[vS s0] w (Ret K):=
 Rq (c0:=yO (aH Tryz.f34)) (c1:=yO (seqB (aH Tryz.f34))) (rest:=seqB (seqB (seqB (aH Tryz.f34)))) (id:=Wa (yO (seqB (seqB (aH Tryz.f34))))) (ops:=opsOf (yO (seqB (seqB (aH Tryz.f34))))) (o1:=(opsOf (yO (seqB (seqB (aH Tryz.f34)))))[0]!) (o2:=(opsOf (yO (seqB (seqB (aH Tryz.f34)))))[1]!) (d:=12) (g:=dE) (l:=[2,3,4]) (c:=N7 ((opsOf (yO (seqB (seqB (aH Tryz.f34)))))[1]!).op) (by kernel_rfl) func34 (by kernel_rfl) (by kernel_rfl) (by kernel_rfl) (by kernel_rfl) (by kernel_rfl) (by kernel_rfl) (by kernel_rfl) (by kernel_rfl) (by kernel_rfl) (by kernel_rfl) (of_decide_eq_true (by kernel_rfl)) (of_decide_eq_true (by kernel_rfl))
  [(18,[(18,shI)]),(29,[(29,.one (.bool))]),(5000034,[])] [vS s0] (of_decide_eq_true (by kernel_rfl)) (kV s0 w K X) (by kernel_rfl) h F G (jP K) (λfr w=>(by kernel_rfl)) E
def jD (a b c:Value)(d:World)(e:VP):Prop:=e (.tuple #[]) d
theorem nX (y:Value)(D:Value)(E:Value){u u':FrameMode}(F:Rec u .nilIface u'){w:World}{K:Value->World->Prop}(h:jD y D E w K):
 CallsD prog dE #[y,D,E] u w λe G w'=>(∃v,e=.returned v/\K v w')/\G=u':=
 JY (id:=Wa (yO (aH Tryz.f79))) (ops:=opsOf (yO (aH Tryz.f79))) (o:=(opsOf (yO (aH Tryz.f79)))[0]!) (d:=6) (c:=N7 ((opsOf (yO (aH Tryz.f79)))[0]!).op) (bid:=Ws (seqB (aH Tryz.f79))) (id3:=Wa (yO (oH (seqB (aH Tryz.f79))))) (ops3:=opsOf (yO (oH (seqB (aH Tryz.f79))))) (o3:=(opsOf (yO (oH (seqB (aH Tryz.f79)))))[0]!) (e3:=YG (seqB (oH (seqB (aH Tryz.f79))))) (r4:=YH (seqB (oH (seqB (aH Tryz.f79))))) (c5:=Q5 (seqB (oH (seqB (aH Tryz.f79))))) (by kernel_rfl) func79 (by kernel_rfl) (by kernel_rfl) (by kernel_rfl) (by kernel_rfl) (by kernel_rfl) (by kernel_rfl) (by kernel_rfl) (by kernel_rfl) (by kernel_rfl)
  [] [y,D,E] (of_decide_eq_true (by kernel_rfl)) F rfl (by kernel_rfl) rfl (by kernel_rfl) (jD y D E w K) (by kernel_rfl) h
def eB (a b c:Option Addr)(d e f:Int)(g:World)(h:VP):Prop:=nA g (.cells #[vI 0,vI 0,vI 0] ax) λi j=>∃k,Sv ax (vA i 0) (.agg #[vI d,vI e,vI f]) j k/\(∃l m n,Ld ax (vA i 0) (drew k) (.agg #[vI l,vI m,vI n])/\∃o,Sv aE a (.slice none 0 0) (drew k) o/\∃p,Sv aJ b (.slice none 0 0) o p/\∃q,Sv ax c (.agg #[vI l,vI m,vI n]) p q/\h (.tuple #[]) q)/\∃l,Sv aE a (.slice none 0 0) (drew k) l/\(∃m n o,Ld ax (vA i 0) l (.agg #[vI m,vI n,vI o])/\∃p,Sv aJ b (.slice none 0 0) l p/\∃q,Sv ax c (.agg #[vI m,vI n,vI o]) p q/\h (.tuple #[]) q)/\∃m,Sv aJ b (.slice none 0 0) l m/\∃n o p,Ld ax (vA i 0) m (.agg #[vI n,vI o,vI p])/\∃q,Sv ax c (.agg #[vI n,vI o,vI p]) m q/\h (.tuple #[]) q
theorem kB (F:Option Addr)(G:Option Addr)(H:Option Addr)(y:Int)(D:Int)(E:Int){u u':FrameMode}(I:Rec u (.iface ax (.agg #[vI y,vI D,vI E])) u'){w:World}{K:Value->World->Prop}(h:eB F G H y D E w K):
 CallsD prog dE #[.pointer F,.pointer G,.pointer H] u w λe J w'=>(∃v,e=.returned v/\K v w')/\J=u':=
 HX (id:=Wa (yO (aH Tryz.f79))) (ops:=opsOf (yO (aH Tryz.f79))) (o:=(opsOf (yO (aH Tryz.f79)))[0]!) (d:=6) (c:=N7 ((opsOf (yO (aH Tryz.f79)))[0]!).op) (bid:=Ws (seqB (aH Tryz.f79))) (id3:=Wa (yO (oH (seqB (aH Tryz.f79))))) (ops3:=opsOf (yO (oH (seqB (aH Tryz.f79))))) (o3:=(opsOf (yO (oH (seqB (aH Tryz.f79)))))[0]!) (e3:=YG (seqB (oH (seqB (aH Tryz.f79))))) (r4:=YH (seqB (oH (seqB (aH Tryz.f79))))) (id5:=Wa (yO (Q5 (seqB (oH (seqB (aH Tryz.f79))))))) (ops5:=opsOf (yO (Q5 (seqB (oH (seqB (aH Tryz.f79))))))) (e5:=YG (seqB (Q5 (seqB (oH (seqB (aH Tryz.f79))))))) (c6:=YH (seqB (Q5 (seqB (oH (seqB (aH Tryz.f79))))))) (c7:=Q5 (seqB (Q5 (seqB (oH (seqB (aH Tryz.f79))))))) (o5:=(opsOf (yO (Q5 (seqB (oH (seqB (aH Tryz.f79)))))))[0]!) (o6:=(opsOf (yO (Q5 (seqB (oH (seqB (aH Tryz.f79)))))))[1]!) (o7:=(opsOf (yO (Q5 (seqB (oH (seqB (aH Tryz.f79)))))))[2]!) (v5:=.tuple #[.agg #[vI y,vI D,vI E],.bool true]) (v6:=.bool true) (v7:=.agg #[vI y,vI D,vI E]) (by kernel_rfl) func79 (by kernel_rfl) (by kernel_rfl) (by kernel_rfl) (by kernel_rfl) (by kernel_rfl) (by kernel_rfl) (by kernel_rfl) (by kernel_rfl) (by kernel_rfl) (by kernel_rfl) (by kernel_rfl) (by kernel_rfl) (by kernel_rfl)
  [] [.pointer F,.pointer G,.pointer H] (of_decide_eq_true (by kernel_rfl)) I rfl (by kernel_rfl) rfl (by kernel_rfl) (by kernel_rfl) rfl (by kernel_rfl) rfl (by kernel_rfl) rfl (by kernel_rfl) (eB F G H y D E w K) (by kernel_rfl) h
theorem Js {st:List Tpl×List Cho}{x:lU}(h:x=[]\/x.head?=some 35):Hh i st x=.inl st:=by unfold Hh;rw[if_pos h]
theorem Jr {st:List Tpl×List Cho}{x:lU}(h: ¬ (x=[]\/x.head?=some 35)):Hh i st x=match rdV (bE 32 [] x) ((i:Int)+1) st with
 |.inl st'=>.inl st'
 |.inr (e,k)=>.inr (e,(qL (bE 32 [] x) k:Nat)):=by unfold Hh;rw[if_neg h];rfl
theorem Ob:∀(i:Nat) (L vs:List lU) (e:Int) (k:Nat),zl i L vs=.inr (e,k)->e≠0
 |i,[],vs,e,k,h=>by cases h
 |i,x::r,vs,e,k,h=>by
  unfold zl at h;split at h
  ·cases h;decide
  split at h
  ·cases h;decide
  split at h
  ·cases h;decide
  exact Ob _ _ _ e k h
theorem Oe {L:List lU}{cs:List Cho}{e:Int}(h:xH L cs=.inr (e,k)):e≠0:=by
 unfold xH at h;split at h
 ·cases h;decide
 split at h
 ·cases h;decide
 split at h
 ·rename_i D y;cases h;exact Ob _ _ _ _ _ y
 split at h
 ·cases h;decide
 ·cases h
theorem QG {L:List lU}{ln:Int}{ts:List Tpl}{cs:List Cho}{e:Int}(h:wF L ln ts cs=.inr (e,k)):e≠0:=by
 unfold wF at h;split at h
 ·cases h;decide
 split at h
 ·cases h;decide
 split at h
 ·rename_i h1;cases h;exact h1
 split at h
 ·cases h;decide
 split at h
 ·cases h;decide
 split at h
 ·cases h;decide
 split at h
 ·cases h;decide
 split at h
 ·cases h;decide
 ·cases h
theorem XP {L:List lU}{ln:Int}{st:List Tpl×List Cho}{e:Int}(h:rdV L ln st=.inr (e,k)):e≠0:=by
 unfold rdV at h;split at h
 ·cases h;decide
 split at h
 ·split at h
  ·rename_i y h1;cases h;exact Oe h1
  ·cases h
 split at h
 ·split at h
  ·rename_i y h1;cases h;exact QG h1
  ·cases h
 ·cases h;decide
def Av (s:lU)(w:World)(v:Value)(w':World):Prop:=bW w w'/\match oc s with
 |.inr f=>v=.tuple #[.slice none 0 0,.slice none 0 0,vE f]/\f.1≠0
 |.inl (ts,cs)=>RdI (ts,cs)/\∃a n c b m e S,v=.tuple #[.slice a n c,.slice b m e,vE (0,0,0)]/\Ow kl ah w' NoB a n c ts/\(ptD au S b m e cs).P w'/\bo w.heap.size a/\bo w.heap.size b/\∀g∈S,w.heap.size <=g
def Wg (k2 k3 k4:Nat)(v2 v3:Value)(f:Flt):List Pt:=[ptA k2 aE [v2],ptA k3 aJ [v3],ptA k4 ax (nG f)]
theorem GA {w F:World}{D E y:Nat}{ag aj:Value}{I:Flt}(h:Sp w (Wg D E y ag aj I) F)(f:Flt)(a:Option Addr)(n c:Nat)(b:Option Addr)(m e:Nat):
 ∃wA wB wC,(Instr.storeAt aE (.pointer (some ⟨D,0,none⟩)) (.slice a n c)).run prog F=.ok () wA/\(Instr.storeAt aJ (.pointer (some ⟨E,0,none⟩)) (.slice b m e)).run prog wA=.ok () wB/\(Instr.storeAt ax (.pointer (some ⟨y,0,none⟩)) (vE f)).run prog wB=.ok () wC/\
  Sp w (Wg D E y (.slice a n c) (.slice b m e) f) wC/\Chg [D,E,y] F wA/\Chg [D,E,y] F wB/\Chg [D,E,y] F wC:=by
 obtain⟨wA,ac,Y,U⟩:=h.put jz 0 rfl (i:=0) (v:=.slice a n c) rfl rfl (by show 0<1;decide);obtain⟨wB,ad,M,V⟩:=Y.put kU 1 rfl (i:=0) (v:=.slice b m e) rfl rfl (by show 0<1;decide);have O:aB wB y ax (nG I):=M.at 2 rfl;obtain⟨wC,af,R,J⟩:=di.store0 (P:=prog) (cs:=nG f) rfl (pC _) O rfl;have Z:=M.upd 2 rfl (Chg.grown J mem_cons_self) (p':=ptA y ax (nG f)) R λb aa=>.inl aa;have G:Chg [D,E,y] F wA:=Chg.grown U (by simp);have H:Chg [D,E,y] F wB:=G.trans (Chg.grown V (by simp));exact⟨wA,wB,wC,ac,ad,af,Z,G,H,H.trans (Chg.grown J (by simp))⟩
theorem GB {w W:World}{y D E:Nat}{a:Option Addr}{n c:Nat}{b:Option Addr}{m e:Nat}{f:Flt}(h:Sp w (Wg y D E (.slice a n c) (.slice b m e) f) W):
 (aS aE (.pointer (some ⟨y,0,none⟩))).run prog W=.ok (.slice a n c) W/\(aS aJ (.pointer (some ⟨D,0,none⟩))).run prog W=.ok (.slice b m e) W/\(aS ax (.pointer (some ⟨E,0,none⟩))).run prog W=.ok (vE f) W:=by
 have F:aB W y aE [.slice a n c]:=h.at 0 rfl;have G:aB W D aJ [.slice b m e]:=h.at 1 rfl;have H:aB W E ax (nG f):=h.at 2 rfl;exact⟨aB.res (F.load1 bJ rfl rfl),aB.res (G.load1 cP rfl rfl),aB.res (di.load0 H rfl)⟩
theorem zO (s:lU)(w:World)(he:Env w):Cf lZ #[vS s] w (Ret (Av s w)):=by
 refine yh s (X:=λvs ch W=>∃(f:Flt) (k2 k3 k4:Nat) (v2 v3:Value),oc s=.inr f/\f.1≠0/\vs=[.pointer (some ⟨k2,0,none⟩),.pointer (some ⟨k3,0,none⟩),.pointer (some ⟨k4,0,none⟩)]/\ch=Q8 f/\Sp w (Wg k2 k3 k4 v2 v3 (0,0,0)) W) ?_ (λcap w=>by simp[go_sem]) (λvs W hl=>?_) (λvs ch W hl=>?_)
 rotate_left
 ·match vs,hl with
  |[v0,v1,v2],_=>
   refine(nX v0 v1 v2 Rec.nil (K:=λv w'=>w'=W) rfl).mono ?_;rintro _ _ _ ⟨⟨v,rfl,rfl⟩,rfl⟩;exact⟨⟨v,rfl⟩,rfl,rfl⟩
 ·rintro⟨f,k2,k3,k4,v2,v3,hE,hne,rfl,rfl,hs⟩;refine(kB _ _ _ f.1 f.2.1 f.2.2 (Rec.got _ []) (K:=λv w'=>Sp w (Wg k2 k3 k4 (.slice none 0 0) (.slice none 0 0) f) w') ?_).mono ?_
  ·unfold eB;refine di.new (zs:=nG (0,0,0)) (cs:=nG f) rfl rfl (pC _) W λk5 w5 hk5 A5 b5=>?_;have hd:=dJ w5;generalize drew w5=wd at*;have bdq:=ae b5 hd b5.size;have hsd:=hs.below bdq;have A5:=A5.below hd;obtain⟨wA,wB,wC,qA,qB,qC,hC,cA,cB,cC⟩:=GA hsd f none 0 0 none 0 0;have k5n:k5∉[k2,k3,k4]:=λhm=>by
    have:=(hs.at 0 rfl:aB W k2 aE [v2]).lt;have:=(hs.at 1 rfl:aB W k3 aJ [v3]).lt;have:=(hs.at 2 rfl:aB W k4 ax (nG (0,0,0))).lt;simp at hm;omega
   have l0:=di.load0 (P:=prog) A5 rfl;have lA:=di.load0 (P:=prog) (cA.arr A5 k5n) rfl;have lB:=di.load0 (P:=prog) (cB.arr A5 k5n) rfl;exact⟨⟨f.1,f.2.1,f.2.2,l0,wA,qA,wB,qB,wC,qC,hC⟩,wA,qA,⟨f.1,f.2.1,f.2.2,lA,wB,qB,wC,qC,hC⟩,wB,qB,f.1,f.2.1,f.2.2,lB,wC,qC,hC⟩
  ·rintro _ _ w' ⟨⟨v,rfl,h⟩,rfl⟩;refine⟨⟨v,rfl⟩,rfl,λfr hfr=>?_⟩;have h0:jk fr 2=.pointer (some ⟨k2,0,none⟩):=(List.cons.inj hfr).1;have h1:jk fr 3=.pointer (some ⟨k3,0,none⟩):=(List.cons.inj (List.cons.inj hfr).2).1;have h2:jk fr 4=.pointer (some ⟨k4,0,none⟩):=(List.cons.inj (List.cons.inj (List.cons.inj hfr).2).2).1;obtain⟨r2,r3,r4⟩:=GB h;unfold jP;rw[h0,h1,h2];exact⟨_,_,_,r2,_,_,_,r3,f.1,f.2.1,f.2.2,r4,h.bw,by rw[hE];exact⟨rfl,hne⟩⟩
 unfold kV;intro k2 w2 hk2 hw2 k3 w3 hk3 hw3 k4 w4 hk4 hw4;have b2:=(hw2▸ar w _:bW w w2)
 have b3:=(hw3▸ar w2 _:bW w2 w3)
 have b4:=(hw4▸ar w3 _:bW w3 w4)
 have s2:=b2.size;have s3:=b3.size;have h4:Sp w (Wg k2 k3 k4 (.slice none 0 0) (.slice none 0 0) (0,0,0)) w4:=by
  have h2:=(Sp.nil w).add b2 (p:=ptA k2 aE [.slice none 0 0]) (aB.new hk2 hw2) λb hb=>by rw[List.mem_singleton.1 hb];omega
  have h3:=h2.add b3 (p:=ptA k3 aJ [.slice none 0 0]) (aB.new hk3 hw3) λb hb=>by rw[List.mem_singleton.1 hb];omega
  have h4:=h3.add b4 (p:=ptA k4 ax (nG (0,0,0))) (aB.new hk4 hw4) λb hb=>by rw[List.mem_singleton.1 hb];omega
  exact h4.sub (λi=>2-i) (λi q hq=>match i,hq with|0,hq=>hq|1,hq=>hq|2,hq=>hq) (λi j hi hj e=>by
   have hi:i<3:=hi;have hj:j<3:=hj;omega)
 have lt2:=(h4.at 0 rfl:aB w4 k2 aE [.slice none 0 0]).lt;have lt3:=(h4.at 1 rfl:aB w4 k3 aJ [.slice none 0 0]).lt;have lt4:=(h4.at 2 rfl:aB w4 k4 ax (nG (0,0,0))).lt;refine ab.of (λc1=>?_) (λc1=>?_)
 ·obtain⟨wA,wB,wC,qA,qB,qC,hC,_,_,_⟩:=GA h4 (54,1,1) none 0 0 none 0 0;obtain⟨r2,r3,r4⟩:=GB hC;have e:oc s=.inr (54,1,1):=lO (by have:=of_decide_eq_true c1;omega);exact⟨wA,qA,wB,qB,wC,qC,_,_,_,r2,_,_,_,r3,_,_,_,r4,hC.bw,by rw[e];exact⟨rfl,by decide⟩⟩
 have c1: ¬ 20000<s.length:=by have:=of_decide_eq_false c1;omega
 intro k14 w14 hk14 hw14;have b14:=(hw14▸ar w4 _:bW w4 w14)
 have E4:=he.step (h4.bw);refine aK (ny s (by omega) w14 (E4.step b14)) ?_;rintro _ w16 ⟨b,nb,cb,rfl,ob,fb,b16⟩;have hLn:=nU s;have hMn:=lP s;have hV:oc s=jX Hh 0 ((fF s).drop 0) ([],[]):=jY c1;generalize fF s=M at*;have hnb:=ob.len;subst hnb;let r0:Rdr:=⟨none,0,0,none,0,0,0,none,0,0⟩
 have hs0:Sp w4 (RdP k14 r0 [] [] [] [] [ptO tS ai b M.length cb M]) w16:=by
  have h1:=(Sp.nil w4).add b14 (p:=ptA k14 aR r0.cells) (aB.new hk14 hw14) λg hg=>by rw[List.mem_singleton.1 hg];omega
  have h2:=h1.add b16 (p:=ptO tS ai b M.length cb M) ob λg hg=>fb g (bV.1 hg);have h3:=h2.add (Below.refl _ _) (p:=ptO tS ai none 0 0 []) (Ow.nil _ _ _ _) λg hg=>by cases hg
  have h4:=h3.add (Below.refl _ _) (p:=ptD au [] none 0 0 []) ⟨Ow.nil _ _ _ _,λg hg=>(by cases hg),λg hg=>(by cases hg)⟩ λg hg=>by cases hg
  have h5:=h4.add (Below.refl _ _) (p:=ptO kl ah none 0 0 []) (Ow.nil _ _ _ _) λg hg=>by cases hg
  exact h5.sub (λi=>(i+4)%5) (λi q hq=>match i,hq with|0,hq=>hq|1,hq=>hq|2,hq=>hq|3,hq=>hq|4,hq=>hq) (λi j hi hj e=>by
   have hi:i<5:=hi;have hj:j<5:=hj;omega)
 refine⟨_,_,_,rfl,λm n18 W=>∃(j:Nat) (r:Rdr) (ts:List Tpl) (cs:List Cho) (L:List lU) (S:List Nat),n18=(j:Int)/\m=M.length-j/\j <=M.length/\RdI (ts,cs)/\LW L/\oc s=jX Hh j (M.drop j) (ts,cs)/\Sp w4 (RdP k14 r ts cs L S [ptO tS ai b M.length cb M]) W,
  ⟨_,0,r0,[],[],[],[],rfl,rfl,Nat.zero_le _,⟨Nat.zero_le _,Mi.nil,λt ht=>by cases ht⟩,⟨Nat.zero_le _,λx hx=>by cases hx⟩,hV,hs0⟩,λm n18=>aP.of ?_ _⟩
 rintro wl ⟨j,r,ts,cs,L,S,rfl,rfl,hj,hI,hL,hQ,hs⟩;refine ab.of (λc2=>?_) (λc2=>?_)<;>simp only[dTx,dFx]at c2
 ·have hjl:j<M.length:=by omega
  have ew:i64.wrap ((j:Int)+1)=(j:Int)+1:=wrJ;have hxl:=hLn _ (getElem_mem hjl);have oM:Ow tS ai wl NoB b M.length cb M:=hs.at 4 rfl;refine⟨⟨⟨by omega,c2⟩,oM.all.isSome hjl⟩,M[j],oM.all.text aI hjl,?_⟩;rw[ew];generalize hx:M[j]=x at*;refine gX (w:=wl) (decide (¬ (x=[]\/x.head?=some 35))) (ab.of (λh5=>aK (I3 x [35] wl) ?_) (λh5=>⟨rfl,?_⟩)) (ab.of (λh5=>?_) (λh5=>?_))
  ·rintro _ _ ⟨rfl,rfl⟩;have h5:x≠[]:=by simpa using h5
   refine⟨_,rfl,rfl,?_⟩;rw[(Ah x 35).1];by_cases h6:x.head?=some 35<;>simp[h5,h6]
  ·have h5:x=[]:=by simpa using h5
   simp[h5]
  ·have h5:=of_decide_eq_true h5;obtain⟨wx,qx,hx2,_⟩:=hs.put mE 0 rfl (i:=2) (v:=vI ((j:Int)+1)) rfl rfl (by show 2<4;decide);have hx2:Sp w4 (RdP k14 { r with ln:=(j:Int)+1 } ts cs L S [ptO tS ai b M.length cb M]) wx:=hx2;refine⟨rfl,rfl,wx,qx,(M6 hx2 hL hI x (by omega) E4).mono ?_⟩;have hS:=Jr (i:=j) (st:=(ts,cs)) h5;rintro _ w37 (⟨_,rfl,rfl,ts',cs',r',L',S',e,hI',hL',er,h37⟩|⟨_,rfl,e,i,hE,rfl,hb⟩)
   ·have e:rdV (bE 32 [] x) ((j:Int)+1) (ts,cs)=.inl (ts',cs'):=e;rw[e]at hS;exact .inl ⟨rfl,M.length-(j+1),by omega,j+1,r',ts',cs',L',S',by omega,rfl,by omega,hI',hL',by rw[hQ,je hjl (by rw[hx];exact hS)],h37⟩
   ·have hE:rdV (bE 32 [] x) ((j:Int)+1) (ts,cs)=.inr (e,i):=hE;rw[hE]at hS;exact .inr ⟨_,rfl,(e,(j:Int)+1,(qL (bE 32 [] x) i:Nat)),k2,k3,k4,_,_,by rw[hQ,kw hjl (by rw[hx];exact hS)],XP hE,rfl,rfl,h4.below hb⟩
  ·have h5:x=[]\/x.head?=some 35:=Decidable.byContradiction λh=>of_decide_eq_false h5 h;exact⟨M.length-(j+1),by omega,j+1,r,ts,cs,L,S,by omega,rfl,by omega,hI,hL,by rw[hQ,je hjl (by rw[hx];exact Js h5)],hs⟩
 ·have hd:=dJ wl;generalize drew wl=wd at*;have hs:=hs.below hd;have h4d:=h4.below hs.bw;have Ak:aB wd k14 aR r.cells:=hs.at 0 rfl;have oT:Ow kl ah wd NoB r.a r.n r.c ts:=hs.at 1 rfl;have oC:(ptD au S r.b r.m r.e cs).P wd:=hs.at 2 rfl;have lowT:∀g,fm r.a=some g->w4.heap.size <=g:=λg hg=>hs.low _ (List.mem_of_getElem? (i:=1) rfl) g (bV.2 hg);have Da:∀g∈(fm r.b).toList++S,w4.heap.size <=g:=λg hg=>hs.low _ (List.mem_of_getElem? (i:=2) rfl) g hg;obtain⟨wA,wB,wC,qA,qB,qC,hC,cA,cB,cC⟩:=GA h4d (0,0,0) r.a r.n r.c r.b r.m r.e;have kn:∀g,w4.heap.size <=g->g∉[k2,k3,k4]:=λg hg hm=>by
   simp at hm;omega
  have AkA:=cA.arr Ak (kn k14 (by omega));obtain⟨r2,r3,r4⟩:=GB hC;have b4w:=h4.bw.size;have post:Av s w (.tuple #[.slice r.a r.n r.c,.slice r.b r.m r.e,vE (0,0,0)]) wC:=by
   refine⟨hC.bw,?_⟩;rw[hQ,nM Hh (by omega)];refine⟨hI,r.a,r.n,r.c,r.b,r.m,r.e,S,rfl,?_,?_,λg hg=>Nat.le_trans b4w (lowT g hg),λg hg=>Nat.le_trans b4w (Da g (List.mem_append.2 (.inl (bV.2 hg)))),λg hg=>Nat.le_trans b4w (Da g (List.mem_append.2 (.inr hg)))⟩
   ·exact(ptO kl ah r.a r.n r.c ts).st oT (cC.keep.mono λg hg=>kn g (lowT g (bV.1 hg)))
   ·exact(ptD au S r.b r.m r.e cs).st oC (cC.keep.mono λg hg=>kn g (Da g hg))
  have lT:=Ak.load1 (P:=prog) bJ rfl (i:=0) rfl;have lC:=Ak.load1 (P:=prog) cP rfl (i:=1) rfl;have lCA:=AkA.load1 (P:=prog) cP rfl (i:=1) rfl;exact⟨rfl,rfl,rfl,rfl,⟨_,_,_,lT,⟨_,_,_,lC,wA,qA,wB,qB,wC,qC,_,_,_,r2,_,_,_,r3,_,_,_,r4,post⟩,wA,qA,_,_,_,lCA,wB,qB,wC,qC,_,_,_,r2,_,_,_,r3,_,_,_,r4,post⟩,_,_,_,lC,_,_,_,lT,wA,qA,wB,qB,wC,qC,_,_,_,r2,_,_,_,r3,_,_,_,r4,post⟩
def ER (s:lU):Int:=((s.takeWhile pU).length:Nat)+1
def Dc (_:Nat)(out:List Rul)(x:lU):List Rul ⊕ (Int×Int):=
 if(eZ x).2.2≠0 then .inr ((eZ x).2.2,ER x)
 else if(eZ x).2.1=false then .inl out
 else if(eZ x).1∈out then .inr (52,ER x)
 else if out.length=200 then .inr (53,ER x)
 else .inl (out++[(eZ x).1])
def pJ (s:lU):List Rul ⊕ Flt:=FM Dc [] s
structure Pln where
 ps:List Pat
 ts:List Tpl
 cs:List Cho
 rs:List Rul
def dN (h:Hst):List Txt:=if h.kind=1 then aZ h else[mo h]
def Pln.labs (p:Pln):List Txt:=p.ps.flatMap (λx=>dN x.host)++p.ts.flatMap λt=>dN t.url.host
def Wi (t:Tpl):Req:=⟨t.url.sec,t.url.host,t.url.path,0⟩
def sV (ps:List Pat)(t:Tpl):Bool:=ps.any λp=>wk (Wi t)&&jH p (Wi t)
def rH (a b c:lU):Pln ⊕ (Int×Flt):=match EJ a with
 |.inr f=>.inr (1,f)
 |.inl ps=>match pJ b with
  |.inr f=>.inr (2,f)
  |.inl rs=>match oc c with
   |.inr f=>.inr (3,f)
   |.inl st=>match st.1.find? λt=> !sV ps t with
    |some t=>.inr (3,231,t.line,1)
    |none=>if 512<(va (⟨ps,st.1,st.2,rs⟩:Pln).labs).length+1 then .inr (1,53,1,1)else .inl ⟨ps,st.1,st.2,rs⟩
theorem QM (r:lU)(b:Bool):(NB r b).1.host.name.length <=253:=by
 unfold NB;split
 ·show([]:lU).length <=253;decide
 ·rename_i h y;split
  ·show([]:lU).length <=253;decide
  ·split
   ·unfold qk at y;split at y
    ·cases y
    ·exact nP y
   ·show([]:lU).length <=253;decide
theorem QN (s:lU):(vi s).1.host.name.length <=253:=by
 unfold vi;split
 ·show([]:lU).length <=253;decide
 ·exact QM _ _
theorem PP (a b c:lU):(M1 a b c).1.host.name.length <=253:=by
 unfold M1;split
 ·show([]:lU).length <=253;decide
 ·rename_i h y;split
  ·show([]:lU).length <=253;decide
  split
  ·show([]:lU).length <=253;decide
  split
  ·show([]:lU).length <=253;decide
  ·exact nP y
theorem MZ (s:lU):(dA s).1.host.name.length <=253:=by
 unfold dA;split
 ·show([]:lU).length <=253;decide
 unfold Rc;split
 ·split
  ·exact PP _ _ _
  ·show([]:lU).length <=253;decide
 ·show([]:lU).length <=253;decide
def Yt (ps:List Pat):Prop:=ps.length <=12/\∀p∈ps,p.ok/\p.host.name.length <=253
theorem L8 {ps:List Pat}(h:EJ s=.inl ps):Yt ps:=by
 refine A0 (step:=CK) Yt (λi s x s' y h=>?_) (s0:=[]) ⟨by decide,λp hp=>(by cases hp)⟩ h;unfold CK at h;split at h
 ·cases h;exact y
 split at h
 ·cases h
 split at h
 ·cases h
 split at h
 ·cases h
 rename_i D;cases h;refine⟨by have:=y.1;rw[length_append,length_singleton];omega,λp hp=>?_⟩;rcases List.mem_append.1 hp with hp|hp
 ·exact y.2 p hp
 ·rw[mem_singleton]at hp;rw[hp];exact⟨Gx x,MZ x⟩
def X4 (ts:List Tpl):Prop:=∀t∈ts,t.url.host.name.length <=253
theorem SM {L:List lU}{ln:Int}{ts:List Tpl}{cs:List Cho}{t:Tpl}(e:wF L ln ts cs=.inl t):∃s,t.url=(vi s).1:=by
 unfold wF at e;split at e
 ·cases e
 split at e
 ·cases e
 split at e
 ·cases e
 split at e
 ·cases e
 split at e
 ·cases e
 split at e
 ·cases e
 split at e
 ·cases e
 split at e
 ·cases e
 ·cases e;exact⟨_,rfl⟩
def X5 (ts:List Tpl):Prop:=∀t∈ts,∃s,t.url=(vi s).1
theorem Vn {L:List lU}{ln:Int}{st st':List Tpl×List Cho}(h:X5 st.1)(e:rdV L ln st=.inl st'):X5 st'.1:=by
 unfold rdV at e;split at e
 ·cases e
 split at e
 ·split at e
  ·cases e
  ·cases e;exact h
 split at e
 ·split at e
  ·cases e
  ·rename_i t D;cases e;intro E y;rcases List.mem_append.1 y with y|y
   ·exact h E y
   ·rw[mem_singleton]at y;rw[y];exact SM D
 ·cases e
theorem Jq {st:List Tpl×List Cho}(h:oc s=.inl st):X5 st.1:=by
 refine A0 (step:=Hh) (λst=>X5 st.1) (λi s x s' y h=>?_) (s0:=([],[])) (λt D=>(by cases D)) h;unfold Hh at h;split at h
 ·cases h;exact y
 split at h
 ·rename_i st' e;cases h;exact Vn y e
 ·cases h
theorem Jp {st:List Tpl×List Cho}(h:oc s=.inl st):X4 st.1:=λt y=>by
 obtain⟨s,e⟩:=Jq h t y;rw[e];exact QN s
def ZE (rs:List Rul):Prop:=rs.length <=200/\∀r∈rs,r.2.length <=253
theorem MM (s:lU):(eZ s).1.2.length <=253:=by
 unfold eZ;split
 ·show([]:lU).length <=253;decide
 ·unfold MP;split
  ·show([]:lU).length <=253;decide
  ·rename_i h y;split
   ·exact nP y
   ·show([]:lU).length <=253;decide
theorem Qe {rs:List Rul}(h:pJ s=.inl rs):ZE rs:=by
 refine A0 (step:=Dc) ZE (λi s x s' y h=>?_) (s0:=[]) ⟨by decide,λp hp=>(by cases hp)⟩ h;unfold Dc at h;split at h
 ·cases h
 split at h
 ·cases h;exact y
 split at h
 ·cases h
 split at h
 ·cases h
 rename_i D;cases h;refine⟨by have:=y.1;rw[length_append,length_singleton];omega,λp hp=>?_⟩;rcases List.mem_append.1 hp with hp|hp
 ·exact y.2 p hp
 ·rw[mem_singleton]at hp;rw[hp];exact MM x
end Go.Pk
