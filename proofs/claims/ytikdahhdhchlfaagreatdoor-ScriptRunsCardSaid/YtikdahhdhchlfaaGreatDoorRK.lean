/- What the laws lean on: Chg, RulB, SufP, Row, SufA, SufB, SufC, SufD, HdrD, HdrE, HdrF, V2; what is used. Its conditions: none. -/
import Derived.Test.YtikdahhdhchlfaaGreatDoorRJ
import Derived.Lib.Bytes2
set_option linter.unusedVariables false
set_option linter.unusedSimpArgs false
set_option linter.unusedSectionVars false
set_option maxRecDepth 100000
open List (append_nil drop_eq_getElem_cons filter_cons foldl_append foldl_cons getElem_mem length length_append length_cons length_drop length_map length_nil length_take map_append map_cons map_nil mem_singleton nil_append replicate take_append_drop take_length take_of_length_le take_succ_eq_append_getElem take_take)
open Option (map_some)
variable {n m i j k:Nat}{w:Go.World}{t:Go.TypeId}{p:Option Go.Addr}{h:Go.Pk.Hst}{z:List (List Bool)}{A:Go.Pk.Bl}{s:List UInt8}{P:Go.Program}
open Go.IntKind (i64)
open Go.Proofs.Tryz
open List (length)
open Option (isSome)
namespace Go.Pk
open Go.RowKit (Below)
open Go.Proofs
structure Chg (S:List Nat)(w w':World):Prop where
 os:w'.os=w.os
 tape:w'.tape=w.tape
 output:w'.output=w.output
 size:w.heap.size <=w'.heap.size
 block:∀k,k<w.heap.size->k∉S->w'.heap[k]? =w.heap[k]?
theorem Chg.refl (S:List Nat)(w:World):Chg S w w:=⟨rfl,rfl,rfl,Nat.le_refl _,λ_ _ _=>rfl⟩
theorem Chg.trans {S:List Nat}{a b c:World}(h:Chg S a b)(k:Chg S b c):Chg S a c:=
 ⟨k.os.trans h.os,k.tape.trans h.tape,k.output.trans h.output,Nat.le_trans h.size k.size,λi e q=>(k.block i (Nat.lt_of_lt_of_le e h.size) q).trans (h.block i e q)⟩
theorem Chg.of {S:List Nat}{w w':World}(h:bW w w'):Chg S w w':=⟨h.os,h.tape,h.output,h.size,λk e _=>h.block k e⟩
theorem Chg.grown {S:List Nat}{w w':World}{r:Nat}(h:w.grownBy w' (some r))(D:r∈S):Chg S w w':=
 ⟨h.os,h.tape,h.output,h.size,λk q E=>h.block k q λe=>E (by cases e;exact D)⟩
theorem Chg.mono {S e:List Nat}{w w':World}(h:Chg S w w')(G:∀k∈S,k∈e):Chg e w w':=⟨h.os,h.tape,h.output,h.size,λk q E=>h.block k q λD=>E (G k D)⟩
theorem Chg.below {S:List Nat}{B:Nat}{w w':World}(h:Chg S w w')(hB:B <=w.heap.size)(q:∀k∈S,B <=k):Below B w w':=
 ⟨h.os,h.tape,h.output,h.size,λk D=>h.block k (by omega) λe=>by have:=q k e;omega⟩
theorem Chg.none {w w':World}(h:Chg [] w w'):bW w w':=h.below (Nat.le_refl _) λk e=>by cases e
theorem Chg.keep {S:List Nat}{w w':World}(h:Chg S w w'):KU (λb=>b∉S) w w':=⟨h.size,λb q e=>h.block b q e⟩
theorem Chg.arr {S:List Nat}{w w':World}(h:Chg S w w'){vs:List Value}(e:au w k t vs)(q:k∉S):au w' k t vs:=e.block (h.block k e.lt q)
theorem Chg.step {S:List Nat}{a b c:World}(h:Chg S a b)(k:bW b c):Chg S a c:=h.trans (Chg.of k)
theorem Chg.put {S:List Nat}{a b c:World}{r:Nat}(h:Chg S a b)(k:b.grownBy c (some r))(E:a.heap.size <=r):Chg S a c:=
 ⟨k.os.trans h.os,k.tape.trans h.tape,k.output.trans h.output,Nat.le_trans h.size k.size,λi e D=>(k.block i (Nat.lt_of_lt_of_le e h.size) (λq=>by cases q;omega)).trans (h.block i e D)⟩
theorem WC {t:lU}(h:t.all (λc=> !mJ c)=true):lE t=t:=by
 unfold lE;induction t with
 |nil=>rfl
 |cons c t e=>
  rw[List.all_cons,Bool.and_eq_true]at h;rw[List.takeWhile_cons,h.1,if_pos rfl,e h.2]
theorem VL {t:lU}(q:k<t.length)(h:(t.take k).all (λc=> !mJ c)=true)(e:mJ t[k]=true):t.take k=lE t:=by
 unfold lE
 conv=>rhs;rw[<- take_append_drop k t]
 rw[List.takeWhile_append_of_pos (by intro x D;exact List.all_eq_true.1 h x D),drop_eq_getElem_cons q,List.takeWhile_cons,e];simp
theorem JX (s:lU)(dx:s.length <=90000000)(w:World):Cf rN #[vS s] w (Ret (Of s w)):=by
 apply Hq;intro k2 H de cu;have Y:=(cu▸ao w _:bW w H)
 have D:au H k2 aJ (xA (0,[])):=au.new de cu;have bq:w.heap.size <=k2:=by omega
 have d2:=MC s;refine aA (mb s (by omega) H) ?_;rintro _ d3 ⟨rfl,c0⟩;rw[c0];clear c0;refine⟨_,rfl,?_⟩;have hV:jn s=if trimB s=[]\/Lib.hasPrefix (trimB s) [47,47]=true then((0,[]),false,0)else SL (oG (lE (trimB s))).1 (bV (oG (lE (trimB s))).2):=rfl;generalize trimB s=t at*;refine jA (w:=H) (¬ (t=[]\/Lib.hasPrefix t [47,47]=true)) ?_ (λda=>?_)
 ·refine gS (w:=H) (decide (t=[]\/Lib.hasPrefix t [47,47]=true)) ?_ ?_
  ·refine af.of (λh=>⟨rfl,by rw[decide_eq_true (.inl (eq_of_beq h))]⟩) (λh=>?_);refine aA (mO t [47,47] H) ?_;rintro _ d4 ⟨rfl,dr⟩;refine⟨_,rfl,dr,?_⟩;rw[Bool.eq_iff_iff,dTx];exact⟨.inr,λe=>e.elim (λe=>absurd e (beq_eq_false_iff_ne.1 h)) id⟩
  ·refine af.of (λh=>?_) (λh=>⟨rfl,of_decide_eq_false h⟩);exact Aj (0,[]) D rfl Y bq λc5 Z=>⟨by rw[hV,if_pos (of_decide_eq_true h)],Z⟩
 ·rw[if_neg da]at hV;have d0:=K8 t;refine⟨λm c i w'=>w'=H/\((c=t/\∃k:Nat,k <=t.length/\i=(k:Int)/\m=t.length+1-k/\(t.take k).all (λc=> !mJ c)=true)\/(c=lE t/\i=((lE t).length:Int)+1/\m=0)),⟨_,rfl,.inl ⟨rfl,0,by omega,rfl,rfl,rfl⟩⟩,?_⟩;intro m c i;refine aQ.of ?_ _;rintro w' ⟨ct,b1⟩;rw[ct];clear ct;refine af.of (λh=>?_) (λh=>?_)<;>simp only[dTx,dFx]at h
  ·rcases b1 with⟨cj,k,dd,rfl,rfl,I⟩|⟨rfl,rfl,rfl⟩
   ·rw[cj]at h ⊢;clear cj;have ad:k<t.length:=by omega
    have cn:(0 <=(k:Int)/\(k:Int)<((t.length:Nat):Int)):=⟨by omega,h⟩
    have b7:=im t[k] 32;have b8:=im t[k] 9;rw[show(((32:UInt8).toNat:Nat):Int)=32 from rfl]at b7;rw[show(((9:UInt8).toNat:Nat):Int)=9 from rfl]at b8;rw[byte_at ad,b7,b8];refine gS (w:=H) (mJ t[k]) ?_ ?_
    ·refine⟨cn,af.of (λD=>⟨rfl,?_⟩) (λD=>⟨cn,rfl,?_⟩)⟩
     ·unfold mJ;rw[D];rfl
     ·unfold mJ;rw[D,Bool.false_or]
    ·refine af.of (λD=>⟨⟨by omega,by omega⟩,?_⟩) (λD=>?_)
     ·rintro _ rfl;rw[Int.toNat_natCast,VL ad I D];have c6:=congrArg length (VL ad I D);rw[length_take]at c6;exact⟨0,by omega,rfl,.inr ⟨rfl,by rw[wrJ];omega,rfl⟩⟩
     ·exact⟨t.length+1-(k+1),by omega,rfl,.inl ⟨rfl,k+1,by omega,by rw[wrJ];omega,rfl,by rw[take_succ_eq_append_getElem ad,List.all_append,I];simp[D]⟩⟩
   ·exfalso;omega
  ·have ch:c=lE t:=by
    rcases b1 with⟨rfl,k,dd,rfl,rfl,I⟩|⟨e,-,-⟩
    ·have:k=c.length:=by omega
     subst this;rw[take_length]at I;exact(WC I).symm
    ·exact e
   rw[ch];rw[Si]at hV;clear b1 ch h;generalize lE t=u at*;intro k6 c4 dg c1;have cf:=(c1▸ao H _:bW H c4)
   have c9:=ae Y cf Y.size;obtain⟨b3,dp,a8,cl⟩:=hZ.store0 (P:=prog) (cs:=xA (1,[])) rfl (Ak _) (au.new dg c1:au c4 k6 aJ (xA (0,[]))) rfl;have dw:=D.lt;have ag:k2≠k6:=by omega
   have ac:w.heap.size <=k6:=by have:=Y.size;omega
   have ar:=(D.below cf).grown cl (bA ag);have bb:=Below.put c9 cl ac;refine⟨b3,dp,?_⟩;refine⟨λn w'=>∃k,jn s=SL k (bV n)/\n.length <=u.length/\au w' k6 aJ (xA (k,[]))/\au w' k2 aJ (xA (0,[]))/\bW w w',?_,?_⟩
   ·refine aA (mO u [33] b3) ?_;rintro _ b4 ⟨rfl,U⟩;rw[U];clear U;refine⟨_,rfl,af.of (λq=>?_) (λq=>?_)⟩
    ·rw[if_pos q]at hV;obtain⟨V,b0,a9,O⟩:=a8.put (P:=prog) fR (i:=0) (v:=vI 3) (by decide) rfl rfl;have dk:1 <=u.length:=by have:=Lib.hasPrefix_le q;simpa using this
     refine⟨rfl,V,b0,⟨by decide,by omega⟩,?_⟩;rintro _ rfl;exact⟨3,hV,by simp,a9,ar.grown O (bA ag),Below.put bb O ac⟩
    rw[if_neg (by rw[q];decide)]at hV;refine aA (mO u [42,46] b3) ?_;rintro _ b4 ⟨rfl,U⟩;rw[U];clear U;refine⟨_,rfl,af.of (λE=>?_) (λE=>?_)⟩
    ·rw[if_pos E]at hV;obtain⟨V,b0,a9,O⟩:=a8.put (P:=prog) fR (i:=0) (v:=vI 2) (by decide) rfl rfl;have dk:2 <=u.length:=by have:=Lib.hasPrefix_le E;simpa using this
     refine⟨rfl,V,b0,⟨by decide,by omega⟩,?_⟩;rintro _ rfl;exact⟨2,hV,by simp,a9,ar.grown O (bA ag),Below.put bb O ac⟩
    ·rw[if_neg (by rw[E];decide)]at hV;exact⟨1,hV,Nat.le_refl _,a8,ar,bb⟩
   ·intro n;refine aQ.of ?_ _;rintro b4 ⟨k,hV,cp,c8,c7,cc⟩;refine aA (oH n (by omega) b4) ?_;rintro _ V ⟨rfl,bk⟩;have ce:=ae cc bk cc.size;rw[ii];refine⟨_,_,rfl,?_⟩;have aj:=kZ λx e=>gG (s:=n) e;refine aR.new (zs:=gO.cells) (cs:=((bV n).getD gO).cells) rfl (Hst.len aj) (Hst.one _) V λd1 b2 ds M bj=>?_;have X:=ae ce bj ce.size;have ca:=(c7.below bk).below bj;have cb:=(c8.below bk).below bj;refine eC (λw'=>∃h:Hst,bV n=some h/\jn s=((k,h.name),true,0)/\bW b2 w') ?_ ?_
    ·refine rv (λb w'=>b=decide (jn s=((0,[]),false,51))/\bW b2 w'/\(b=false->∃h:Hst,bV n=some h/\jn s=((k,h.name),true,0))) ?_ ?_
     ·cases bs:bV n with
      |none=>
       rw[bs]at hV;exact af.yes rfl ⟨by rw[hV];rfl,Below.refl _ _,λe=>by cases e⟩
      |some h=>
       rw[bs]at hV M aj;have hV:jn s=if h.kind=1/\ ¬ (k=3/\(aF h).length<2)then((k,h.name),true,0)else((0,[]),false,51):=hV;have b5: ¬ (h.kind=1/\ ¬ (k=3/\(aF h).length<2))->(true:Bool)=decide (jn s=((0,[]),false,51)):=λe=>by rw[hV,if_neg e];rfl
       have b9:(h.kind=1/\ ¬ (k=3/\(aF h).length<2))->(false:Bool)=decide (jn s=((0,[]),false,51))/\(∃h':Hst,some h=some h'/\jn s=((k,h'.name),true,0)):=λe=>by
        rw[hV,if_pos e];exact⟨(decide_eq_false (by intro e;have:=congrArg (λz=>z.2.1) e;cases this)).symm,h,rfl,rfl⟩
       refine af.no rfl ⟨rfl,_,M.load1 bC rfl rfl,af.of (λq=>⟨b5 λe=>?_,Below.refl _ _,λe=>by cases e⟩) (λq=>?_)⟩
       ·have q:(h.kind !=1)=true:=q;rw[e.1]at q;simp at q
       have q:(h.kind !=1)=false:=q;have q:h.kind=1:=by simpa using q
       refine⟨rfl,_,cb.load1 bC rfl rfl,af.of (λE=>?_) (λE=>?_)⟩
       ·have E:k=3:=eq_of_beq E;refine⟨_,aR.load0 M (Hst.len aj),?_⟩;have cp:h.name.length <=80000000:=by have:=ui bs;omega
        refine aA (fG aj cp b2) ?_;rintro _ c2 ⟨a,l,c,rfl,dl,-,G⟩;refine⟨_,_,_,rfl,?_⟩;have cr:=dl.len;simp only[Option.getD_some]at cr;rw[cr];by_cases b6:(aF h).length<2
        ·try dsimp only
         rw[decide_eq_true (show(((aF h).length:Nat):Int)<2 by omega)];exact⟨b5 λe=>e.2 ⟨E,b6⟩,G,λe=>by cases e⟩
        ·try dsimp only
         rw[decide_eq_false (show ¬ (((aF h).length:Nat):Int)<2 by omega)];have g:=b9 ⟨q,λe=>b6 e.2⟩;exact⟨g.1,G,λ_=>g.2⟩
       ·have g:=b9 ⟨q,λe=>by rw[e.1]at E;cases E⟩;exact⟨g.1,Below.refl _ _,λ_=>g.2⟩
     ·rintro b c2 ⟨Z,G,dc⟩;refine af.of (λc=>?_) (λc=>?_)
      ·rw[c,eq_comm,dTx]at Z;exact Aj (0,[]) (ca.below G) rfl (ae X G X.size) bq λc5 bc=>⟨by rw[Z],bc⟩
      ·obtain⟨h,al,an⟩:=dc c;exact⟨h,al,an,G⟩
    ·rintro c2 ⟨h,al,an,G⟩;rw[al]at M;refine⟨rfl,_,(M.below G).load1 ax rfl rfl,rfl,?_⟩;obtain⟨c3,dn,a0,ck⟩:=(cb.below G).put (P:=prog) cK (i:=1) (v:=vS h.name) (show 1<2 by decide) rfl rfl;have a0:au c3 k6 aJ (xA (k,h.name)):=a0;refine⟨c3,dn,_,_,hZ.load0 a0 rfl,?_⟩;exact Aj (k,h.name) ((ca.below G).grown ck (bA ag)) rfl (Below.put (ae X G X.size) ck ac) bq λc5 bc=>⟨by rw[an],bc⟩
theorem GS (r:Rul)(a8:r.2.length <=80000000)(w:World):Cf qb #[Qo r] w (Ret λv w'=>v=.bool (eo r)/\bW w w'):=by
 obtain⟨k,n⟩:=r;apply Fk;intro bb M ar Y;have O:=(Y▸ao w _:bW w M)
 have h1:au M bb aJ (xA (k,n)):=au.new ar Y;simp only at a8;refine⟨_,_,hZ.load0 h1 rfl,?_⟩;refine aA (JY (k,n) (by simp only;omega) M) ?_;rintro _ bj ⟨rfl,H⟩;have U:=ae O H O.size;refine⟨_,rfl,?_⟩;have bs:(sn k).length <=2:=by unfold sn;split;decide;split;decide;decide
 refine aA (JX (nj (k,n)) (by unfold nj;simp;omega) bj) ?_;rintro _ ac ⟨rfl,I⟩;have D:=ae U I U.size;refine⟨_,_,_,_,rfl,?_⟩;intro bc ad a0 Z;have V:=(Z▸ao ac _:bW ac ad)
 have an:=ae D V D.size;have G:eo (k,n)=(((jn (nj (k,n))).2.2==0)&&((jn (nj (k,n))).2.1&&NQ (jn (nj (k,n))).1 (k,n))):=rfl;generalize jn (nj (k,n))=x at*;obtain⟨r,b,bk⟩:=x;obtain⟨ag,a9,al,X⟩:=hZ.store0 (P:=prog) (cs:=xA r) rfl (Ak _) (au.new a0 Z:au ad bc aJ (xA (0,[]))) rfl;have bq:=((h1.below H).below I).lt;have aj:=(((h1.below H).below I).below V).grown X (bA (by omega));have E:=Below.put an X (by have:=D.size;omega);refine⟨ag,a9,af.of (λe=>?_) (λe=>⟨by rw[G];simp only at e ⊢;rw[e];rfl,E⟩)⟩;refine af.of (λq=>?_) (λq=>⟨by rw[G];simp only at e q ⊢;rw[e,q];rfl,E⟩);refine⟨_,_,hZ.load0 al rfl,_,_,hZ.load0 aj rfl,_,VW r (k,n) ag,?_,E⟩;rw[G];simp only at e q ⊢;rw[e,q];rfl
abbrev Pth:=List lU
def dm (r:Rul):Pth:=(bR 46 [] r.2).reverse
def Gl (p:Pth):List Pth->Nat->Option Nat
 |[],_=>none
 |q::l,i=>if p=q then some i else Gl p l (i+1)
theorem o0 {p:Pth} :∀{l:List Pth} {i:Nat},Gl p l i=none↔p∉l
 |[],i=>by simp[Gl]
 |q::l,i=>by
  unfold Gl;by_cases h:p=q
  ·simp[h]
  ·rw[if_neg h,o0];simp[h]
theorem o7 {p:Pth} :∀{l:List Pth} {i j:Nat},Gl p l i=some j->i <=j/\l[j-i]? =some p
 |[],i,j,h=>by cases h
 |D::l,i,j,h=>by
  unfold Gl at h;split at h
  ·rename_i e;cases h;exact⟨Nat.le_refl _,by rw[Nat.sub_self,e];rfl⟩
  ·obtain⟨h1,q⟩:=o7 h;exact⟨by omega,by rw[show j-i=(j-(i+1))+1 by omega];exact q⟩
theorem Dd (p q:Pth):∀(l:List Pth) (i:Nat),Gl p (l++[q]) i=(Gl p l i).or (if p=q then some (i+l.length)else none)
 |[],i=>by
  show(if p=q then some i else none)=_;split<;>rfl
 |x::l,i=>by
  show(if p=x then some i else Gl p (l++[q]) (i+1))=(if p=x then some i else Gl p l (i+1)).or _;split
  ·rfl
  ·rw[Dd p q l (i+1)];congr 2;simp;omega
abbrev jZ:=Int×lU
structure QF (ps:List Pth)(kvs:List (jZ×Int)):Prop where
 root:ps[0]? =some []
 first:∀(i:Nat) p,ps[i]? =some p->Gl p ps 0=some i
 closed:∀p l,p++[l]∈ps->p∈ps
 edge:∀(n:Nat) (l:lU),dI ((n:Int),l) kvs=match ps[n]? with
  |some p=>(Gl (p++[l]) ps 0).map λi=>(i:Int)
  |none=>none
theorem Vm:QF [[]] [] where
 root:=rfl
 first:=by
  intro i p h
  match i,h with
  |0,h=>cases h;rfl
 closed:=by intro p l h;simp at h
 edge:=by
  intro n l
  match n with
  |0=>rfl
  |n+1=>rfl
theorem QF.pos {e:List Pth}{D:List (jZ×Int)}(t:QF e D){p:Pth}(h:p∈e):∃i,Gl p e 0=some i/\e[i]? =some p:=by
 cases q:Gl p e 0 with
 |none=>exact absurd h (o0.1 q)
 |some i=>exact⟨i,rfl,by simpa using(o7 q).2⟩
theorem QF.grow {e:List Pth}{V:List (jZ×Int)}(t:QF e V){p:Pth}{l:lU}(D:e[n]? =some p)(U:p++[l]∉e):QF (e++[p++[l]]) (V++[(((n:Int),l),(e.length:Int))]) where
 root:=by
  have:=t.root;rw[List.getElem?_append_left (by have:=(List.getElem?_eq_some_iff.1 this).1;exact this)];exact this
 first:=by
  intro i q h;rw[Dd];by_cases X:i<e.length
  ·rw[List.getElem?_append_left X]at h;rw[t.first i q h];rfl
  ·rw[List.getElem?_append_right (by omega)]at h;have G:i=e.length:=by
    have:=(List.getElem?_eq_some_iff.1 h).1;simp at this;omega
   subst G;rw[Nat.sub_self]at h;cases h;rw[o0.2 U,if_pos rfl];simp
 closed:=by
  intro q x h;rw[List.mem_append]at h ⊢;rcases h with h|h
  ·exact .inl (t.closed q x h)
  ·rw[mem_singleton]at h;have:=List.append_inj_left' h rfl;subst this;exact .inl (List.mem_of_getElem? D)
 edge:=by
  intro m x;rw[yb,t.edge m x];by_cases O:m<e.length
  ·rw[List.getElem?_append_left O];obtain⟨q,I⟩:∃q,e[m]? =some q:=⟨_,List.getElem?_eq_getElem O⟩
   rw[I];simp only;rw[Dd];have M:(((m:Int),x)=((n:Int),l))↔(q++[x]=p++[l]):=by
    constructor
    ·intro h;have h1:m=n:=by have:=congrArg Prod.fst h;simp at this;omega
     have H:x=l:=congrArg Prod.snd h;subst h1 H;rw[I]at D;rw[Option.some.inj D]
    ·intro h;have h1:=List.append_inj_left' h rfl;have H:=List.append_inj_right' h rfl;subst h1;have:=(t.first m q I).symm.trans (t.first n q D);rw[Option.some.inj this,List.singleton_inj.1 H]
   cases Z:Gl (q++[x]) e 0 with
   |some i=>rfl
   |none=>
    by_cases E:q++[x]=p++[l]
    ·rw[if_pos (M.2 E),if_pos E];simp
    ·rw[if_neg (λh=>E (M.1 h)),if_neg E];rfl
  ·have Y:n<e.length:=(List.getElem?_eq_some_iff.1 D).1;rw[List.getElem?_eq_none (l:=e) (by omega)];rw[if_neg (λh=>by have:=congrArg Prod.fst h;simp at this;omega)];by_cases G:m=e.length
   ·subst G;rw[List.getElem?_append_right (Nat.le_refl _),Nat.sub_self];simp only[List.getElem?_cons_zero];have h1:Gl (p++[l]++[x]) (e++[p++[l]]) 0=none:=by
     rw[o0,List.mem_append,mem_singleton];rintro(h|h)
     ·exact U (t.closed _ _ h)
     ·have:=congrArg length h;simp at this
    rw[h1];rfl
   ·rw[List.getElem?_append_right (by omega),List.getElem?_eq_none (l:=[p++[l]]) (by simp;omega)];rfl
def marks (rs:List Rul)(p:Pth):List Bool:=(List.range 4).map fun(k:Nat)=>rs.any λr=>decide (r.1=(k:Int)/\dm r=p)
theorem yc (rs:List Rul)(p:Pth):(marks rs p).length=4:=by simp[marks]
theorem Ew (rs:List Rul)(p:Pth)(k:Nat)(h:k<4):(marks rs p)[k]? =some (rs.any λr=>decide (r.1=(k:Int)/\dm r=p)):=by
 unfold marks;rw[List.getElem?_map,List.getElem?_range h];rfl
structure Tab (ps:List Pth)(es:List (List Bool))(rs:List Rul):Prop where
 len:es.length=ps.length
 mark:∀(i:Nat) p,ps[i]? =some p->es[i]? =some (marks rs p)
 rules:∀r∈rs,dm r∈ps
theorem Xr:Tab [[]] [[false,false,false,false]] [] where
 len:=rfl
 mark:=by
  intro i p h
  match i,h with
  |0,h=>cases h;rfl
 rules:=by intro r h;cases h
theorem Tab.grow {e:List Pth}{rs:List Rul}(t:Tab e z rs){D:Pth}(H:D∉e):Tab (e++[D]) (z++[[false,false,false,false]]) rs where
 len:=by rw[length_append,length_append,t.len];rfl
 mark:=by
  intro i p h;by_cases E:i<e.length
  ·rw[List.getElem?_append_left E]at h;rw[List.getElem?_append_left (by rw[t.len];exact E)];exact t.mark i p h
  ·rw[List.getElem?_append_right (by omega)]at h;have G:i=e.length:=by
    have:=(List.getElem?_eq_some_iff.1 h).1;simp at this;omega
   subst G;rw[Nat.sub_self]at h;cases h;rw[List.getElem?_append_right (by rw[t.len];exact Nat.le_refl _),t.len,Nat.sub_self];show some _=some _;congr 1;have:∀k:Nat,(rs.any λr=>decide (r.1=(k:Int)/\dm r=D))=false:=λk=>by
    rw[List.any_eq_false];intro r q;simp only[dTx];rintro⟨-,he⟩;exact H (he▸t.rules r q)
   unfold marks;simp only[List.range_succ,List.range_zero,map_append,map_nil,map_cons,nil_append,this];rfl
 rules:=λr q=>List.mem_append_left _ (t.rules r q)
theorem Tab.rule {q:List Pth}{X:List (jZ×Int)}{rs:List Rul}(T:QF q X)(t:Tab q z rs){r:Rul}(H:r.1=(k:Int))(D:q[n]? =some (dm r))(M:k<4):
 Tab q (z.set n ((marks rs (dm r)).set k true)) (rs++[r]) where
 len:=by rw[List.length_set,t.len]
 mark:=by
  intro i p h;have U:n<q.length:=(List.getElem?_eq_some_iff.1 D).1;by_cases E:n=i
  ·subst E;have V:p=dm r:=by rw[D]at h;exact(Option.some.inj h).symm
   subst V;rw[List.getElem?_set_self (by rw[t.len];exact U)];congr 1;apply List.ext_getElem?;intro j;by_cases G:j<4
   ·rw[Ew _ _ _ G,List.getElem?_set,yc];by_cases I:k=j
    ·subst I;rw[if_pos rfl,if_pos M,List.any_append];simp[H]
    ·rw[if_neg I,Ew _ _ _ G,List.any_append];have: ¬ r.1=(j:Int):=by rw[H];omega
     simp[this]
   ·rw[List.getElem?_eq_none (by simp[yc];omega),List.getElem?_eq_none (by rw[yc];omega)]
  ·rw[List.getElem?_set_ne E,t.mark i p h];congr 1;unfold marks;apply List.map_congr_left;intro k' _;rw[List.any_append];have:dm r≠p:=by
    intro O;subst O;have:=(T.first i _ h).symm.trans (T.first n _ D);exact E (Option.some.inj this).symm
   simp[this]
 rules:=by
  intro x e;rcases List.mem_append.1 e with e|e
  ·exact t.rules x e
  ·rw[mem_singleton]at e;subst e;exact List.mem_of_getElem? D
structure Top (d:Nat)(S:Nat->Prop)(m:Nat):Prop where
 is:m=d\/S m
 ge:d <=m
 le:∀x,S x->x <=m
theorem Top.eq {d:Nat}{S:Nat->Prop}(h:Top d S m)(h':Top d S n):m=n:=by
 have a:m <=n:=by rcases h.is with e|e;rw[e];exact h'.ge;exact h'.le _ e
 have b:n <=m:=by rcases h'.is with e|e;rw[e];exact h.ge;exact h.le _ e
 omega
theorem Top.congr {d:Nat}{S e:Nat->Prop}(h:Top d S m)(q:∀x,S x↔e x):Top d e m:=⟨h.is.imp id (q m).1,h.ge,λx D=>h.le x ((q x).2 D)⟩
theorem Top.zero (d:Nat):Top d (λ_=>False) d:=⟨.inl rfl,Nat.le_refl _,λ_ h=>h.elim⟩
theorem Top.max {d:Nat}{S:Nat->Prop}(h:Top d S m)(x:Nat):Top d (λy=>S y\/y=x) (max m x):=by
 by_cases c:m <=x
 ·rw[Nat.max_eq_right c];exact⟨.inr (.inr rfl),Nat.le_trans h.ge c,λy e=>e.elim (λe=>Nat.le_trans (h.le y e) c) (λe=>by omega)⟩
 ·rw[Nat.max_eq_left (by omega)];exact⟨h.is.imp id .inl,h.ge,λy e=>e.elim (h.le y) (λe=>by omega)⟩
def lX (rs:List Rul)(R:Pth)(n1 n2 x:Nat):Prop:=∃r∈rs,dm r=R.take (dm r).length/\(r.1=1/\(dm r).length <=n1/\(dm r).length=x\/r.1=2/\(dm r).length <=n2/\(dm r).length+1=x)
def gz (rs:List Rul)(R:Pth)(n x:Nat):Prop:=∃r∈rs,dm r=R.take (dm r).length/\r.1=3/\(dm r).length <=n/\(dm r).length-1=x
theorem Zf (g i k j:Nat):av (av (some ⟨g,0,none⟩) (i:Int) k) (j:Int) 1=some ⟨g,i*k+j,none⟩:=by
 rw[j3,j3];simp
theorem UW {α:Type}(l:List α)(p k j:Nat)(v:α)(H:j<k)(I:p+k <=l.length):l.take (p+j)++[v]++l.drop (p+j+1)=l.take p++(((l.drop p).take k).set j v)++l.drop (p+k):=by
 have q:l=l.take p++((l.drop p).take k++l.drop (p+k)):=by
  rw[<- List.drop_drop,take_append_drop,take_append_drop]
 generalize hA:l.take p=A at*;generalize hB:(l.drop p).take k=B at*;generalize D:l.drop (p+k)=C at*;have e:A.length=p:=by rw[<- hA];simp;omega
 have M:B.length=k:=by rw[<- hB];simp;omega
 clear hA hB D;subst q;have E:(A++(B++C)).take (p+j)=A++B.take j:=by
  rw[List.take_append,take_of_length_le (by omega),e,show p+j-p=j by omega,List.take_append_of_le_length (by omega)]
 have G:(A++(B++C)).drop (p+j+1)=B.drop (j+1)++C:=by
  rw[List.drop_append,List.drop_of_length_le (by omega),nil_append,e,show p+j+1-p=j+1 by omega,List.drop_append_of_le_length (by omega)]
 rw[E,G,List.set_eq_take_append_cons_drop,if_pos (by omega)];simp
theorem Sl.loadC {α:Type}{T:Ty α}{u:TypeId}{d:TypeDesc}(O:P.underlying u=some d)(H:CX d=false){a:Option Addr}{n c:Nat}{xs:List α}(h:Sl T w A a n c xs)(M:T.k=k)(q:i<xs.length)(I:j<k)
 {v:Value} (U:∀vs,T.rep w A vs xs[i]->vs[j]? =some v):(Instr.loadAt u (.pointer (av (av a (i:Int) k) (j:Int) 1))).run P w=.ok v w:=by
 subst M;rcases h.2.2.2 with e|⟨b,off,D,X,V,e⟩
 ·subst e;cases q
 ·obtain⟨vs,E,G⟩:=e.elem q;rw[D,j3,j3];show(do loadVar u (<- Instr.sureAddr (.pointer (some _)))).run P w=_;rw[Sem.run_bind,hU];refine mK O H ?_;have:=G j I;rw[U vs E]at this;simpa using this
theorem Ow.store1 {α:Type}{T:Ty α}{t u:TypeId}{bytes:Nat}{z:Value}(b0:TF P u 1 bytes z){a:Option Addr}{n c:Nat}{xs:List α}(bb:Ow T t w A a n c xs)(hA:∀g,eP a=some g-> ¬ A g)
 (a8:T.k=k) (G:i<xs.length) (ar:j<k) {v:Value} (h1:v.oneCell'=true) (H:v.cells= #[v]) {x:α} (bq:∀vs,T.rep w A vs xs[i]->T.rep w A (vs.set j v) x):
 ∃w',(Instr.storeAt u (.pointer (av (av a (i:Int) k) (j:Int) 1)) v).run P w=.ok () w'/\Ow T t w' A a n c (xs.set i x)/\w.grownBy w' (eP a):=by
 subst a8;obtain⟨b2,bk,ac,_,_⟩:=b0.info;obtain⟨a9,X,al,bc⟩:=bb;rcases bc with⟨_,_,rfl⟩|⟨g,cur,M,rfl,V,U,an,Y⟩
 ·cases G
 ·subst a9;have O:i*T.k+T.k <=xs.length*T.k:=by
   have:=Nat.mul_le_mul_right T.k (show i+1 <=xs.length from G)
   rwa [Nat.add_mul,Nat.one_mul]at this
  have b1:xs.length*T.k <=cur.size:=by rw[an];exact Nat.mul_le_mul_right _ X
  have q:=Y.rep i G;have ad:=bq _ q;have I:=T.len ad;rw[Zf];have Z:=run_storeVar_row (P:=P) bk (o:=i*T.k+j) V U (v:=v) (by rw[H,ac];rfl) (by rw[ac];omega) (λx q=>by rw[H]at q;simp at q;rw[q];exact h1);have bj:(cur.toList.take (i*T.k+j)++v.cells.toList++cur.toList.drop (i*T.k+j+v.cells.size))=cur.toList.take (i*T.k)++(((cur.toList.take (xs.length*T.k)).drop (i*T.k)).take T.k).set j v++cur.toList.drop (i*T.k+T.k):=by
   rw[H];have e:=UW cur.toList (i*T.k) T.k j v ar (by simp;omega);have E:((cur.toList.take (xs.length*T.k)).drop (i*T.k)).take T.k=(cur.toList.drop (i*T.k)).take T.k:=by
    rw[List.drop_take,take_take];congr 1;omega
   rw[E];exact e
  rw[bj]at Z;generalize (((cur.toList.take (xs.length*T.k)).drop (i*T.k)).take T.k).set j v=D at*;refine⟨_,Z,?_,fc w g _⟩;refine⟨by simp,X,al,.inr ⟨g,_,M,rfl,setRow_heap w g cur _ t M V,?_,?_,?_⟩⟩
  ·intro bs a0;refine U bs ?_;simp at a0;omega
  ·simp;omega
  ·have aj:=(Y.set G ad).keep (eD (fc w g (cur.toList.take (i*T.k)++D++cur.toList.drop (i*T.k+T.k)).toArray) λb O e=>hA g rfl (by cases e;exact O));have e:((cur.toList.take (i*T.k)++D++cur.toList.drop (i*T.k+T.k)).toArray).toList.take (xs.length*T.k)=
    (cur.toList.take (xs.length*T.k)).take (i*T.k)++D++(cur.toList.take (xs.length*T.k)).drop (i*T.k+D.length):=by
    simp only[];have ag:(cur.toList.take (xs.length*T.k)).take (i*T.k)=cur.toList.take (i*T.k):=by rw[take_take];congr 1;omega
    rw[ag,List.take_append,List.drop_take];have E:(cur.toList.take (i*T.k)++D).length=i*T.k+T.k:=by simp[I];omega
    rw[E,take_of_length_le (by rw[E];omega)];congr 2
    ·rw[I]
    ·rw[I]
   rw[e];exact aj
def ekE (e:jZ):Value:=.agg #[vI e.1,vS e.2]
def evI (n:Int):Value:=vI n
def tB4:Ty (List Bool) where
 k:=4
 pos:=by decide
 rep:=λ_ _ vs x=>vs=x.map Value.bool/\x.length=4
 len:=λh=>by rw[h.1,length_map,h.2]
 one:=fun{_ _ _ x} h v hv=>by rw[h.1]at hv;obtain⟨b,_,rfl⟩:=List.mem_map.1 hv;rfl
 keep:=λh _=>h
 mono:=λh _=>h
theorem RH:Flat tB4:=λ_ _ _ _ _ _ h=>h
def MS:Ty Rul where
 k:=2
 pos:=by decide
 rep:=λ_ _ vs r=>vs=xA r
 len:=λh=>by rw[h];rfl
 one:=fun{_ _ _ x} h v hv=>by rw[h]at hv;exact(aY rfl (aY rfl fj):BS (xA x)) v hv
 keep:=λh _=>h
 mono:=λh _=>h
structure kV (w0:World)(t te:TypeId)(kt km:Nat)(a:Option Addr)(n c:Nat)(ps:List Pth)(kvs:List (jZ×Int))(es:List (List Bool))(rs:List Rul)(w:World):Prop where
 h1:au w kt t [.map (some km),.slice a n c]
 h2:uR ekE evI w km kvs
 h3:Ow tB4 te w NoB a n c es
 T:QF ps kvs
 t:Tab ps es rs
 hb:bW w0 w
 ne:km≠kt
 og:∀g,eP a=some g->g≠kt/\g≠km/\w0.heap.size <=g
 kt0:w0.heap.size <=kt
 km0:w0.heap.size <=km
theorem kV.below {w0:World}{t G:TypeId}{q e:Nat}{a:Option Addr}{n c:Nat}{E:List Pth}{D:List (jZ×Int)}{rs:List Rul}{w w':World}(S:kV w0 t G q e a n c E D z rs w)(h:bW w w'):kV w0 t G q e a n c E D z rs w':=
 ⟨S.h1.below h,S.h2.below h,S.h3.below h,S.T,S.t,ae S.hb h S.hb.size,S.ne,S.og,S.kt0,S.km0⟩
theorem yj {α:Type}{T:Ty α}{w w':World}{a:Option Addr}{n c:Nat}{xs:List α}(h:Ow T t w NoB a n c xs){r:Option Nat}(D:w.grownBy w' r)(E:∀g,eP a=some g->r≠some g):Ow T t w' NoB a n c xs:=
 h.keep (eD D λb e q=>by
  rcases e with e|e
  ·exact e
  ·exact E b e.symm q.symm)
theorem Ev {e:jZ->Value}{q:Int->Value}{w w':World}{r:Nat}{kvs:List (jZ×Int)}(h:uR e q w r kvs){k:Option Nat}(E:w.grownBy w' k)(G:k≠some r):uR e q w' r kvs:=h.keep (E.block r h.lt λD=>G D.symm)
structure XO (w0:World)(t te ts tr:TypeId)(kt km k3:Nat)(rs:List Rul)(r:Rul)(aL:Option Addr)(nL cL:Nat)(L:List lU)(N:Nat)(p:Pth)(node:Nat)(w:World):Prop where
 ex:∃a n c ps kvs es,kV w0 t te kt km a n c ps kvs es rs w/\Gl p ps 0=some node/\ps.length <=N/\(∀g,eP a=some g->g≠k3/\eP aL≠some g)
 hL:Ow tS ts w NoB aL nL cL L
 h3:au w k3 tr (xA r)
 s1:kt≠k3
 s2:km≠k3
 s3:eP aL≠some kt
 s4:eP aL≠some km
theorem XO.below {w0:World}{t I O M:TypeId}{G E D:Nat}{rs:List Rul}{r:Rul}{e:Option Addr}{H q:Nat}{L:List lU}{N:Nat}{p:Pth}{node:Nat}{w w':World}(S:XO w0 t I O M G E D rs r e H q L N p node w)(h:bW w w'):XO w0 t I O M G E D rs r e H q L N p node w':=by
 obtain⟨a,n,c,ac,Z,U,h1,V,X,Y⟩:=S.ex;exact⟨⟨a,n,c,ac,Z,U,h1.below h,V,X,Y⟩,S.hL.below h,S.h3.below h,S.s1,S.s2,S.s3,S.s4⟩
theorem XE:∃e,prog.underlying cS=some (.struct e):=⟨_,rfl⟩
theorem uj:qZ prog cS ekE:=by
 obtain⟨E,h⟩:=XE;refine qZ.struct h (λa b=>?_) (λb k w=>?_)
 ·obtain⟨a1,a2⟩:=a;obtain⟨e,q⟩:=b;have D:eqV prog 10000 cS (ekE (a1,a2)) (ekE (e,q))=some ((a1==e)&&((a2==q)&&true)):=by kernel_rfl
  rw[D];congr 1;rw[Bool.eq_iff_iff];simp
 ·obtain⟨a1,a2⟩:=k;kernel_rfl
theorem KO:Whl prog cS 2:=⟨⟨_,_,HZ⟩,by kernel_rfl⟩
def V9 (w0:World)(kt km:Nat)(rs:List Rul)(N:Nat)(v:Value)(w':World):Prop:=
 v=.tuple #[]/\∃a n c ps kvs es,kV w0 bm bE kt km a n c ps kvs es rs w'/\ps.length <=N
theorem KL {w0:World}(e4:Env w0){M V:Nat}{a:Option Addr}{n c:Nat}{b5:List Pth}{b2:List (jZ×Int)}{rs:List Rul}(S:kV w0 bm bE M V a n c b5 b2 z rs w)(r:Rul)
 (e6:∃k:Nat,r.1=(k:Int)/\k<4) (fr:r.2.length <=253) {N:Nat} (e0:b5.length <=N) (gb:N <=1000000000):
 Cf jz #[.pointer (some ⟨M,0,none⟩),Qo r] w (Ret (V9 w0 M V (rs++[r]) (N+300))):=by
 obtain⟨g7,G⟩:=r;obtain⟨I,ds,dr⟩:=e6;simp only at ds fr;subst ds;apply uK;intro k3 c2 e7 d6;have dl:=(d6▸ao w _:bW w c2)
 have b8:au c2 k3 aJ (xA ((I:Int),G)):=au.new e7 d6;have gt:=S.h1.lt;have g0:=S.h2.lt;have cj:=S.below dl;refine⟨rfl,_,b8.load1 ax rfl rfl,?_⟩;refine aA (eB G 46 (by omega) c2 (e4.step cj.hb)) ?_;rintro _ w4 ⟨a9,g6,cl,rfl,d3,cr,dn⟩;have gc:(bR 46 [] G).length <=300:=by have:=dJ 46 G [];omega
 have de:dm ((I:Int),G)=(bR 46 [] G).reverse:=rfl;generalize bR 46 [] G=L at*;have fn:=d3.len;subst fn;refine⟨_,_,_,rfl,?_⟩;have gs:=dl.size;have c6:=cj.below dn;have d9:XO w0 bm bE ak aJ M V k3 rs ((I:Int),G) a9 L.length cl L (N+0) [] 0 w4:=by
  refine⟨⟨a,n,c,b5,b2,z,c6,?_,e0,λg e=>⟨?_,?_⟩⟩,d3,b8.below dn,by omega,by omega,λa8=>?_,λa8=>?_⟩
  ·exact S.T.first 0 [] S.T.root
  ·have:=S.h3.lt g e;omega
  ·intro a8;have:=cr g a8;have:=S.h3.lt g e;omega
  ·have:=cr _ a8;omega
  ·have:=cr _ a8;omega
 have ee:i64.wrap (((L.length:Nat):Int)-1)=((L.length:Nat):Int)-1:=wrJ
 try dsimp only
 rw[ee];clear cj c6 S;refine⟨λm d8 i w'=>∃(k node:Nat),k <=L.length/\i=((L.length:Nat):Int)-1-(k:Int)/\m=L.length-k/\d8=(node:Int)/\XO w0 bm bE ak aJ M V k3 rs ((I:Int),G) a9 L.length cl L (N+k) ((dm ((I:Int),G)).take k) node w',⟨_,0,0,by omega,by omega,rfl,rfl,d9⟩,?_⟩;intro m d8 i;refine aQ.of ?_ _;rintro ga ⟨k,node,gn,rfl,rfl,rfl,Y⟩;refine af.of (λh=>?_) (λh=>?_)<;>simp only[ge_iff_le,dTx,dFx]at h
 ·have fd:k<L.length:=by omega
  have eg:((L.length:Nat):Int)-1-(k:Int)=((L.length-1-k:Nat):Int):=by omega
  rw[eg];refine⟨⟨⟨by omega,by omega⟩,Y.hL.all.isSome (by omega)⟩,_,Y.hL.all.text ax (by omega),?_⟩;have dk:(dm ((I:Int),G)).take (k+1)=(dm ((I:Int),G)).take k++[L[L.length-1-k]'(by omega)]:=by
   rw[de,take_succ_eq_append_getElem (by simpa using fd),List.getElem_reverse]
  generalize L[L.length-1-k]'(by omega)=X at*;refine KO.new (zs:=[vI 0,vS []]) (cs:=[vI (node:Int),vS X]) rfl rfl (aY rfl (aY rfl fj)) ga λk7 ce gl b9 dp=>?_;have ch:=Y.below dp;simp only[zR];obtain⟨a5,b3,b6,aj,cb,a0,ac,c0,e1,b0⟩:=ch.ex;have ar:=(o7 c0).2;rw[Nat.sub_zero]at ar;have ag:=ac.T.edge node X;rw[ar]at ag;simp only at ag;have g1:=b9.lt;have g3:=ac.h2.lt;have g5:=ac.h1.lt;have dw:k7≠V/\k7≠M/\k7≠k3:=by
   have:=Y.h3.lt;obtain⟨_,_,_,_,_,_,O,_⟩:=Y.ex;have:=O.h1.lt;have:=O.h2.lt;omega
  have fo:∀g,eP a5=some g->g≠k7:=λg e=>by
   obtain⟨a6,f7,ed,f8,f4,ei,O,_⟩:=Y.ex;have c8:=O.h1.below dp;have b7:=ac.h1;unfold au at c8 b7;rw[c8]at b7;simp only[Option.some.injEq,Obj.cells.injEq,and_true,true_and]at b7;have ef:a6=a5:=by
    have:=congrArg (λx:Array Value=>x[1]?) b7;simp at this;exact this.1
   subst ef;have:=O.h3.lt g e;omega
  have go:∀g,eP a9=some g->g≠k7:=λg e=>by have:=Y.hL.lt g e;omega
  have f6:∀u,bW ce u->(Instr.loadAt bM (.pointer (some ⟨M,0,none⟩))).run prog u=.ok (.map (some V)) u:=λu D=>(ac.h1.below D).load1 bJ rfl rfl;have f5:∀u,bW ce u->(Instr.loadAt cS (.pointer (some ⟨k7,0,none⟩))).run prog u=.ok (.agg #[vI (node:Int),vS X]) u:=λu D=>KO.load0 (b9.below D) rfl;refine⟨λcf=>∃an:Nat,XO w0 bm bE ak aJ M V k3 rs ((I:Int),G) a9 L.length cl L (N+(k+1)) ((dm ((I:Int),G)).take (k+1)) an cf/\(∃a n c b5 b2 z,kV w0 bm bE M V a n c b5 b2 z rs cf/\dI ((node:Int),X) b2=some (an:Int))/\au cf k7 cS [vI (node:Int),vS X],?_,?_⟩
  ·refine⟨rfl,rfl,_,f6,_,_,f5,?_⟩;cases b1:Gl ((dm ((I:Int),G)).take k++[X]) aj 0 with
   |some an=>
    rw[b1]at ag;refine⟨(an:Int),true,λu D=>?_,?_⟩
    ·have:=(ac.h2.below D).look2 (P:=prog) bJ uj fR ((node:Int),X);rw[ag]at this;exact this
    intro c5 U;refine af.no rfl ?_;rw[dk];have al:=ch.below U;exact⟨an,⟨⟨a5,b3,b6,aj,cb,a0,ac.below U,b1,by omega,b0⟩,al.hL,al.h3,al.s1,al.s2,al.s3,al.s4⟩,⟨a5,b3,b6,aj,cb,a0,ac.below U,ag⟩,b9.below U⟩
   |none=>
    rw[b1]at ag;have d2:=o0.1 b1;refine⟨0,false,λu D=>?_,?_⟩
    ·have:=(ac.h2.below D).look2 (P:=prog) bJ uj fR ((node:Int),X);rw[ag]at this;exact this
    intro c5 U;have ck:=ac.below U;have al:=ch.below U;have da:=b9.below U;refine af.yes rfl ⟨rfl,rfl,_,λu D=>(ck.h1.below D).load1 bJ rfl rfl,_,_,λu D=>KO.load0 (da.below D) rfl,rfl,rfl,_,_,_,λu D=>(ck.h1.below D).load1 eM rfl rfl,?_⟩;intro g9 c1;have E:=ck.below c1;have Z:=al.below c1;have er:=da.below c1;have d1:=E.h3.len;have ge:=E.t.len;obtain⟨c3,f0,dx,bj⟩:=E.h2.put (P:=prog) bJ uj (k:=((node:Int),X)) ag ((b3:Int));refine⟨c3,f0,?_⟩;have cn:=E.h1.grown bj (bA E.ne.symm);have en:=yj E.h3 bj λg e q=>(E.og g e).2.1 (Option.some.inj q).symm;have dd:=yj Z.hL bj λg e q=>Z.s4 (by rw[e,<- q]);have dg:=Z.h3.grown bj (bA Z.s2.symm);have es:=er.grown bj (bA dw.1);have dc:=Below.put E.hb bj E.km0;refine⟨rfl,rfl,_,_,_,cn.load1 eM rfl rfl,?_⟩;intro f3 c4 e9 d7;have ad:=(d7▸ao c3 _:bW c3 c4)
    have cp:=ae dc ad dc.size;have f2:Src tB4 c4 NoB (some ⟨f3,0,none⟩) 1 [[false,false,false,false]]:=Src.new1F RH e9 d7 ⟨rfl,rfl⟩;obtain⟨wc,bb,b4,bs,fs,eq,bk,e5⟩:=eU (P:=prog) (ty:=cd) eM My (by decide) (en.below ad) (λ_ _ h=>h) (cm:=1) f2 (by simp;omega);refine⟨wc,bb,b4,bs,fs,rfl,rfl,?_⟩;have g2:=cn.lt;have g4:=dx.lt;have g8:=ad.size;have cc:∀x,(∀g,eP a5=some g->g≠x)->some x≠eP a5:=λx h q=>h x q.symm rfl;have ek:=(cn.below ad).grown bk (cc M λg e=>(E.og g e).1);have d0:=Ev (dx.below ad) bk (cc V λg e=>(E.og g e).2.1).symm;have ey:=yj (dd.below ad) bk λg e q=>(b0 g q).2 e;have e2:=(dg.below ad).grown bk (cc k3 λg e=>(b0 g e).1);have et:=(es.below ad).grown bk (cc k7 fo);have ew:bW w0 wc:=cp.grown bk cp.size λx q=>(E.og x q).2.2;obtain⟨wd,f1,el,bq⟩:=ek.put (P:=prog) FU (i:=1) (v:=.slice bb b4 bs) (show 1<2 by decide) rfl rfl;refine⟨wd,f1,?_⟩;have bc:∀g,eP bb=some g->g≠M/\g≠V/\w0.heap.size <=g/\g≠k3/\eP a9≠some g:=λg e=>by
     rcases e5 g e with q|q
     ·have:=E.og g q;have c9:=b0 g q;exact⟨this.1,this.2.1,this.2.2,c9.1,c9.2⟩
     ·have:=cp.size;have:=(dg.below ad).lt;have b8:∀x,eP a9=some x->x<c4.heap.size:=(dd.below ad).lt;exact⟨by omega,by omega,by omega,by omega,λa8=>by have:=b8 g a8;omega⟩
    have eb:=E.T.grow ar d2;have f9:=E.t.grow d2;have fl:(b3:Int)=((aj.length:Nat):Int):=by omega
    rw[fl]at d0;have c7:kV w0 bm bE M V bb b4 bs _ _ _ rs wd:=⟨el,Ev d0 bq (bA E.ne.symm),yj eq bq λg e q=>(bc g e).1 (Option.some.inj q).symm,eb,f9,Below.put ew bq E.kt0,E.ne,λg e=>⟨(bc g e).1,(bc g e).2.1,(bc g e).2.2.1⟩,E.kt0,E.km0⟩
    have fq:Gl ((dm ((I:Int),G)).take k++[X]) (aj++[(dm ((I:Int),G)).take k++[X]]) 0=some aj.length:=by
     rw[Dd,b1,if_pos rfl];simp
    rw[dk];refine⟨aj.length,⟨⟨bb,b4,bs,_,_,_,c7,fq,by simp;omega,λg e=>⟨(bc g e).2.2.2.1,(bc g e).2.2.2.2⟩⟩,yj ey bq λg e q=>Z.s3 (by rw[e,<- q]),e2.grown bq (bA Z.s1.symm),Z.s1,Z.s2,Z.s3,Z.s4⟩,⟨bb,b4,bs,_,_,_,c7,?_⟩,et.grown bq (bA dw.2.1)⟩;rw[yb,ag,if_pos rfl];rfl
  ·refine aQ.of ?_ _;rintro cf ⟨an,ea,⟨a6,f7,ed,f8,f4,ei,H,fb⟩,ev⟩;refine⟨rfl,rfl,_,λu D=>(H.h1.below D).load1 bJ rfl rfl,_,_,λu D=>KO.load0 (ev.below D) rfl,(an:Int),λu D=>?_,λc5 U=>?_⟩
   ·have:=(H.h2.below D).look1 (P:=prog) bJ uj fR ((node:Int),X);rw[fb]at this;exact this
   ·exact⟨L.length-(k+1),by omega,k+1,an,by omega,by rw[wrJ];omega,rfl,rfl,ea.below U⟩
 ·have:k=L.length:=by omega
  subst this;have e3:(dm ((I:Int),G)).take L.length=dm ((I:Int),G):=by rw[take_of_length_le];rw[de];simp
  rw[e3]at Y;simp only[zR];obtain⟨a5,b3,b6,aj,cb,a0,O,c0,e1,b0⟩:=Y.ex;have ar:=(o7 c0).2;rw[Nat.sub_zero]at ar;have cu:node<a0.length:=by rw[O.t.len];exact(List.getElem?_eq_some_iff.1 ar).1
  have d1:=O.h3.len;subst d1;have d5:=O.h3.all.isSome cu;have d4:=O.t.mark node _ ar;refine⟨rfl,rfl,_,_,_,λu D=>(O.h1.below D).load1 eM rfl rfl,trivial,_,λu D=>(Y.h3.below D).load1 bC rfl rfl,⟨⟨by omega,by omega⟩,d5⟩,⟨⟨by omega,by omega⟩,?_⟩,?_⟩
  ·cases a5 with
   |none=>cases d5
   |some x=>rfl
  intro c5 U;have H:=O.below U;obtain⟨ce,fv,em,ct⟩:=H.h3.store1 (P:=prog) jP (λ_ _ h=>h) (k:=4) rfl (i:=node) (j:=I) cu dr (v:=.bool true) (x:=(marks rs (dm ((I:Int),G))).set I true) rfl rfl (by
   intro vs ca;rw[List.getElem?_eq_getElem cu]at d4;have ca:vs=a0[node].map Value.bool/\a0[node].length=4:=ca;rw[Option.some.inj d4]at ca;exact⟨by rw[ca.1,List.map_set],by rw[List.length_set,yc]⟩)
  refine⟨ce,fv,rfl,a5,a0.length,b6,aj,cb,_,⟨H.h1.grown ct (λq=>(H.og M q.symm).1 rfl),Ev H.h2 ct (λq=>(H.og V q).2.1 rfl),em,H.T,H.t.rule H.T rfl ar dr,H.hb.grown ct H.hb.size (λx q=>(H.og x q).2.2),H.ne,H.og,H.kt0,H.km0⟩,by omega⟩
theorem SC (s:lU):cv (cv s)=cv s:=by
 have h:∀n,n<256->zP (zP (UInt8.ofNat n))=zP (UInt8.ofNat n):=by decide+kernel
 unfold cv;rw[List.map_map];apply List.map_congr_left;intro c _;have:=h c.toNat (by have:=c.toNat_lt;omega);rw[UInt8.ofNat_toNat]at this;exact this
theorem Yu (s:lU):(cv s).head?=some 91↔s.head?=some 91:=by
 cases s with
 |nil=>simp[cv]
 |cons c r=>
  have h:∀n,n<256->(zP (UInt8.ofNat n)=91↔UInt8.ofNat n=91):=by decide+kernel
  have:=h c.toNat (by have:=c.toNat_lt;omega);rw[UInt8.ofNat_toNat]at this;simpa[cv]using this
theorem R0 (e:bV s=some h)(O:h.kind=1):h=⟨1,cv s,ad0⟩/\bV (cv s)=some h/\(cv s).length <=253:=by
 have M:=e;unfold bV at e;split at e
 ·split at e
  ·have:=MK e;omega
  ·cases e
 rename_i G;split at e
 ·cases E:v4V s with
  |none=>rw[E]at e;cases e
  |some a=>
   rw[E]at e;have:h.kind=2:=by rw[<- Option.some.inj e]
   omega
 rename_i H;split at e
 ·rename_i q;have D:=Option.some.inj e;refine⟨D.symm,?_,by simpa[cv]using q.1⟩;unfold bV;rw[if_neg (λI=>G ((Yu s).1 I)),SC,if_neg H,if_pos ⟨by simpa[cv]using q.1,q.2⟩,D]
 ·cases e
def Pb (r:Rul):Hst:=⟨1,r.2,ad0⟩
theorem oJ (r:Rul):(Pb r).ok:=rfl
theorem P6 (u:lU):(oG u).1=1\/(oG u).1=2\/(oG u).1=3:=by
 unfold oG;split
 ·exact .inr (.inl rfl)
 split
 ·exact .inr (.inr rfl)
 ·exact .inl rfl
structure Dv (r:Rul):Prop where
 kind:r.1=1\/r.1=2\/r.1=3
 len:r.2.length <=253
 host:bV r.2=some (Pb r)
theorem Pc {r:Rul}(h:eo r=true):Dv r:=by
 unfold eo at h;rw[Bool.and_eq_true,Bool.and_eq_true,beq_iff_eq,Tp]at h;obtain⟨h1,e,q⟩:=h;generalize nj r=s at*;unfold jn at h1 e q;split at h1
 ·rename_i D;rw[if_pos D]at e;cases e
 ·rename_i D;rw[if_neg D]at e q;have V:=P6 (lE (trimB s));generalize oG (lE (trimB s))=X at*;obtain⟨k,n⟩:=X;unfold SL at h1 e q;cases E:bV n with
  |none=>simp only[E]at e;cases e
  |some g=>
   simp only[E]at h1 e q;split at e
   ·rename_i I;rw[if_pos I]at q;obtain⟨H,O,U⟩:=R0 E I.1;have M:r.1=k:=by rw[<- q]
    have G:r.2=cv n:=by rw[<- q,H]
    refine⟨by rw[M];exact V,by rw[G];exact U,?_⟩;unfold Pb;rw[G,O,H]
   ·cases e
theorem Dv.right {r:Rul}(h:Dv r):cT (Pb r)=true:=by
 unfold cT;have:lT (Pb r)=r.2:=by unfold lT Pb;rw[if_pos rfl]
 rw[this,h.host];exact(gi (oJ r) (oJ r)).2 rfl
theorem Dv.labels {r:Rul}(h:Dv r):aF (Pb r)=bR 46 [] r.2:=by
 unfold aF;rw[if_pos ⟨rfl,h.right⟩];rfl
theorem Dv.ne {r:Rul}(h:Dv r):(aF (Pb r)).length≠0:=by
 rw[h.labels];have:=List.length_pos_iff.2 (gT 46 r.2 []);omega
theorem Dv.revl {r:Rul}(h:Dv r):dm r=(aF (Pb r)).reverse:=by rw[h.labels];rfl
theorem Df {r:Rul} :0<(dm r).length:=by
 unfold Go.Pk.dm;rw[List.length_reverse];exact List.length_pos_iff.2 (gT 46 r.2 [])
theorem TQ {h d:Hst}(E:h.ok)(H:d.ok)(M:(aF h).length≠0)(I:(aF d).length≠0):
 kO h d=true↔(aF d).length<(aF h).length/\(aF d).reverse=(aF h).reverse.take (aF d).length:=by
 rw[IA E H];unfold Pw;rw[if_neg (λD=>D.elim M I),Bool.and_eq_true,dTx,beq_iff_eq];obtain⟨⟨V,Z⟩,X⟩:=iV E M;obtain⟨⟨ad,ag⟩,O⟩:=iV H I;obtain⟨-,-,U,-,-,-⟩:=ka E V Z;have key:(aF d).reverse=(aF h).reverse.take (aF d).length/\(aF d).length<(aF h).length↔∃A,A≠[]/\aF h=A++aF d:=by
  constructor
  ·rintro⟨h1,h2⟩;rw[List.take_reverse]at h1;have h1:=List.reverse_inj.1 h1;refine⟨(aF h).take ((aF h).length-(aF d).length),?_,?_⟩
   ·intro e;have:=congrArg length e;rw[length_take,length_nil]at this;omega
   ·conv=>rhs;rhs;rw[h1]
    rw[take_append_drop]
  ·rintro⟨A,hA,e⟩;have Y:=List.length_pos_iff.2 hA;rw[e];refine⟨?_,by simp;omega⟩;rw[List.reverse_append,List.take_append_of_le_length (by simp),take_of_length_le (by simp)]
 rw[and_comm (a:=(aF d).length<_),key,X,O];constructor
 ·rintro⟨h1,h2⟩;have ac:h.name=h.name.take (h.name.length-(d.name.length+1))++46::d.name:=by rw[<- h2,take_append_drop]
  refine⟨bR 46 [] (h.name.take (h.name.length-(d.name.length+1))),gT 46 _ [],?_⟩
  conv=>lhs;rw[ac]
  exact ff 46 _ _ _
 ·rintro⟨A,hA,e⟩;have q:=jG 46 h.name [];have G:=jG 46 d.name [];rw[nil_append]at q G;rw[e,Db 46 A _ hA (gT 46 d.name []),G]at q;have Y:0<(Lib.join A [46]).length:=by
   cases A with
   |nil=>exact absurd rfl hA
   |cons x A=>
    rw[Lib.join_cons,length_append];have D:x∈bR 46 [] h.name:=by rw[e];simp
    have:=List.all_eq_true.1 U x D;unfold gj at this;rw[Bool.and_eq_true,Bool.and_eq_true,dTx]at this;have:=this.1.1;omega
  rw[<- q];refine⟨by simp;omega,?_⟩;rw[length_append,length_cons,Nat.add_sub_cancel,List.drop_left]
theorem Yj {h d:Hst}(D:h.ok)(q:d.ok)(Z:(aF h).length≠0)(Y:(aF d).length≠0):gA h d=true↔aF h=aF d:=by
 rw[gi D q];refine⟨λe=>by rw[e],λe=>?_⟩;obtain⟨⟨U,X⟩,V⟩:=iV D Z;obtain⟨⟨I,O⟩,M⟩:=iV q Y;obtain⟨h1,-⟩:=ka D U X;obtain⟨H,-⟩:=ka q I O;rw[V,M]at e;have E:=jG 46 h.name [];have G:=jG 46 d.name [];rw[nil_append]at E G;rw[h1,H,<- E,<- G,e]
def HU (R:Pth)(m:Nat)(r:Rul):Nat:=
 if dm r=R.take (dm r).length then(if r.1=1 then max m (dm r).length else if r.1=2/\(dm r).length<R.length then max m ((dm r).length+1)else m)else m
def Mr (R:Pth)(m:Nat)(r:Rul):Nat:=if dm r=R.take (dm r).length/\r.1=3 then max m ((dm r).length-1)else m
def Uu (rs:List Rul)(R:Pth):Nat:=rs.foldl (HU R) 1
def T1 (rs:List Rul)(R:Pth):Nat:=rs.foldl (Mr R) 0
def zQ (rs:List Rul)(R:Pth):Nat:=if R=[]then 0 else if 0<T1 rs R then T1 rs R else Uu rs R
theorem yI {r:Rul}{R:Pth}(h:dm r=R.take (dm r).length):(dm r).length <=R.length:=by
 have:=congrArg length h;rw[length_take]at this;omega
theorem OG (rs:List Rul)(R:Pth):Top 1 (lX rs R R.length (R.length-1)) (Uu rs R):=by
 suffices ∀(rs:List Rul) (S:Nat->Prop) (m:Nat),Top 1 S m->Top 1 (λx=>S x\/lX rs R R.length (R.length-1) x) (rs.foldl (HU R) m) by
  exact(this rs _ 1 (Top.zero 1)).congr λx=>by simp
 intro rs;induction rs with
 |nil=>exact λS m h=>h.congr λx=>by unfold lX;simp
 |cons r rs H=>
  intro S m h;rw[foldl_cons];have G:∀x,lX (r::rs) R R.length (R.length-1) x↔lX [r] R R.length (R.length-1) x\/lX rs R R.length (R.length-1) x:=λx=>by
   unfold lX;simp
  have h1:Top 1 (λx=>S x\/lX [r] R R.length (R.length-1) x) (HU R m r):=by
   have M:=Df (r:=r);unfold HU;by_cases c:dm r=R.take (dm r).length
   ·have E:=yI c;rw[if_pos c];by_cases q:r.1=1
    ·rw[if_pos q];refine(h.max _).congr λx=>or_congr Iff.rfl ?_;unfold lX;constructor
     ·rintro rfl;exact⟨r,by simp,c,.inl ⟨q,E,rfl⟩⟩
     ·rintro⟨r',hr',c',h'⟩;rw[mem_singleton]at hr';subst hr';rcases h' with⟨_,_,h'⟩|⟨e,_⟩
      ·exact h'.symm
      ·rw[q]at e;exact absurd e (by decide)
    ·rw[if_neg q];by_cases e:r.1=2/\(dm r).length<R.length
     ·rw[if_pos e];refine(h.max _).congr λx=>or_congr Iff.rfl ?_;unfold lX;constructor
      ·rintro rfl;exact⟨r,by simp,c,.inr ⟨e.1,by omega,rfl⟩⟩
      ·rintro⟨r',hr',c',h'⟩;rw[mem_singleton]at hr';subst hr';rcases h' with⟨D,_⟩|⟨_,_,h'⟩
       ·exact absurd D q
       ·exact h'.symm
     ·rw[if_neg e];refine h.congr λx=>?_;have: ¬ lX [r] R R.length (R.length-1) x:=by
       rintro⟨r',hr',c',h'⟩;rw[mem_singleton]at hr';subst hr';rcases h' with⟨D,_⟩|⟨D,I,_⟩
       ·exact q D
       ·exact e ⟨D,by omega⟩
      simp[this]
   ·rw[if_neg c];refine h.congr λx=>?_;have: ¬ lX [r] R R.length (R.length-1) x:=by
     rintro⟨r',hr',c',-⟩;rw[mem_singleton]at hr';subst hr';exact c c'
    simp[this]
  exact(H _ _ h1).congr λx=>by rw[G,or_assoc]
theorem OE (rs:List Rul)(R:Pth):Top 0 (gz rs R R.length) (T1 rs R):=by
 suffices ∀(rs:List Rul) (S:Nat->Prop) (m:Nat),Top 0 S m->Top 0 (λx=>S x\/gz rs R R.length x) (rs.foldl (Mr R) m) by
  exact(this rs _ 0 (Top.zero 0)).congr λx=>by simp
 intro rs;induction rs with
 |nil=>exact λS m h=>h.congr λx=>by unfold gz;simp
 |cons r rs q=>
  intro S m h;rw[foldl_cons];have e:∀x,gz (r::rs) R R.length x↔gz [r] R R.length x\/gz rs R R.length x:=λx=>by
   unfold gz;simp
  have h1:Top 0 (λx=>S x\/gz [r] R R.length x) (Mr R m r):=by
   unfold Mr;by_cases c:dm r=R.take (dm r).length/\r.1=3
   ·rw[if_pos c];refine(h.max _).congr λx=>or_congr Iff.rfl ?_;unfold gz;constructor
    ·rintro rfl;exact⟨r,by simp,c.1,c.2,yI c.1,rfl⟩
    ·rintro⟨r',hr',c',c3,c4,h'⟩;rw[mem_singleton]at hr';subst hr';exact h'.symm
   ·rw[if_neg c];refine h.congr λx=>?_;have: ¬ gz [r] R R.length x:=by
     rintro⟨r',hr',c',c3,c4,h'⟩;rw[mem_singleton]at hr';subst hr';exact c ⟨c',c3⟩
    simp[this]
  exact(q _ _ h1).congr λx=>by rw[e,or_assoc]
theorem QF.take {E:List Pth}{H:List (jZ×Int)}(t:QF E H):∀(j:Nat) (p:Pth),p∈E->p.length <=j->∀k,p.take k∈E
 |0,p,q,G,k=>by
  have:p=[]:=List.length_eq_zero_iff.1 (by omega);subst this;rw[List.take_nil];exact q
 |j+1,p,q,G,k=>by
  by_cases D:p.length <=k
  ·rw[take_of_length_le D];exact q
  ·obtain⟨e,l,rfl⟩:∃e l,p=e++[l]:=by
    rcases List.eq_nil_or_concat p with h|⟨e,l,h⟩
    ·subst h;simp at D
    ·exact⟨e,l,by simpa using h⟩
   rw[length_append,List.length_singleton]at G D;have:=QF.take t j e (t.closed _ _ q) (by omega) k;rw[List.take_append_of_le_length (by omega)];exact this
theorem SJ {E:List Pth}{I:List (jZ×Int)}{rs:List Rul}(T:QF E I)(t:Tab E z rs){R:Pth}(O:k<R.length)(H:R.take (k+1)∉E):
 (∀x,lX rs R k k x↔lX rs R R.length (R.length-1) x)/\(∀x,gz rs R k x↔gz rs R R.length x):=by
 have G:∀r∈rs,dm r=R.take (dm r).length->(dm r).length <=k:=λr q c=>by
  refine Decidable.byContradiction λM=>H ?_;have:=T.take _ _ (t.rules r q) (Nat.le_refl _) (k+1);rw[c,take_take,Nat.min_eq_left (by omega)]at this;exact this
 refine⟨λx=>?_,λx=>?_⟩
 ·constructor
  ·rintro⟨r,q,c,h⟩;refine⟨r,q,c,?_⟩;rcases h with⟨h1,D,e⟩|⟨h1,D,e⟩
   ·exact .inl ⟨h1,by omega,e⟩
   ·exact .inr ⟨h1,by omega,e⟩
  ·rintro⟨r,q,c,h⟩;have:=G r q c;refine⟨r,q,c,?_⟩;rcases h with⟨h1,D,e⟩|⟨h1,D,e⟩
   ·exact .inl ⟨h1,this,e⟩
   ·exact .inr ⟨h1,this,e⟩
 ·constructor
  ·rintro⟨r,q,c,h1,D,e⟩;exact⟨r,q,c,h1,by omega,e⟩
  ·rintro⟨r,q,c,h1,D,e⟩;exact⟨r,q,c,h1,G r q c,e⟩
theorem IY {rs:List Rul}{R:Pth}(q:k <=R.length):(rs.any λr=>decide (r.1=(n:Int)/\dm r=R.take k))=true↔∃r∈rs,r.1=(n:Int)/\dm r=R.take (dm r).length/\(dm r).length=k:=by
 rw[List.any_eq_true];constructor
 ·rintro⟨r,hr,h⟩;rw[dTx]at h;have e:(dm r).length=k:=by rw[h.2,length_take];omega
  exact⟨r,hr,h.1,by rw[e];exact h.2,e⟩
 ·rintro⟨r,hr,h1,h2,h3⟩;exact⟨r,hr,decide_eq_true ⟨h1,by rw[h3]at h2;exact h2⟩⟩
theorem SK {rs:List Rul}{R:Pth}(H:k <=R.length)(h:Top 1 (lX rs R k (k-1)) m)(I:m <=k+1):
 Top 1 (lX rs R k k) (if(rs.any λr=>decide (r.1=((2:Nat):Int)/\dm r=R.take k))=true then k+1 else m):=by
 have E:∀x,lX rs R k k x↔(lX rs R k (k-1) x\/(x=k+1/\(rs.any λr=>decide (r.1=((2:Nat):Int)/\dm r=R.take k))=true)):=λx=>by
  rw[IY H];constructor
  ·rintro⟨r,hr,c,h⟩;rcases h with h|⟨h1,D,e⟩
   ·exact .inl ⟨r,hr,c,.inl h⟩
   ·by_cases G:(dm r).length=k
    ·exact .inr ⟨by omega,r,hr,h1,c,G⟩
    ·exact .inl ⟨r,hr,c,.inr ⟨h1,by omega,e⟩⟩
  ·rintro(⟨r,hr,c,h⟩|⟨rfl,r,hr,h1,c,D⟩)
   ·refine⟨r,hr,c,?_⟩;rcases h with h|⟨h1,D,e⟩
    ·exact .inl h
    ·exact .inr ⟨h1,by omega,e⟩
   ·exact⟨r,hr,c,.inr ⟨h1,by omega,by omega⟩⟩
 split
 ·rename_i q;have:=h.max (k+1);rw[Nat.max_eq_right I]at this;exact this.congr λx=>by rw[E x,and_iff_left q]
 ·rename_i q;exact h.congr λx=>by rw[E x];exact⟨.inl,λh=>h.elim id λh=>absurd h.2 q⟩
theorem SI {rs:List Rul}{R:Pth}(I:k<R.length)(h:Top 1 (lX rs R k k) m)(H:m <=k+1):
 Top 1 (lX rs R (k+1) k) (if(rs.any λr=>decide (r.1=((1:Nat):Int)/\dm r=R.take (k+1)))=true then k+1 else m):=by
 have E:∀x,lX rs R (k+1) k x↔(lX rs R k k x\/(x=k+1/\(rs.any λr=>decide (r.1=((1:Nat):Int)/\dm r=R.take (k+1)))=true)):=λx=>by
  rw[IY (by omega)];constructor
  ·rintro⟨r,hr,c,h⟩;rcases h with⟨h1,e,q⟩|h
   ·by_cases G:(dm r).length=k+1
    ·exact .inr ⟨by omega,r,hr,h1,c,G⟩
    ·exact .inl ⟨r,hr,c,.inl ⟨h1,by omega,q⟩⟩
   ·exact .inl ⟨r,hr,c,.inr h⟩
  ·rintro(⟨r,hr,c,h⟩|⟨rfl,r,hr,h1,c,e⟩)
   ·refine⟨r,hr,c,?_⟩;rcases h with⟨h1,e,q⟩|h
    ·exact .inl ⟨h1,by omega,q⟩
    ·exact .inr h
   ·exact⟨r,hr,c,.inl ⟨h1,by omega,e⟩⟩
 split
 ·rename_i D;have:=h.max (k+1);rw[Nat.max_eq_right H]at this;exact this.congr λx=>by rw[E x,and_iff_left D]
 ·rename_i D;exact h.congr λx=>by rw[E x];exact⟨.inl,λh=>h.elim id λh=>absurd h.2 D⟩
theorem Nj {rs:List Rul}{R:Pth}(G:k<R.length)(h:Top 0 (gz rs R k) m)(E:m <=k):
 Top 0 (gz rs R (k+1)) (if(rs.any λr=>decide (r.1=((3:Nat):Int)/\dm r=R.take (k+1)))=true then k else m):=by
 have q:∀x,gz rs R (k+1) x↔(gz rs R k x\/(x=k/\(rs.any λr=>decide (r.1=((3:Nat):Int)/\dm r=R.take (k+1)))=true)):=λx=>by
  rw[IY (by omega)];constructor
  ·rintro⟨r,hr,c,h1,h2,h3⟩;by_cases D:(dm r).length=k+1
   ·exact .inr ⟨by omega,r,hr,h1,c,D⟩
   ·exact .inl ⟨r,hr,c,h1,by omega,h3⟩
  ·rintro(⟨r,hr,c,h1,h2,h3⟩|⟨rfl,r,hr,h1,c,h2⟩)
   ·exact⟨r,hr,c,h1,by omega,h3⟩
   ·exact⟨r,hr,c,h1,by omega,by omega⟩
 split
 ·rename_i e;have:=h.max k;rw[Nat.max_eq_right E]at this;exact this.congr λx=>by rw[q x,and_iff_left e]
 ·rename_i e;exact h.congr λx=>by rw[q x];exact⟨.inl,λh=>h.elim id λh=>absurd h.2 e⟩
def Gm (rs:List Rul)(h:Hst):Bool:=decide (0<(aF h).length)&&(zQ rs (aF h).reverse==(aF h).length)
def V8 (w:World)(rs:List Rul)(v:Value)(w':World):Prop:=∃kt km a n c ps kvs es,v=.pointer (some ⟨kt,0,none⟩)/\kV w bm bE kt km a n c ps kvs es (rs.filter eo) w'
theorem U1 (w:World):(Instr.makeSlice cd (vI 1) (vI 1)).run prog w=.ok (.slice (some ⟨w.heap.size,0,none⟩) 1 1) (w.alloc (.cells #[.bool false,.bool false,.bool false,.bool false] bE)):=by kernel_rfl
theorem JK {a:Option Addr}{n c:Nat}{rs:List Rul}(h:Sl MS w A a n c rs)(E:i<rs.length):(Instr.loadAt aJ (.pointer (av a (i:Int) 2))).run prog w=.ok (Qo rs[i]) w:=by
 obtain⟨I,H,G,_,_⟩:=FT.info;have e:(prog.underlying aJ).map CX=some true:=by kernel_rfl
 cases D:prog.underlying aJ with
 |none=>rw[D]at e;cases e
 |some d=>
  rw[D]at e;simp only[map_some,Option.some.injEq]at e;obtain⟨vs,h1,q⟩:=h.loadA D e H (k:=2) rfl G (i:=(i:Int)) (by simpa using E);have q:vs=xA rs[i]:=q;rw[q]at h1;exact h1
theorem yH {b4 an:Nat}{rs:List Rul}(bq:Sl MS w A p b4 an rs)(c7:rs.length <=1000000)(cp:∀r∈rs,r.2.length <=1000000)(bk:Env w):
 Cf nK #[.slice p b4 an] w (Ret (V8 w rs)):=by
 apply HL;intro Z q ck b2;have X:=(b2▸ao w _:bW w q)
 have ad:uR ekE evI q Z []:=uR.new ck b2;refine⟨_,_,_,_,U1 q,?_⟩;generalize Y:q.alloc (.cells #[.bool false,.bool false,.bool false,.bool false] bE)=G;have U:=(Y▸ao q _:bW q G)
 have a8:=ae X U X.size;have b5:Ow tB4 bE G NoB (some ⟨q.heap.size,0,none⟩) 1 1 [[false,false,false,false]]:=
  Ow.newF (T:=tB4) (l:=[.bool false,.bool false,.bool false,.bool false]) (xs:=[[false,false,false,false]]) (w:=q) RH rfl Y.symm (gy.one ⟨rfl,rfl⟩) (by decide)
 intro b3 w12 cj b1;have V:=(b1▸ao G _:bW G w12)
 have ce:=ae a8 V a8.size;have de:=ad.lt;have dg:=U.size;have dk:=X.size;have dl:G.heap.size=q.heap.size+1:=by rw[<- Y];simp
 have ca:kV w bm bE b3 Z (some ⟨q.heap.size,0,none⟩) 1 1 [[]] [] [[false,false,false,false]] [] w12:=
  ⟨au.new cj b1,(ad.below U).below V,b5.below V,Vm,Xr,ce,by omega,λg ch=>by
   simp[eP]at ch;omega,by omega,by omega⟩
 clear ad b5;have cl:=bq.len;subst cl;refine⟨λm i w'=>∃k:Nat,k <=rs.length/\i=(k:Int)/\m=rs.length-k/\∃a n c M ac O,kV w bm bE b3 Z a n c M ac O ((rs.take k).filter eo) w'/\M.length <=1+300*k,⟨_,0,by omega,rfl,rfl,_,_,_,_,_,_,ca,by decide⟩,?_⟩;intro m i;refine aQ.of ?_ _;rintro c0 ⟨k,c4,rfl,rfl,a,n,c,M,ac,O,H,cn⟩;refine af.of (λh=>?_) (λh=>?_)<;>simp only[dTx,dFx]at h
 ·have I:k<rs.length:=by omega
  have bs:=bq.below H.hb;have c8:=cp _ (getElem_mem I);refine⟨⟨⟨by omega,h⟩,bs.isSome I⟩,_,_,JK bs I,?_⟩;have b0:(rs.take (k+1)).filter eo=(rs.take k).filter eo++(if eo rs[k]=true then[rs[k]]else[]):=by
   rw[take_succ_eq_append_getElem I,List.filter_append];congr 1;rw[filter_cons,List.filter_nil]
  generalize rs[k]=r at*;refine hZ.new (zs:=xA (0,[])) (cs:=xA r) rfl rfl (Ak r) c0 λdc c1 c5 ar cf=>?_;refine⟨_,_,hZ.load0 ar rfl,?_⟩;have b7:=H.below cf;refine aA (L8 r (by omega) c1) ?_;rintro _ c2 ⟨rfl,bb⟩;have aj:=b7.below bb;have c9:(nj r).length <=1000002:=by
   have:(sn r.1).length <=2:=by unfold sn;split;decide;split;decide;decide
   unfold nj;simp;omega
  refine⟨_,rfl,?_⟩;refine aA (L7 (nj r) (by omega) c2 (bk.step aj.hb)) ?_;rintro _ c3 ⟨rfl,bc⟩;have b8:=aj.below bc;refine⟨_,_,_,_,rfl,?_⟩;have a9:eo r=(((jn (nj r)).2.2==0)&&((jn (nj r)).2.1&&NQ (jn (nj r)).1 r)):=rfl;generalize jn (nj r)=x at*;obtain⟨ag,b,D⟩:=x;simp only at a9;refine hZ.new (zs:=xA (0,[])) (cs:=xA ag) rfl rfl (Ak ag) c3 λdd b6 c6 cc bj=>?_;have al:=b8.below bj;have a0:=((ar.below bb).below bc).below bj;refine gS (w:=b6) (eo r) ?_ ?_
  ·rw[a9];refine af.of (λe=>?_) (λe=>⟨rfl,by simp only at e;rw[e];rfl⟩);refine af.of (λE=>?_) (λE=>⟨rfl,by simp only at e E;rw[e,E];rfl⟩);refine⟨_,_,hZ.load0 cc rfl,_,_,hZ.load0 a0 rfl,_,VW ag r b6,rfl,?_⟩;simp only at e E;rw[e,E];rfl
  ·refine af.of (λe=>?_) (λe=>?_)
   ·have g:=Pc e;refine⟨_,_,hZ.load0 a0 rfl,?_⟩;refine aA (KL bk al r ?_ g.len cn (by omega)) ?_
    ·rcases g.kind with D|D|D
     ·exact⟨1,D,by decide⟩
     ·exact⟨2,D,by decide⟩
     ·exact⟨3,D,by decide⟩
    rintro _ dn ⟨rfl,a',ct,c',cu,cr,cb,b9,da⟩;refine⟨rfl,rs.length-(k+1),by omega,k+1,by omega,by rw[wrJ];omega,rfl,a',ct,c',cu,cr,cb,?_,by omega⟩;rw[b0,if_pos e];exact b9
   ·refine⟨rs.length-(k+1),by omega,k+1,by omega,by rw[wrJ];omega,rfl,a,n,c,M,ac,O,?_,by omega⟩;rw[b0,if_neg (by rw[e];decide),append_nil];exact al
 ·have:k=rs.length:=by omega
  subst this;rw[take_length]at H;exact⟨_,_,_,_,_,_,_,_,rfl,H⟩
theorem qL {w0:World}(dc:Env w0){c1 d3:Nat}{a:Option Addr}{n c:Nat}{ps:List Pth}{d4:List (jZ×Int)}{rs:List Rul}(S:kV w0 bm bE c1 d3 a n c ps d4 z rs w)(c4:h.ok)(dr:h.name.length <=1000000000):
 Cf eZ #[.pointer (some ⟨c1,0,none⟩),h.v] w (Ret λv w'=>v=vI ((zQ rs (aF h).reverse:Nat):Int)/\bW w w'):=by
 apply qB;intro d2 b7 dk ct;have bq:=(ct▸ao w _:bW w b7)
 have c9:au b7 d2 ai h.cells:=au.new dk ct;refine⟨_,aR.load0 c9 (Hst.len c4),?_⟩;refine aA (gw c4 dr b7 (dc.step (S.below bq).hb)) ?_;rintro _ c5 ⟨d7,eb,d8,rfl,cl,-,da⟩;have ca:=ae bq da bq.size;have d9:=iU h;generalize aF h=L at*;have dw:=cl.len;subst dw;have O:L.reverse.length=L.length:=List.length_reverse;refine⟨_,_,_,rfl,_,run_min_int2 _ _ _ _ _ _ _,?_⟩;have ds:=S.h3.len;subst ds;have cf:=S.t.len;refine⟨λm e w'=>∃D q:Nat,m=(D:Int)/\e=(q:Int)/\(if 0<q then q else D)=zQ rs L.reverse/\bW w w',?_,?_⟩
 ·refine⟨λm E b6 bk i w'=>∃k node D q:Nat,k <=L.length/\i=(k:Int)+1/\m=L.length-k/\E=(node:Int)/\b6=(D:Int)/\bk=(q:Int)/\Gl (L.reverse.take k) ps 0=some node/\(L=[]->D=0)/\(L≠[]->Top 1 (lX rs L.reverse k (k-1)) D)/\D <=k+1/\Top 0 (gz rs L.reverse k) q/\q <=k/\bW c5 w',?_,?_⟩
  ·refine⟨_,0,0,(if L=[]then 0 else 1),0,by omega,rfl,rfl,rfl,?_,rfl,S.T.first 0 [] S.T.root,λe=>if_pos e,λe=>?_,?_,?_,Nat.le_refl _,Below.refl _ _⟩
   ·by_cases e:L=[]
    ·subst e;rfl
    ·rw[if_neg e,if_neg (by have:=List.length_pos_iff.2 e;omega)];rfl
   ·rw[if_neg e];exact(Top.zero 1).congr λx=>⟨λh=>h.elim,λ⟨r,_,_,h⟩=>by have:=Df (r:=r);omega⟩
   ·split<;>omega
   ·exact(Top.zero 0).congr λx=>⟨λh=>h.elim,λ⟨r,_,_,h⟩=>by have:=Df (r:=r);omega⟩
  intro m E b6 bk i;refine aQ.of ?_ _;rintro b8 ⟨k,node,D,q,dg,rfl,rfl,rfl,rfl,rfl,d1,cj,ch,dn,b0,ce,aj⟩;have I:=ae ca aj ca.size;have G:=S.below I;have cn:=cl.below aj;simp only[zR];refine af.of (λY=>?_) (λY=>?_)<;>simp only[dTx,dFx]at Y
  ·have V:k<L.length:=by omega
   have b1:L≠[]:=λe=>by rw[e]at V;cases V
   have a9:=(o7 d1).2;rw[Nat.sub_zero]at a9;have b2:node<z.length:=by rw[cf];exact(List.getElem?_eq_some_iff.1 a9).1
   have b5:∀(E:Nat) (p:Pth) (ck:E<z.length),ps[E]? =some p->∀(j:Nat),j<4->∀(vs:List Value),tB4.rep b8 Ds vs z[E]->vs[j]? =some (.bool (rs.any λr=>decide (r.1=(j:Int)/\dm r=p))):=λE p ck d0 j de vs b3=>by
    have cp:=S.t.mark E p d0;rw[List.getElem?_eq_getElem ck]at cp;have b3:vs=z[E].map Value.bool/\z[E].length=4:=b3;rw[b3.1,Option.some.inj cp,List.getElem?_map,Ew _ _ _ de];rfl
   have an:=G.h3.all.isSome b2;have bs:∀x:Int,Option.isSome (av a x 4)=true:=λx=>by
    cases a with
    |none=>cases an
    |some x=>rfl
   have b9:=SK (rs:=rs) (R:=L.reverse) (k:=k) (by rw[O];exact dg) (ch b1) dn;have dp:(if(rs.any λr=>decide (r.1=((2:Nat):Int)/\dm r=L.reverse.take k))=true then k+1 else D) <=k+1:=by split<;>omega
   refine⟨λZ w'=>w'=b8/\Z=(((if(rs.any λr=>decide (r.1=((2:Nat):Int)/\dm r=L.reverse.take k))=true then k+1 else D):Nat):Int),?_,?_⟩
   ·refine⟨rfl,rfl,_,_,_,G.h1.load1 eM rfl rfl,⟨⟨by omega,by omega⟩,an⟩,⟨⟨by decide,by decide⟩,bs _⟩,_,G.h3.all.loadC (P:=prog) bK rfl (k:=4) rfl (i:=node) (j:=2) b2 (by decide) (b5 node _ b2 a9 2 (by decide)),?_⟩;exact af.of (λc=>⟨rfl,by rw[if_pos c];rfl⟩) (λc=>⟨rfl,by rw[if_neg (by rw[c];decide)]⟩)
   intro Z;refine aQ.of ?_ _;rintro ed ⟨cu,rfl⟩;rw[cu];clear cu;generalize (if(rs.any λr=>decide (r.1=((2:Nat):Int)/\dm r=L.reverse.take k))=true then k+1 else D)=mm2 at*;have c8:i64.wrap (((L.length:Nat):Int)-((k:Int)+1))=((L.length-1-k:Nat):Int):=by rw[wrJ];omega
   try dsimp only
   rw[c8];have cb:L.reverse.take (k+1)=L.reverse.take k++[L[L.length-1-k]'(by omega)]:=by
    rw[take_succ_eq_append_getElem (by simpa using V),List.getElem_reverse]
   refine⟨rfl,rfl,_,λu M=>(G.h1.below M).load1 bJ rfl rfl,⟨⟨by omega,by omega⟩,cn.all.isSome (by omega)⟩,_,λu M=>(cn.below M).all.text ax (i:=L.length-1-k) (show L.length-1-k<L.length by omega),?_⟩;generalize L[L.length-1-k]'(by omega)=a0 at*;have U:=G.T.edge node a0;rw[a9]at U;simp only at U;cases X:Gl (L.reverse.take k++[a0]) ps 0 with
   |none=>
    rw[X]at U;refine⟨0,false,λu M=>?_,λwq ar=>af.yes rfl ⟨mm2,q,rfl,rfl,?_,ae I ar I.size⟩⟩
    ·have:=(G.h2.below M).look2 (P:=prog) bJ uj fR ((node:Int),a0);rw[U]at this;exact this
    ·have dx:L.reverse.take (k+1)∉ps:=by rw[cb];exact o0.1 X
     obtain⟨d5,d6⟩:=SJ S.T S.t (R:=L.reverse) (k:=k) (by rw[O];exact V) dx;have bb:mm2=Uu rs L.reverse:=Top.eq (b9.congr d5) (OG rs L.reverse);have bc:q=T1 rs L.reverse:=Top.eq (b0.congr d6) (OE rs L.reverse);unfold zQ;rw[if_neg (λb4=>b1 (List.reverse_eq_nil_iff.1 b4)),bb,bc]
   |some H=>
    rw[X]at U;refine⟨(H:Int),true,λu M=>?_,λwq ar=>af.no rfl ?_⟩
    ·have:=(G.h2.below M).look2 (P:=prog) bJ uj fR ((node:Int),a0);rw[U]at this;exact this
    have ac:=(o7 X).2;rw[Nat.sub_zero]at ac;have al:H<z.length:=by rw[cf];exact(List.getElem?_eq_some_iff.1 ac).1
    have ad:=G.below ar;rw[<- cb]at ac X;have c7:=SI (rs:=rs) (R:=L.reverse) (k:=k) (by rw[O];exact V) b9 dp;have c6:=Nj (rs:=rs) (R:=L.reverse) (k:=k) (by rw[O];exact V) b0 ce;have ea:(if(rs.any λr=>decide (r.1=((1:Nat):Int)/\dm r=L.reverse.take (k+1)))=true then k+1 else mm2) <=k+1:=by split<;>omega
    have dd:(if(rs.any λr=>decide (r.1=((3:Nat):Int)/\dm r=L.reverse.take (k+1)))=true then k else q) <=k+1:=by split<;>omega
    refine⟨λZ w'=>w'=wq/\Z=(((if(rs.any λr=>decide (r.1=((1:Nat):Int)/\dm r=L.reverse.take (k+1)))=true then k+1 else mm2):Nat):Int),?_,?_⟩
    ·refine⟨rfl,rfl,_,_,_,ad.h1.load1 eM rfl rfl,⟨⟨by omega,by omega⟩,an⟩,⟨⟨by decide,by decide⟩,bs _⟩,_,ad.h3.all.loadC (P:=prog) bK rfl (k:=4) rfl (i:=H) (j:=1) al (by decide) (b5 H _ al ac 1 (by decide)),?_⟩;exact af.of (λc=>⟨rfl,by rw[if_pos c];rfl⟩) (λc=>⟨rfl,by rw[if_neg (by rw[c];decide)]⟩)
    intro Z;refine aQ.of ?_ _;rintro ee ⟨c0,rfl⟩;rw[c0];clear c0;have next:∀ag:Nat,ag=(if(rs.any λr=>decide (r.1=((3:Nat):Int)/\dm r=L.reverse.take (k+1)))=true then k else q)->∃c2:Nat,c2<L.length-k/\∃k' c3 a8 bj:Nat,k' <=L.length/\i64.wrap ((k:Int)+1+1)=(k':Int)+1/\c2=L.length-k'/\(H:Int)=(c3:Int)/\(((if(rs.any λr=>decide (r.1=((1:Nat):Int)/\dm r=L.reverse.take (k+1)))=true then k+1 else mm2):Nat):Int)=(a8:Int)/\(ag:Int)=(bj:Int)/\Gl (L.reverse.take k') ps 0=some c3/\(L=[]->a8=0)/\(L≠[]->Top 1 (lX rs L.reverse k' (k'-1)) a8)/\a8 <=k'+1/\Top 0 (gz rs L.reverse k') bj/\bj <=k'/\bW c5 wq:=λag cc=>by
     refine⟨L.length-(k+1),by omega,k+1,H,_,ag,by omega,by rw[wrJ];omega,rfl,rfl,rfl,rfl,X,λe=>absurd e b1,λ_=>c7,by omega,by rw[cc];exact c6,by rw[cc];exact dd,ae aj ar aj.size⟩
    refine⟨rfl,rfl,_,_,_,ad.h1.load1 eM rfl rfl,⟨⟨by omega,by omega⟩,an⟩,⟨⟨by decide,by decide⟩,bs _⟩,_,ad.h3.all.loadC (P:=prog) bK rfl (k:=4) rfl (i:=H) (j:=3) al (by decide) (b5 H _ al ac 3 (by decide)),?_⟩;refine af.of (λc=>?_) (λc=>?_)
    ·have e:i64.wrap ((k:Int)+1-1)=(k:Int):=by rw[wrJ];omega
     try dsimp only
     rw[e];exact next k (by rw[if_pos c])
    ·exact next q (by rw[if_neg (by rw[c];decide)])
  ·have:k=L.length:=by omega
   subst this;refine⟨D,q,rfl,rfl,?_,I⟩;by_cases e:L=[]
   ·subst e;have:=cj rfl;simp only[length_nil]at ce;have:q=0:=by omega
    subst this;unfold zQ;simp[cj rfl]
   ·have dl:=ch e;have bb:D=Uu rs L.reverse:=Top.eq dl (by have:=OG rs L.reverse;rw[O]at this;exact this);have bc:q=T1 rs L.reverse:=Top.eq b0 (by have:=OE rs L.reverse;rw[O]at this;exact this);unfold zQ;rw[if_neg (λb4=>e (List.reverse_eq_nil_iff.1 b4)),bb,bc]
 ·intro b6 bk;refine aQ.of ?_ _;rintro b8 ⟨D,q,rfl,rfl,cr,I⟩;refine af.of (λY=>⟨?_,I⟩) (λY=>⟨?_,I⟩)<;>simp only[gt_iff_lt,dTx,dFx]at Y
  ·rw[<- cr,if_pos (by omega)]
  ·rw[<- cr,if_neg (by omega)]
theorem qK {w0:World}(M:Env w0){V ag:Nat}{a:Option Addr}{n c:Nat}{al:List Pth}{aj:List (jZ×Int)}{rs:List Rul}(S:kV w0 bm bE V ag a n c al aj z rs w)(q:h.ok)(O:h.name.length <=1000000000):
 Cf dh #[.pointer (some ⟨V,0,none⟩),h.v] w (Ret λv w'=>v=.bool (Gm rs h)/\bW w w'):=by
 apply qz;intro ad E Y U;have D:=(U▸ao w _:bW w E)
 have G:au E ad ai h.cells:=au.new Y U;refine⟨_,aR.load0 G (Hst.len q),?_⟩;refine aA (gw q O E (M.step (S.below D).hb)) ?_;rintro _ a8 ⟨an,a0,ar,rfl,ac,-,H⟩;have e:=ae D H D.size;refine⟨_,_,_,rfl,?_⟩;have Z:=ac.len;subst Z;unfold Gm;refine af.of (λI=>?_) (λI=>⟨?_,e⟩)<;>simp only[gt_iff_lt,dTx,dFx]at I
 ·refine⟨_,aR.load0 (G.below H) (Hst.len q),?_⟩;refine aA (qL M (S.below e) q O) ?_;rintro _ a9 ⟨rfl,X⟩;refine⟨_,rfl,?_,ae e X e.size⟩
  try dsimp only
  rw[decide_eq_true (show 0<(aF h).length by omega),Bool.true_and];congr 1;rw[Bool.eq_iff_iff,beq_iff_eq,beq_iff_eq];omega
 ·try dsimp only
  rw[decide_eq_false (show ¬ 0<(aF h).length by omega),Bool.false_and]
theorem Tq (D:h.ok){r:Rul}(g:Dv r)(q:(aF h).length≠0):kO h (Pb r)=true↔(dm r).length<(aF h).reverse.length/\dm r=(aF h).reverse.take (dm r).length:=by
 have e:(aF (Pb r)).length=(dm r).length:=by rw[g.revl,List.length_reverse]
 rw[TQ D (oJ r) q g.ne,<- g.revl,e,List.length_reverse]
theorem Xj (D:h.ok){r:Rul}(g:Dv r)(q:(aF h).length≠0):gA h (Pb r)=true↔dm r=(aF h).reverse:=by
 rw[Yj D (oJ r) q g.ne,g.revl];exact⟨λe=>by rw[e],λe=>(List.reverse_inj.1 e).symm⟩
theorem Xk {R:Pth}{r:Rul} :dm r=R.take (dm r).length↔((dm r).length<R.length/\dm r=R.take (dm r).length)\/dm r=R:=by
 constructor
 ·intro h;by_cases c:(dm r).length<R.length
  ·exact .inl ⟨c,h⟩
  ·refine .inr ?_;have:=yI h;rw[take_of_length_le (by omega)]at h;exact h
 ·rintro(h|h)
  ·exact h.2
  ·rw[h,take_length]
theorem ss {c0 b0:Nat}{rs:List Rul}(cr:Sl MS w A p c0 b0 rs)(d7:rs.length <=1000000)(da:∀r∈rs,r.2.length <=80000000)(H:h.ok)(ck:h.name.length <=80000000):
 Cf kj #[.slice p c0 b0,h.v] w (Ret λv w'=>v=vI ((zQ (rs.filter eo) (aF h).reverse:Nat):Int)/\bW w w'):=by
 apply CH;intro dc bs c4 cu;have b8:=(cu▸ao w _:bW w bs)
 have b4:au bs dc ai h.cells:=au.new c4 cu;refine⟨_,aR.load0 b4 (Hst.len H),?_⟩;refine aA (fG H ck bs) ?_;rintro _ dn ⟨dx,ed,d1,rfl,c8,-,cc⟩;have an:=ae b8 cc b8.size;have c7:=c8.len;subst c7;refine⟨_,_,_,rfl,af.of (λO=>⟨?_,an⟩) (λO=>?_)⟩
 ·have:aF h=[]:=List.length_eq_zero_iff.1 (by have:=eq_of_beq O;omega);rw[this];rfl
 have bk:(aF h).length≠0:=by have:=beq_eq_false_iff_ne.1 O;omega
 have c3:(aF h).reverse≠[]:=λD=>bk (by rw[List.reverse_eq_nil_iff.1 D];rfl);have b5:=b4.below cc;have c6:=cr.len;subst c6;refine⟨λm c1 b1 i w'=>∃k:Nat,k <=rs.length/\i=(k:Int)/\m=rs.length-k/\c1=((Uu ((rs.take k).filter eo) (aF h).reverse:Nat):Int)/\b1=((T1 ((rs.take k).filter eo) (aF h).reverse:Nat):Int)/\bW dn w',⟨_,0,by omega,rfl,rfl,rfl,rfl,Below.refl _ _⟩,?_⟩;intro m c1 b1 i;refine aQ.of ?_ _;rintro dp ⟨k,d4,rfl,rfl,rfl,rfl,a8⟩;have Y:=ae an a8 an.size;refine af.of (λbj=>?_) (λbj=>?_)<;>simp only[dTx,dFx]at bj
 ·have ac:k<rs.length:=by omega
  have ct:=cr.below Y;have c5:=da _ (getElem_mem ac);refine⟨⟨⟨by omega,bj⟩,ct.isSome ac⟩,_,_,JK ct ac,?_⟩;have V:(rs.take (k+1)).filter eo=(rs.take k).filter eo++(if eo rs[k]=true then[rs[k]]else[]):=by
   rw[take_succ_eq_append_getElem ac,List.filter_append];congr 1;rw[filter_cons,List.filter_nil]
  generalize rs[k]=r at*;refine hZ.new (zs:=xA (0,[])) (cs:=xA r) rfl rfl (Ak r) dp λeb dr d6 b7 ch=>?_;have d2:=ae Y ch Y.size;have cf:=ae a8 ch a8.size;refine⟨_,_,hZ.load0 b7 rfl,?_⟩;refine aA (GS r c5 dr) ?_;rintro _ ds ⟨rfl,cj⟩;have bc:=ae cf cj cf.size;have al:=b7.below cj;refine⟨_,rfl,af.of (λM=>?_) (λM=>?_)⟩
  ·rw[Bool.not_eq_true']at M;rw[if_neg (by rw[M];decide),append_nil]at V;exact⟨rs.length-(k+1),by omega,k+1,by omega,by rw[wrJ];omega,rfl,by rw[V],by rw[V],bc⟩
  rw[Bool.not_eq_false']at M;rw[if_pos M]at V;have g:=Pc M;have ca:Uu ((rs.take (k+1)).filter eo) (aF h).reverse=HU (aF h).reverse (Uu ((rs.take k).filter eo) (aF h).reverse) r:=by
   rw[V];unfold Uu;rw[foldl_append];rfl
  have b9:T1 ((rs.take (k+1)).filter eo) (aF h).reverse=Mr (aF h).reverse (T1 ((rs.take k).filter eo) (aF h).reverse) r:=by
   rw[V];unfold T1;rw[foldl_append];rfl
  generalize Uu ((rs.take k).filter eo) (aF h).reverse=G at*;generalize T1 ((rs.take k).filter eo) (aF h).reverse=ee at*;have X:=Tq H g bk;have cn:=Xj H g bk;have ad:=Xk (R:=(aF h).reverse) (r:=r);have cp:(dm r).length=(bR 46 [] r.2).length:=by unfold dm;rw[List.length_reverse]
  have d8:=Df (r:=r);refine⟨rfl,_,al.load1 ax rfl rfl,?_⟩;refine aA (gx r.2 46 (by omega) ds) ?_;rintro _ dg ⟨dw,eg,d0,rfl,c9,-,ar⟩;have ce:=ae bc ar bc.size;have cl:=c9.len;rw[<- cp]at cl;subst cl;have d3:(dm r).length <=254:=by rw[cp];have:=dJ 46 r.2 [];have:=g.len;omega
  refine⟨_,_,_,rfl,rfl,_,(al.below ar).load1 ax rfl rfl,?_⟩;refine aR.new (zs:=gO.cells) (cs:=(Pb r).cells) rfl rfl (Hst.one _) dg λea dk d5 b2 cb=>?_;have a9:=ae ce cb ce.size;refine⟨_,aR.load0 (b5.below a9) (Hst.len H),_,aR.load0 b2 (Hst.len (oJ r)),?_⟩;refine aA (va H (oJ r) ck (show r.2.length <=80000000 by have:=g.len;omega) dk) ?_;rintro _ I ⟨rfl,a0⟩;have bb:=ae a9 a0 a9.size;have c2:=(((al.below ar).below cb).below a0)
  have b6:=b5.below bb;have b3:=b2.below a0;refine⟨_,rfl,?_⟩;have bq:=c2.load1 (P:=prog) (i:=0) bC rfl rfl;generalize d9:kO h (Pb r)=ag at*;refine⟨λn w'=>w'=I/\n=(((if r.1=1/\dm r=(aF h).reverse.take (dm r).length then max G (dm r).length else G):Nat):Int),?_,?_⟩
  ·refine gS (w:=I) (decide (r.1=1/\dm r=(aF h).reverse.take (dm r).length)) ?_ ?_
   ·refine⟨rfl,_,bq,af.of (λe=>?_) (λe=>⟨rfl,(decide_eq_false (λE=>beq_eq_false_iff_ne.1 e E.1)).symm⟩)⟩;have e:=eq_of_beq e;refine af.of (λq=>⟨rfl,(decide_eq_true ⟨e,ad.2 (.inl (X.1 q))⟩).symm⟩) (λq=>?_);refine⟨_,aR.load0 b6 (Hst.len H),_,aR.load0 b3 (Hst.len (oJ r)),_,xY H (oJ r) I,rfl,?_⟩;rw[Bool.eq_iff_iff,dTx,cn,ad];exact⟨λD=>⟨e,.inr D⟩,λD=>D.2.elim (λD=>by rw[X.2 D]at q;cases q) id⟩
   ·refine af.of (λe=>?_) (λe=>⟨rfl,by rw[if_neg (of_decide_eq_false e)]⟩);refine⟨_,run_max_int2 _ _ _ _ _ _ _,rfl,?_⟩;rw[if_pos (of_decide_eq_true e)];split<;>omega
  intro de;refine aQ.of ?_ _;rintro dl ⟨Z,rfl⟩;rw[Z];clear Z;refine⟨λn w'=>w'=I/\n=((HU (aF h).reverse G r:Nat):Int),?_,?_⟩
  ·have U:HU (aF h).reverse G r=if r.1=2/\ag=true then max (if r.1=1/\dm r=(aF h).reverse.take (dm r).length then max G (dm r).length else G) ((dm r).length+1)else(if r.1=1/\dm r=(aF h).reverse.take (dm r).length then max G (dm r).length else G):=by
    unfold HU;by_cases e:r.1=1
    ·have dd: ¬ (r.1=2/\ag=true):=λE=>by rw[e]at E;exact absurd E.1 (by decide)
     rw[if_neg dd];by_cases q:dm r=(aF h).reverse.take (dm r).length
     ·rw[if_pos q,if_pos e,if_pos ⟨e,q⟩]
     ·rw[if_neg q,if_neg (show ¬ (r.1=1/\dm r=(aF h).reverse.take (dm r).length) from λE=>q E.2)]
    ·rw[if_neg (show ¬ (r.1=1/\dm r=(aF h).reverse.take (dm r).length) from λE=>e E.1)];by_cases q:r.1=2/\ag=true
     ·have:=X.1 q.2;rw[if_pos q,if_pos this.2,if_neg e,if_pos ⟨q.1,this.1⟩]
     ·rw[if_neg q];by_cases aj:dm r=(aF h).reverse.take (dm r).length
      ·rw[if_pos aj,if_neg e,if_neg (λE=>q ⟨E.1,X.2 ⟨E.2,aj⟩⟩)]
      ·rw[if_neg aj]
   rw[U];generalize (if r.1=1/\dm r=(aF h).reverse.take (dm r).length then max G (dm r).length else G)=ef;refine gS (w:=I) (decide (r.1=2/\ag=true)) ?_ ?_
   ·refine⟨rfl,_,bq,af.of (λe=>⟨rfl,?_⟩) (λe=>⟨rfl,(decide_eq_false (λE=>beq_eq_false_iff_ne.1 e E.1)).symm⟩)⟩;rw[Bool.eq_iff_iff,dTx];exact⟨λD=>⟨eq_of_beq e,D⟩,λD=>D.2⟩
   ·refine af.of (λe=>?_) (λe=>⟨rfl,by rw[if_neg (of_decide_eq_false e)]⟩);refine⟨_,run_max_int2 _ _ _ _ _ _ _,rfl,?_⟩;rw[if_pos (of_decide_eq_true e),wrJ];split<;>omega
  intro de;refine aQ.of ?_ _;rintro dl ⟨Z,rfl⟩;rw[Z];clear Z;refine gS (w:=I) (decide (dm r=(aF h).reverse.take (dm r).length/\r.1=3)) ?_ ?_
  ·refine⟨rfl,_,bq,af.of (λe=>?_) (λe=>⟨rfl,(decide_eq_false (λE=>beq_eq_false_iff_ne.1 e E.2)).symm⟩)⟩;have e:=eq_of_beq e;refine af.of (λq=>⟨rfl,(decide_eq_true ⟨ad.2 (.inl (X.1 q)),e⟩).symm⟩) (λq=>?_);refine⟨_,aR.load0 b6 (Hst.len H),_,aR.load0 b3 (Hst.len (oJ r)),_,xY H (oJ r) I,rfl,?_⟩;rw[Bool.eq_iff_iff,dTx,cn,ad];exact⟨λD=>⟨.inr D,e⟩,λD=>D.1.elim (λD=>by rw[X.2 D]at q;cases q) id⟩
  ·have U:Mr (aF h).reverse ee r=if dm r=(aF h).reverse.take (dm r).length/\r.1=3 then max ee ((dm r).length-1)else ee:=rfl;refine af.of (λe=>?_) (λe=>?_)
   ·rw[if_pos (of_decide_eq_true e)]at U;refine⟨_,run_max_int2 _ _ _ _ _ _ _,rs.length-(k+1),by omega,k+1,by omega,by rw[wrJ];omega,rfl,by rw[ca],?_,bb⟩;rw[b9,U,wrJ];split<;>omega
   ·rw[if_neg (of_decide_eq_false e)]at U;exact⟨rs.length-(k+1),by omega,k+1,by omega,by rw[wrJ];omega,rfl,by rw[ca],by rw[b9,U],bb⟩
 ·have:k=rs.length:=by omega
  subst this;rw[take_length];unfold zQ;rw[if_neg c3];refine af.of (λO=>⟨?_,Y⟩) (λO=>⟨?_,Y⟩)<;>simp only[gt_iff_lt,dTx,dFx]at O
  ·rw[if_pos (by omega)]
  ·rw[if_neg (by omega)]
theorem EC {rs:List Rul}(ad:Sl MS w A p n m rs)(X:rs.length <=1000000)(ac:∀r∈rs,r.2.length <=80000000)(q:h.ok)(M:h.name.length <=80000000):
 Cf ov #[.slice p n m,h.v] w (Ret λv w'=>v=.bool (Gm (rs.filter eo) h)/\bW w w'):=by
 apply CF;intro ag D V O;have G:=(O▸ao w _:bW w D)
 have E:au D ag ai h.cells:=au.new V O;refine⟨_,aR.load0 E (Hst.len q),?_⟩;refine aA (fG q M D) ?_;rintro _ ar ⟨aj,an,al,rfl,Z,-,H⟩;have e:=ae G H G.size;refine⟨_,_,_,rfl,?_⟩;have Y:=Z.len;subst Y;unfold Gm;refine af.of (λI=>?_) (λI=>⟨?_,e⟩)<;>simp only[gt_iff_lt,dTx,dFx]at I
 ·refine⟨_,aR.load0 (E.below H) (Hst.len q),?_⟩;refine aA (ss (ad.below e) X ac q M) ?_;rintro _ a0 ⟨rfl,U⟩;refine⟨_,rfl,?_,ae e U e.size⟩
  try dsimp only
  rw[decide_eq_true (show 0<(aF h).length by omega),Bool.true_and];congr 1;rw[Bool.eq_iff_iff,beq_iff_eq,beq_iff_eq];omega
 ·try dsimp only
  rw[decide_eq_false (show ¬ 0<(aF h).length by omega),Bool.false_and]
def nmL:List lU:=[[],[78,111,110,101],[76,97,120],[83,116,114,105,99,116]]
def nmV:Value:=.agg (nmL.map λs=>vS s).toArray
def GC (v:lU):Nat->Int
 |0=>0
 |k+1=>if cv (nmL[k]?.getD [])=cv v then(k:Int)else GC v k
theorem Qb (v:lU):GC v 4=KH v:=by
 have D:cv (nmL[0]?.getD [])=[]:=rfl;have E:cv (nmL[1]?.getD [])=[110,111,110,101]:=by decide
 have G:cv (nmL[2]?.getD [])=[108,97,120]:=by decide
 have H:cv (nmL[3]?.getD [])=[115,116,114,105,99,116]:=by decide
 unfold GC GC GC GC GC KH;rw[D,E,G,H];generalize cv v=x;by_cases h1:x=[110,111,110,101]
 ·subst h1;rfl
 ·by_cases e:x=[108,97,120]
  ·subst e;rfl
  ·by_cases q:x=[115,116,114,105,99,116]
   ·subst q;rfl
   ·rw[if_neg (Ne.symm q),if_neg (Ne.symm e),if_neg (Ne.symm h1),if_neg h1,if_neg e,if_neg q];split<;>rfl
def nameOf (l:lU):lU×lU:=if Jn l then(iB l,gQ l)else([],iB l)
def gP (h:Hdr)(x:lU):Hdr:=if(gQ x).length <=1024 then mn h (cv (iB x)) (gQ x)else h
def bI (s:lU):Hdr×Int:=
 if s.any jE=true then(lS,81)
 else if(nameOf ((bR 59 [] s).headD [])).1++(nameOf ((bR 59 [] s).headD [])).2=[]then(lS,82)
 else if 4096<(nameOf ((bR 59 [] s).headD [])).1.length+(nameOf ((bR 59 [] s).headD [])).2.length then(lS,83)
 else(((bR 59 [] s).drop 1).foldl gP { lS with name:=(nameOf ((bR 59 [] s).headD [])).1,value:=(nameOf ((bR 59 [] s).headD [])).2 },0)
theorem xF (s:lU):(iB s).length <=s.length:=Nat.le_trans (AD _ _) (dF _ _)
theorem xE (s:lU):(gQ s).length <=s.length:=by
 have h1:=AD mJ ((s.dropWhile (· !=61)).drop 1);have e:=(List.dropWhile_sublist (· !=(61:UInt8)) (l:=s)).length_le;rw[length_drop]at h1;unfold gQ trimB;omega
theorem WX (h:Hdr):∀c∈h.v.cells.toList,c.oneCell'=true:=by
 intro c e;simp only[Hdr.v,Value.cells,Hdr.cells,List.mem_cons,List.mem_nil_iff,or_false]at e;rcases e with rfl|rfl|rfl|rfl|rfl|rfl|rfl|rfl|rfl|rfl|rfl<;>rfl
theorem Eg (h:Hdr){vs:List Value}(D:au w k aq vs)(H:vs.length=11):
 ∃e,(Instr.storeAt aq (.pointer (some ⟨k,0,none⟩)) h.v).run prog w=.ok () e/\au e k aq h.cells/\w.grownBy e (some k):=by
 obtain⟨e,G,q,E⟩:=D.store (P:=prog) yK (i:=0) (v:=h.v) rfl (by omega) (WX h);refine⟨e,G,?_,E⟩;rw[List.take_zero,nil_append,List.drop_eq_nil_of_le (by omega),append_nil]at q;exact q
theorem fY (h:Hdr)(q:au w k aq h.cells):(Instr.loadAt aq (.pointer (some ⟨k,0,none⟩))).run prog w=.ok h.v w:=by
 obtain⟨H,E,D,_,_⟩:=yK.info;cases e:prog.underlying aq with
 |none=>
  have:(prog.underlying aq).map CX=some true:=by kernel_rfl
  rw[e]at this;cases this
 |some d=>
  have:(prog.underlying aq).map CX=some true:=by kernel_rfl
  rw[e]at this;simp only[map_some,Option.some.injEq]at this;exact q.loadA e this E (us:=h.cells) (i:=0) (by rw[D];rfl) (λj G=>by rw[Nat.zero_add])
theorem sb (h:Hdr){w w':World}{vs:List Value}(Z:au w' n aq vs)(al:vs.length=11)(H:bW w w')(aj:w.heap.size <=n){e:Int}{K:Value->World->Prop}
 (ad:∀wx,bW w wx->K (.tuple #[h.v,vI e]) wx):
 ∃(wx:World),(Instr.storeAt aq (.pointer (some ⟨n,0,none⟩)) h.v).run prog w'=.ok () wx/\
  ∃(U:lU) (V:lU) (X:lU) (Y:lU) (q:Bool) (M:Int) (D:Bool) (O:Int) (E:Bool) (G:Bool) (I:Int),
   (aS aq (.pointer (some ⟨n,0,none⟩))).run prog wx=.ok (.agg #[vS U,vS V,vS X,vS Y,.bool q,vI M,.bool D,vI O,.bool E,.bool G,vI I]) wx/\
   K (.tuple #[.agg #[vS U,vS V,vS X,vS Y,.bool q,vI M,.bool D,vI O,.bool E,.bool G,vI I],vI e]) wx:=by
 obtain⟨wx,an,ac,ag⟩:=Eg h Z al;exact⟨wx,an,h.name,h.value,h.domain,h.path,h.hasE,h.exp,h.hasA,h.age,h.sec,h.http,h.same,au.res (fY h ac),ad wx (H.grown ag H.size λx e=>by cases e;exact aj)⟩
theorem mH (w:World):Cf iD #[] w (Ret λv w'=>v=nmV/\bW w w'):=by
 apply Cs;intro k D U q;have hB:=(q▸ao w _:bW w D)
 have M:au D k cX (replicate 4 (vS [])):=au.new U q;obtain⟨E,V,H,O⟩:=M.store (P:=prog) vj (i:=0) (v:=nmV) rfl (by decide) (by
  intro c e;simp only[nmV,Value.cells]at e;obtain⟨s,_,rfl⟩:=List.mem_map.1 (by simpa using e);rfl)
 have I:au E k cX (nmL.map λs=>vS s):=H;obtain⟨ac,Y,X,_,_⟩:=vj.info;refine⟨E,V,_,_,_,_,au.res (I.loadA H0 rfl Y (us:=nmL.map λs=>vS s) (i:=0) (by rw[X];rfl) (λj Z=>by rw[Nat.zero_add])),rfl,hB.grown O hB.size λx G=>by cases G;omega⟩
theorem OR (w:World):∀k:Nat,k<4->(Instr.index cX nmV (vI (k:Int))).run prog w=.ok (vS (nmL[k]?.getD [])) w
 |0,_=>by kernel_rfl
 |1,_=>by kernel_rfl
 |2,_=>by kernel_rfl
 |3,_=>by kernel_rfl
 |n+4,h=>by omega
def Od (k:Nat)(h:Hdr)(w:World)(v:Value)(w':World):Prop:=v=.tuple #[]/\au w' k aq h.cells/\w.grownBy w' (some k)
theorem gR {h:Hdr}{w w':World}(e:au w' k aq h.cells)(q:w.grownBy w' (some k)):Od k h w (.tuple #[]) w':=⟨rfl,e,q⟩
theorem xc (k:Nat)(h:Hdr)(key value:lU)(cb:value.length <=100000)(w:World)(O:au w k aq h.cells):
 Cf jv #[.pointer (some ⟨k,0,none⟩),vS key,vS value] w (Ret (Od k (mn h key value) w)):=by
 apply uF;simp only[zR];have e:Option.isSome (some (⟨k,0,none⟩:Addr))=true:=rfl;have b4:=PT w (some k);have b9:∀b:Bool,(Value.bool b).cells= #[Value.bool b]:=λ_=>rfl;refine af.of (λh1=>?_) (λh1=>?_)
 ·rw[beq_iff_eq]at h1;refine aA (Gv value (by omega) w) ?_;rintro _ b1 ⟨rfl,U⟩;have X:=O.below U;have aj:=dM U (some k);unfold mn;rw[if_pos h1];unfold zV;by_cases a0:uy (kN value)
  ·rw[if_pos a0,if_pos a0];refine⟨_,_,rfl,af.yes rfl ⟨e,e,?_⟩⟩;obtain⟨q,G,D,E⟩:=X.put (P:=prog) jP (i:=4) (v:=.bool true) (by simp[Hdr.cells]) rfl rfl;refine⟨q,G,e,e,?_⟩;obtain⟨Y,an,ag,al⟩:=D.put (P:=prog) iO (i:=5) (v:=vI (iv (kN value))) (by simp[Hdr.cells]) rfl rfl;exact⟨Y,an,gR ag (cg (cg aj E) al)⟩
  ·rw[if_neg a0,if_neg a0];exact⟨_,_,rfl,af.no rfl (gR X aj)⟩
 rw[beq_eq_false_iff_ne]at h1;refine af.of (λI=>?_) (λI=>?_)
 ·rw[beq_iff_eq]at I;refine aA (Jp value (by omega) w) ?_;rintro _ b1 ⟨rfl,U⟩;have X:=O.below U;have aj:=dM U (some k);unfold mn;rw[if_neg h1,if_pos I];unfold VH;cases Oi value with
  |none=>exact⟨_,_,rfl,af.no rfl (gR X aj)⟩
  |some n=>
   refine⟨_,_,rfl,af.yes rfl ⟨e,e,?_⟩⟩;obtain⟨q,G,D,E⟩:=X.put (P:=prog) jP (i:=6) (v:=.bool true) (by simp[Hdr.cells]) rfl rfl;refine⟨q,G,e,e,?_⟩;obtain⟨Y,an,ag,al⟩:=D.put (P:=prog) iO (i:=7) (v:=vI n) (by simp[Hdr.cells]) rfl rfl;exact⟨Y,an,gR ag (cg (cg aj E) al)⟩
 rw[beq_eq_false_iff_ne]at I;refine af.of (λM=>?_) (λM=>?_)
 ·rw[beq_iff_eq]at M;refine(Tryz.strings_TrimPrefix (mkS value) (mkS [46]) w).mono ?_;rintro _ _ ⟨rfl,rfl⟩;have a8:Lib.trimPrefix (mkS value).data.toList (mkS [46]).data.toList=if value.head?=some 46 then value.drop 1 else value:=(ym value 46).2;rw[a8];refine⟨(if value.head?=some 46 then value.drop 1 else value),rfl,?_⟩;refine aA (eA _ (by split<;>(try rw[length_drop])<;>omega) _) ?_;rintro _ b1 ⟨rfl,U⟩;refine⟨_,rfl,e,e,?_⟩;have X:=O.below U;obtain⟨q,G,D,E⟩:=X.put (P:=prog) cK (i:=2) (v:=vS (cv (if value.head?=some 46 then value.drop 1 else value))) (by simp[Hdr.cells]) rfl rfl;refine⟨q,G,gR ?_ (cg (dM U (some k)) E)⟩;unfold mn;rw[if_neg h1,if_neg I,if_pos M];exact D
 rw[beq_eq_false_iff_ne]at M;refine af.of (λV=>?_) (λV=>?_)
 ·rw[beq_iff_eq]at V;refine⟨e,e,?_⟩;obtain⟨q,G,D,E⟩:=O.put (P:=prog) cK (i:=3) (v:=vS []) (by simp[Hdr.cells]) rfl rfl;refine⟨q,G,?_⟩;refine(Tryz.strings_HasPrefix (mkS value) (mkS [47]) q).mono ?_;rintro _ _ ⟨rfl,rfl⟩;have a8:Lib.hasPrefix (mkS value).data.toList (mkS [47]).data.toList=decide (value.head?=some 47):=(ym value 47).1;rw[a8];refine⟨_,rfl,?_⟩;unfold mn;rw[if_neg h1,if_neg I,if_neg M,if_pos V];refine af.of (λH=>?_) (λH=>?_)<;>simp only[dTx,dFx]at H
  ·refine⟨e,e,?_⟩;obtain⟨Y,an,ag,al⟩:=D.put (P:=prog) cK (i:=3) (v:=vS value) (by simp[Hdr.cells]) rfl rfl;refine⟨Y,an,gR ?_ (cg E al)⟩;rw[if_pos H];exact ag
  ·rw[if_neg H];exact gR D E
 rw[beq_eq_false_iff_ne]at V;refine af.of (λH=>?_) (λH=>?_)
 ·rw[beq_iff_eq]at H;refine⟨e,e,?_⟩;obtain⟨q,G,D,E⟩:=O.put (P:=prog) jP (i:=8) (v:=.bool true) (by simp[Hdr.cells]) rfl rfl;refine⟨q,G,gR ?_ E⟩;unfold mn;rw[if_neg h1,if_neg I,if_neg M,if_neg V,if_pos H];exact D
 rw[beq_eq_false_iff_ne]at H;refine af.of (λZ=>?_) (λZ=>?_)
 ·rw[beq_iff_eq]at Z;refine⟨e,e,?_⟩;obtain⟨q,G,D,E⟩:=O.put (P:=prog) jP (i:=9) (v:=.bool true) (by simp[Hdr.cells]) rfl rfl;refine⟨q,G,gR ?_ E⟩;unfold mn;rw[if_neg h1,if_neg I,if_neg M,if_neg V,if_neg H,if_pos Z];exact D
 rw[beq_eq_false_iff_ne]at Z;unfold mn;rw[if_neg h1,if_neg I,if_neg M,if_neg V,if_neg H,if_neg Z];refine af.of (λac=>?_) (λac=>?_)
 ·rw[beq_iff_eq]at ac;rw[if_pos ac];refine⟨e,e,?_⟩;obtain⟨q,G,D,E⟩:=O.put (P:=prog) fR (i:=10) (v:=vI 0) (by simp[Hdr.cells]) rfl rfl;refine⟨q,G,?_⟩;refine aA (mH q) ?_;rintro _ Y ⟨rfl,bj⟩;refine⟨_,_,_,_,rfl,?_⟩;refine⟨λm i w'=>∃j:Nat,j <=4/\i=(j:Int)/\m=4-j/\au w' k aq ({ h with same:=GC value j } :Hdr).cells/\w.grownBy w' (some k),
   ⟨_,0,by omega,rfl,rfl,D.below bj,cg E (dM bj _)⟩,?_⟩
  intro m i;refine aQ.of ?_ _;rintro b2 ⟨j,ca,rfl,rfl,a9,bq⟩;refine af.of (λbb=>?_) (λbb=>?_)<;>simp only[dTx,dFx]at bb
  ·have b0:j<4:=by omega
   have b3:i64.wrap ((j:Int)+1)=((j+1:Nat):Int):=by rw[wrJ];omega
   try dsimp only
   rw[b3];have cc:(nmL[j]?.getD []).length <=6:=by
    have:∀j,j<4->(nmL[j]?.getD []).length <=6:=by decide
    exact this j b0
   refine⟨_,OR b2 j b0,?_⟩;refine aA (qq _ value (by omega) (by omega) b2) ?_;rintro _ ce ⟨rfl,bk⟩;have bc:=a9.below bk;have bs:=cg bq (dM bk (some k));refine⟨_,rfl,?_⟩;have ar:GC value (j+1)=if cv (nmL[j]?.getD [])=cv value then(j:Int)else GC value j:=rfl;refine af.of (λad=>?_) (λad=>?_)
   ·rw[beq_iff_eq]at ad;rw[if_pos ad]at ar;refine⟨e,e,?_⟩;obtain⟨b8,b7,b5,b6⟩:=bc.put (P:=prog) fR (i:=10) (v:=vI (j:Int)) (by simp[Hdr.cells]) rfl rfl;refine⟨b8,b7,4-(j+1),by omega,j+1,by omega,rfl,rfl,?_,cg bs b6⟩;rw[ar];exact b5
   ·rw[beq_eq_false_iff_ne]at ad;rw[if_neg ad]at ar;refine⟨4-(j+1),by omega,j+1,by omega,rfl,rfl,?_,bs⟩;rw[ar];exact bc
  ·have:j=4:=by omega
   subst this;rw[Qb]at a9;exact gR a9 bq
 ·rw[beq_eq_false_iff_ne]at ac;rw[if_neg ac];exact gR O b4
def xC (s:lU)(w:World)(v:Value)(w':World):Prop:=v=.tuple #[(bI s).1.v,vI (bI s).2]/\bW w w'
theorem Ed (s:lU):(bR 59 [] s).length≠0/\∀h:0<(bR 59 [] s).length,(bR 59 [] s)[0]=(bR 59 [] s).headD []:=by
 have h:=gT 59 s [];cases e:bR 59 [] s with
 |nil=>exact absurd e h
 |cons x l=>exact⟨by simp,λ_=>rfl⟩
theorem oY {a:Option Addr}{n c:Nat}{xs:List lU}(h:Sl tS w A a n c xs)(e:i<xs.length):(Instr.loadAt ak (.pointer (av a (i:Int) 1))).run prog w=.ok (.string (mkS xs[i])) w:=by
 obtain⟨v,D,q⟩:=h.load1 (i:=(i:Int)) ax rfl rfl (by simpa using e);obtain⟨rfl,-⟩:=iX q;simpa using D
theorem sd (s:lU)(er:s.length <=2000000000)(w:World)(bk:Env w):Cf ki #[vS s] w (Ret (xC s w)):=by
 apply Cq;intro k2 an dk b2;have b7:=(b2▸ao w _:bW w an)
 have c5:au an k2 aq lS.cells:=au.new dk b2;have aj:w.heap.size <=k2:=by omega
 have es:an.heap.size=w.heap.size+1:=by rw[b2];simp
 refine aA (Aa s (by omega) an) ?_;rintro _ d7 ⟨rfl,ca⟩;have V:=ae b7 ca b7.size;have b8:=c5.below ca;refine⟨_,rfl,?_⟩;have post:∀{h:Hdr} {e:Int},bI s=(h,e)->∀wx,bW w wx->xC s w (.tuple #[h.v,vI e]) wx:=λdx wx D=>⟨by rw[dx],D⟩
 refine af.of (λh1=>?_) (λh1=>?_)
 ·exact sb lS b8 rfl V aj (post (by unfold bI;rw[if_pos h1]))
 have c4: ¬ s.any jE=true:=by rw[h1];decide
 refine aA (eB s 59 (by omega) d7 (bk.step V)) ?_;rintro _ c0 ⟨a,n,c,rfl,cl,ee,cb⟩;have a8:=ae V cb V.size;have b9:=b8.below cb;refine⟨_,_,_,rfl,?_⟩;intro k5 b3 dl cr;have bj:=(cr▸ao c0 _:bW c0 b3)
 have a9:=ae a8 bj a8.size;have c6:=b9.below bj;have da:au b3 k5 aq lS.cells:=au.new dl cr;have al:=cl.below bj;have ei:=b9.lt;have ch:k2≠k5:=by omega
 have dn:w.heap.size <=k5:=by have:=a8.size;omega
 have dw:∀g,eP a=some g->g≠k5:=λg bq e=>by have:=cl.lt g bq;omega
 have dp:=al.len;obtain⟨eg,cc⟩:=Ed s;have cf:∀x∈bR 59 [] s,x.length <=s.length:=λx d3=>by simpa using ia 59 s [] x d3
 have q:bI s=if(nameOf ((bR 59 [] s).headD [])).1++(nameOf ((bR 59 [] s).headD [])).2=[]then(lS,82)
  else if 4096<(nameOf ((bR 59 [] s).headD [])).1.length+(nameOf ((bR 59 [] s).headD [])).2.length then(lS,83)
  else(((bR 59 [] s).drop 1).foldl gP { lS with name:=(nameOf ((bR 59 [] s).headD [])).1,value:=(nameOf ((bR 59 [] s).headD [])).2 },0):=by
  unfold bI;rw[if_neg c4]
 have eb:=dJ 59 s [];generalize bR 59 [] s=L at*;have O:0<L.length:=by omega
 subst dp;have ct:=oY al.all O;rw[cc O]at ct;have d4:=cf _ (getElem_mem O);rw[cc O]at d4;generalize L.headD []=M at*;refine⟨⟨⟨by decide,by omega⟩,al.all.isSome O⟩,M,ct,?_⟩;refine aA (uT M (by omega) b3 (bk.step a9)) ?_;rintro _ d8 ⟨rfl,ac⟩;have X:=ae a9 ac a9.size;refine⟨_,_,_,rfl,?_⟩;have el:=xF M;have em:=xE M;refine⟨λa b w'=>w'=d8/\a=(nameOf M).1/\b=(nameOf M).2,?_,?_⟩
 ·unfold nameOf;cases Jn M
  ·exact af.yes rfl ⟨rfl,rfl,rfl⟩
  ·exact af.no rfl ⟨rfl,rfl,rfl⟩
 intro G I;refine aQ.of ?_ _;rintro ew ⟨d2,ck,cp⟩;subst d2;have ek:G.length <=s.length/\I.length <=s.length:=by
  rw[ck,cp];unfold nameOf;split
  ·exact⟨by simp only;omega,by simp only;omega⟩
  ·exact⟨by simp,by simp only;omega⟩
 rw[<- ck,<- cp]at q;refine⟨fits (by omega),?_⟩;rintro _ rfl;have bb:=c6.below ac;have dc:=da.below ac;have ds:=al.below ac;refine af.of (λU=>?_) (λU=>?_)
 ·rw[beq_iff_eq]at U;rw[if_pos U]at q;exact sb lS bb rfl X aj (post q)
 rw[beq_eq_false_iff_ne]at U;rw[if_neg U]at q;rw[wrJ];refine af.of (λb4=>?_) (λb4=>?_)<;>simp only[gt_iff_lt,dTx,dFx]at b4
 ·rw[if_pos (by omega)]at q;exact sb lS bb rfl X aj (post q)
 rw[if_neg (by omega)]at q;refine⟨rfl,?_⟩;obtain⟨d9,d0,dd,c7⟩:=dc.put (P:=prog) cK (i:=0) (v:=vS G) (by simp[Hdr.cells]) rfl rfl;refine⟨d9,d0,rfl,?_⟩;obtain⟨c1,d1,de,c8⟩:=dd.put (P:=prog) cK (i:=1) (v:=vS I) (by simp[Hdr.cells]) rfl rfl;have b0:=cg c7 c8;have dg:au c1 k5 aq ({ lS with name:=G,value:=I } :Hdr).cells:=de;have ce:∀x,some k5=some x->w.heap.size <=x:=λx e=>by cases e;exact dn
 refine⟨c1,d1,⟨by decide,by omega⟩,?_⟩;have W2:∀{u cu:World},Ow tS ak u NoB a L.length c L->u.grownBy cu (some k5)->Ow tS ak cu NoB a L.length c L:=λdr bq=>dr.keep (eD bq λb D e=>by
  rcases D with D|D
  ·exact D
  ·exact dw b D.symm (Option.some.inj e))
 have c2:Int.toNat (1:Int)=1:=rfl;rw[c2];refine⟨λm i w'=>∃j:Nat,j <=(L.drop 1).length/\i=(j:Int)/\m=(L.drop 1).length-j/\au w' k5 aq (((L.drop 1).take j).foldl gP { lS with name:=G,value:=I }).cells/\
  au w' k2 aq lS.cells/\Ow tS ak w' NoB a L.length c L/\bW w w',
  ⟨_,0,by omega,rfl,rfl,dg,bb.grown b0 (λe=>ch (Option.some.inj e)),W2 ds b0,X.grown b0 X.size ce⟩,?_⟩
 intro m i;refine aQ.of ?_ _;rintro ea ⟨j,ef,rfl,rfl,ad,bc,b1,Y⟩;have ed:(L.drop 1).length=L.length-1:=length_drop ..;refine af.of (λar=>?_) (λar=>?_)<;>simp only[dTx,dFx]at ar
 ·have ag:j<(L.drop 1).length:=by omega
  have cn:=b1.all.from 1 O (k:=1) rfl;have c3:i64.wrap ((j:Int)+1)=((j+1:Nat):Int):=by rw[wrJ];omega
  try dsimp only
  rw[c3];have cj:((L.drop 1).take (j+1)).foldl gP { lS with name:=G,value:=I } =gP (((L.drop 1).take j).foldl gP { lS with name:=G,value:=I }) (L.drop 1)[j]:=by
   rw[take_succ_eq_append_getElem ag,foldl_append];rfl
  have et:=cf _ (List.mem_of_mem_drop (getElem_mem ag));refine⟨⟨⟨by omega,ar⟩,cn.isSome ag⟩,_,oY cn ag,?_⟩;generalize (L.drop 1)[j]=x at*;generalize ((L.drop 1).take j).foldl gP { lS with name:=G,value:=I } =H at*;have en:=xF x;have eq:=xE x;refine aA (uT x (by omega) ea (bk.step Y)) ?_;rintro _ d5 ⟨rfl,E⟩;have a0:=ae Y E Y.size;refine⟨_,_,_,rfl,?_⟩;refine af.of (λb5=>?_) (λb5=>?_)<;>simp only[dTx,dFx]at b5
  ·refine aA (eA _ (by omega) d5) ?_;rintro _ d6 ⟨rfl,Z⟩;have b6:=ae a0 Z a0.size;refine⟨_,rfl,?_⟩;refine aA (xc k5 H _ (gQ x) (by omega) d6 ((ad.below E).below Z)) ?_;rintro _ ev ⟨rfl,c9,bs⟩;refine⟨rfl,(L.drop 1).length-(j+1),by omega,j+1,by omega,rfl,rfl,?_,((bc.below E).below Z).grown bs (λe=>ch (Option.some.inj e)),W2 ((b1.below E).below Z) bs,b6.grown bs b6.size ce⟩;rw[cj];unfold gP;rw[if_pos (by omega)];exact c9
  ·refine⟨(L.drop 1).length-(j+1),by omega,j+1,by omega,rfl,rfl,?_,bc.below E,b1.below E,a0⟩;rw[cj];unfold gP;rw[if_neg (by omega)];exact ad.below E
 ·have:j=(L.drop 1).length:=by omega
  subst this;rw[take_length]at ad;refine⟨_,_,_,_,_,_,_,_,_,_,_,fY _ ad,?_⟩;exact sb _ bc rfl Y aj (post q)
abbrev kE:lU:=[101,120,112,105,114,101,115]
abbrev kA:lU:=[109,97,120,45,97,103,101]
abbrev kD:lU:=[100,111,109,97,105,110]
abbrev kP:lU:=[112,97,116,104]
abbrev kS:lU:=[115,101,99,117,114,101]
abbrev kH:lU:=[104,116,116,112,111,110,108,121]
abbrev kM:lU:=[115,97,109,101,115,105,116,101]
def a1 (key v:lU)(h:Hdr):Hdr:=if key=kE then(if uy (kN v)then{ h with hasE:=true,exp:=iv (kN v) } else h)else h
def a2 (key v:lU)(h:Hdr):Hdr:=if key=kA then(match Oi v with|some n=> { h with hasA:=true,age:=n }|none=>h)else h
def a3 (key v:lU)(h:Hdr):Hdr:=if key=kD then{ h with domain:=cv (if v.head?=some 46 then v.drop 1 else v) } else h
def a4 (key v:lU)(h:Hdr):Hdr:=if key=kP then{ h with path:=if v.head?=some 47 then v else[] } else h
def a5 (key:lU)(h:Hdr):Hdr:=if key=kS then{ h with sec:=true } else h
def a6 (key:lU)(h:Hdr):Hdr:=if key=kH then{ h with http:=true } else h
def a7 (key v:lU)(h:Hdr):Hdr:=if key=kM then{ h with same:=KH v } else h
theorem Ue (key v:lU)(h:Hdr):a7 key v (a6 key (a5 key (a4 key v (a3 key v (a2 key v (a1 key v h))))))=mn h key v:=by
 unfold mn a7 a6 a5 a4 a3 a2 a1;by_cases h1:key=kE
 ·have X: ¬ key=kA:=by rw[h1];decide
  have U: ¬ key=kD:=by rw[h1];decide
  have M: ¬ key=kP:=by rw[h1];decide
  have H: ¬ key=kS:=by rw[h1];decide
  have E: ¬ key=kH:=by rw[h1];decide
  have q: ¬ key=kM:=by rw[h1];decide
  simp only[if_neg X,if_neg U,if_neg M,if_neg H,if_neg E,if_neg q,if_pos h1]
 by_cases e:key=kA
 ·have U: ¬ key=kD:=by rw[e];decide
  have M: ¬ key=kP:=by rw[e];decide
  have H: ¬ key=kS:=by rw[e];decide
  have E: ¬ key=kH:=by rw[e];decide
  have q: ¬ key=kM:=by rw[e];decide
  simp only[if_neg U,if_neg M,if_neg H,if_neg E,if_neg q,if_neg h1,if_pos e];cases Oi v<;>rfl
 by_cases D:key=kD
 ·have M: ¬ key=kP:=by rw[D];decide
  have H: ¬ key=kS:=by rw[D];decide
  have E: ¬ key=kH:=by rw[D];decide
  have q: ¬ key=kM:=by rw[D];decide
  simp only[if_neg M,if_neg H,if_neg E,if_neg q,if_neg h1,if_neg e,if_pos D]
 by_cases G:key=kP
 ·have H: ¬ key=kS:=by rw[G];decide
  have E: ¬ key=kH:=by rw[G];decide
  have q: ¬ key=kM:=by rw[G];decide
  simp only[if_neg H,if_neg E,if_neg q,if_neg h1,if_neg e,if_neg D,if_pos G]
 by_cases I:key=kS
 ·have E: ¬ key=kH:=by rw[I];decide
  have q: ¬ key=kM:=by rw[I];decide
  simp only[if_neg E,if_neg q,if_neg h1,if_neg e,if_neg D,if_neg G,if_pos I]
 by_cases O:key=kH
 ·have q: ¬ key=kM:=by rw[O];decide
  simp only[if_neg q,if_neg h1,if_neg e,if_neg D,if_neg G,if_neg I,if_pos O]
 by_cases V:key=kM
 ·simp only[if_neg h1,if_neg e,if_neg D,if_neg G,if_neg I,if_neg O,if_pos V]
 simp only[if_neg h1,if_neg e,if_neg D,if_neg G,if_neg I,if_neg O,if_neg V]
theorem U0 (v:lU):(cv v).head?=some 46↔v.head?=some 46:=by
 cases v with
 |nil=>simp[cv]
 |cons c r=>
  have h:∀n,n<256->(zP (UInt8.ofNat n)=46↔UInt8.ofNat n=46):=by decide+kernel
  have:=h c.toNat (by have:=c.toNat_lt;omega);rw[UInt8.ofNat_toNat]at this;simpa[cv]using this
theorem UZ (v:lU)(k:Nat):(cv v).drop k=cv (v.drop k):=by unfold cv;rw[List.map_drop]
theorem Ny (v:lU):(cv v).length=v.length:=by simp[cv]
structure Stg (w0:World)(t ts:TypeId)(k6 k2:Nat)(a:Option Addr)(n c:Nat)(L:List lU)(h:Hdr)(w:World):Prop where
 hh:au w k6 t h.cells
 h2:au w k2 t lS.cells
 ho:Ow tS ts w NoB a n c L
 hb:bW w0 w
 hne:k2≠k6
 hog:∀g,eP a=some g->g≠k6
 hk6:w0.heap.size <=k6
theorem Stg.below {w0:World}{t E:TypeId}{D q:Nat}{a:Option Addr}{n c:Nat}{L:List lU}{h:Hdr}{w w':World}(S:Stg w0 t E D q a n c L h w)(e:bW w w'):Stg w0 t E D q a n c L h w':=
 ⟨S.hh.below e,S.h2.below e,S.ho.below e,ae S.hb e S.hb.size,S.hne,S.hog,S.hk6⟩
theorem Stg.put {u:TypeId}{bytes:Nat}{z:Value}(V:TF P u 1 bytes z){w0:World}{t H:TypeId}{E G:Nat}{a:Option Addr}{n c:Nat}{L:List lU}{h h':Hdr}(S:Stg w0 t H E G a n c L h w)
 {v:Value} (O:i<11) (h1:v.oneCell'=true) (M:v.cells= #[v]) (e:h'.cells=h.cells.set i v):
 ∃wx,(Instr.storeAt u (.pointer (some ⟨E,i,none⟩)) v).run P w=.ok () wx/\Stg w0 t H E G a n c L h' wx:=by
 obtain⟨wx,U,I,D⟩:=S.hh.put V (i:=i) (v:=v) (by simpa[Hdr.cells]using O) h1 M;refine⟨wx,U,e▸I,S.h2.grown D (λe=>S.hne (Option.some.inj e)),S.ho.keep (eD D λb q e=>?_),S.hb.grown D S.hb.size (λx e=>by cases e;exact S.hk6),S.hne,S.hog,S.hk6⟩;rcases q with q|q
 ·exact q
 ·exact S.hog b q.symm (Option.some.inj e)
theorem Stg.get {u:TypeId}{d:TypeDesc}(D:P.underlying u=some d)(q:CX d=false){w0:World}{t H:TypeId}{e G:Nat}{a:Option Addr}{n c:Nat}{L:List lU}{h:Hdr}(S:Stg w0 t H e G a n c L h w)
 {v:Value} (E:h.cells[i]? =some v):(Instr.loadAt u (.pointer (some ⟨e,i,none⟩))).run P w=.ok v w:=S.hh.load1 D q E
theorem ve (s:lU)(fv:s.length <=10000000)(w:World):Cf lQ #[vS s] w (Ret (xC s w)):=by
 apply Fq;intro k2 b3 eb cc;have b6:=(cc▸ao w _:bW w b3)
 have c2:au b3 k2 aq lS.cells:=au.new eb cc;have bq:w.heap.size <=k2:=by omega
 have f0:b3.heap.size=w.heap.size+1:=by rw[cc];simp
 have post:∀{h:Hdr} {O:Int},bI s=(h,O)->∀wx,bW w wx->xC s w (.tuple #[h.v,vI O]) wx:=λef wx ag=>⟨by rw[ef],ag⟩
 refine⟨λm i w'=>∃k:Nat,k <=s.length/\i=(k:Int)/\m=s.length-k/\(s.take k).any jE=false/\w'=b3,⟨_,0,by omega,rfl,rfl,rfl,rfl⟩,?_⟩;intro m i;refine aQ.of ?_ _;rintro w' ⟨k,ea,rfl,rfl,aj,rfl⟩;refine af.of (λh=>?_) (λh=>?_)<;>simp only[dTx,dFx]at h
 ·have b9:k<s.length:=by omega
  have ar:(0 <=(k:Int)/\(k:Int)<((s.length:Nat):Int)):=⟨by omega,h⟩
  rw[byte_at b9];have dw:=im s[k] 9;have dp:=im s[k] 127;have cu:((((s[k].toNat:Nat):Int))==127)=(s[k]==127):=dp;have d6:jE s[k]=((decide (((s[k].toNat:Nat):Int) <=8) || (decide (((s[k].toNat:Nat):Int) >=10)&&decide (((s[k].toNat:Nat):Int) <=31))) || (s[k]==127)):=by
   unfold jE;congr 1;rw[<- dw,Bool.eq_iff_iff];simp only[Bool.and_eq_true,Bool.or_eq_true,dTx,Bool.not_eq_true',beq_eq_false_iff_ne];have:((UInt8.toNat 9:Nat):Int)=9:=rfl;rw[this];omega
  refine gS (w:=w') (jE s[k]) ?_ ?_
  ·rw[d6];refine⟨ar,af.of (λD=>?_) (λD=>?_)⟩
   ·exact⟨rfl,by rw[D];rfl⟩
   ·refine⟨ar,af.of (λac=>?_) (λac=>?_)⟩
    ·refine⟨ar,af.of (λad=>?_) (λad=>?_)⟩
     ·exact⟨rfl,by rw[D,ac,ad];rfl⟩
     ·exact⟨ar,rfl,by rw[D,ac,ad,cu];rfl⟩
    ·exact⟨ar,rfl,by rw[D,ac,cu];rfl⟩
  ·refine af.of (λD=>?_) (λD=>?_)
   ·refine sb lS c2 rfl b6 bq (post ?_);have:s.any jE=true:=List.any_eq_true.2 ⟨_,getElem_mem b9,D⟩;unfold bI;rw[if_pos this]
   ·exact⟨s.length-(k+1),by omega,k+1,by omega,by rw[wrJ];omega,rfl,by rw[take_succ_eq_append_getElem b9,List.any_append,aj];simp[D],rfl⟩
 ·have:k=s.length:=by omega
  subst this;rw[take_length]at aj;have d2: ¬ s.any jE=true:=by rw[aj];decide
  clear aj ea h;refine aA (gx s 59 (by omega) w') ?_;rintro _ an ⟨a,n,c,rfl,a8,e6,c4⟩;have b7:=ae b6 c4 b6.size;have c3:=c2.below c4;refine⟨_,_,_,rfl,?_⟩;have ed:=a8.len;obtain⟨fd,bk⟩:=Ed s;have dc:∀x∈bR 59 [] s,x.length <=s.length:=λx cf=>by simpa using ia 59 s [] x cf
  have al:bI s=if(nameOf ((bR 59 [] s).headD [])).1++(nameOf ((bR 59 [] s).headD [])).2=[]then(lS,82)
   else if 4096<(nameOf ((bR 59 [] s).headD [])).1.length+(nameOf ((bR 59 [] s).headD [])).2.length then(lS,83)
   else(((bR 59 [] s).drop 1).foldl gP { lS with name:=(nameOf ((bR 59 [] s).headD [])).1,value:=(nameOf ((bR 59 [] s).headD [])).2 },0):=by
   unfold bI;rw[if_neg d2]
  have e4:=dJ 59 s [];generalize bR 59 [] s=L at*;have X:0<L.length:=by omega
  subst ed;have dg:=a8.all.isSome X;have Y:∀{u:World},bW an u->(Instr.loadAt ak (.pointer (av a (0:Int) 1))).run prog u=.ok (vS (L.headD [])) u:=λI=>by
   have:=oY (a8.below I).all X;rw[bk X]at this;exact this
  have ev:=dc _ (getElem_mem X);rw[bk X]at ev;generalize L.headD []=x0 at*;have fo:=xF x0;have fq:=xE x0;have a0:(0 <=(0:Int)/\(0:Int)<((L.length:Nat):Int))/\Option.isSome a=true:=⟨⟨by decide,by omega⟩,dg⟩
  have fl:=c3.lt;refine⟨λp w'=>∃k6:Nat,p=some ⟨k6,0,none⟩/\Stg w aq ak k6 k2 a L.length c L { lS with name:=iB x0,value:=gQ x0 } w',?_,?_⟩
  ·
   have d1:∀{k6:Nat} {u:World},au u k6 aq lS.cells->an.heap.size <=k6->bW an u->∃wx:World,(Instr.storeAt aq (.pointer (some ⟨k6,0,none⟩)) ({ lS with name:=iB x0,value:=gQ x0 } :Hdr).v).run prog u=.ok () wx/\
    ∃dk:Nat,(some ⟨k6,0,none⟩:Option Addr)=some ⟨dk,0,none⟩/\Stg w aq ak dk k2 a L.length c L { lS with name:=iB x0,value:=gQ x0 } wx:=by
    intro k6 u c7 bs I;have c1:=ae b7 I b7.size;have e2:=b7.size;have dd:k2≠k6:=by omega
    have de:∀g,eP a=some g->g≠k6:=λg d7 O=>by have:=a8.lt g d7;omega
    obtain⟨wx,er,d8,b8⟩:=Eg { lS with name:=iB x0,value:=gQ x0 } c7 rfl;refine⟨wx,er,k6,rfl,d8,(c3.below I).grown b8 (λO=>dd (Option.some.inj O)),(a8.below I).keep (eD b8 λb ag O=>?_),c1.grown b8 c1.size (λx O=>by cases O;omega),dd,de,by omega⟩;rcases ag with ag|ag
    ·exact ag
    ·exact de b ag.symm (Option.some.inj O)
   have c6:=cy an;refine⟨a0,a0,?_⟩
   repeat' (first
    |exact d1 (by assumption) (by assumption) (by assumption)
    |refine And.intro ?_ ?_
    |refine Exists.intro _ (And.intro (Y (by assumption)) ?_)
    |(refine aA (vg x0 (by omega) _) ?_;rintro _ _ ⟨rfl,rfl⟩;refine Exists.intro _ (And.intro rfl ?_))
    |(refine aA (vf x0 (by omega) _) ?_;rintro _ _ ⟨rfl,rfl⟩;refine Exists.intro _ (And.intro rfl ?_))
    |(intro k6 w6 bs ce;have c7:au w6 k6 aq lS.cells:=au.new bs ce;have fb:an.heap.size <=k6:=(by rw[bs];exact Nat.le_refl _);have e3:bW an w6:=(by rw[ce];exact ae c6 (ao _ _) c6.size);clear bs ce))
  ·intro f5;refine aQ.of ?_ _;rintro ga ⟨k6,rfl,bb⟩;simp only[zR];have E:Option.isSome (some (⟨k6,0,none⟩:Addr))=true:=rfl;clear Y;refine eC (λw'=>Stg w aq ak k6 k2 a L.length c L { lS with name:=(nameOf x0).1,value:=(nameOf x0).2 } w') ?_ ?_
   ·have Y:∀{u:World},Stg w aq ak k6 k2 a L.length c L { lS with name:=iB x0,value:=gQ x0 } u->∀{u':World},bW u u'->(Instr.loadAt ak (.pointer (av a (0:Int) 1))).run prog u'=.ok (vS x0) u':=fun{u} S {u'} I=>by
     have:=oY (S.ho.below I).all X;rw[bk X]at this;exact this
    have f1:=dF (· !=(61:UInt8)) x0;refine⟨a0,x0,λu I=>Y bb I,((x0.takeWhile (· !=61)).length:Nat),λu I=>?_,a0,x0,λu I=>Y bb I,?_⟩
    ·refine(sv x0 (by omega) u).mono ?_;rintro _ u' ⟨_,rfl,rfl,rfl⟩;exact⟨rfl,Below.refl _ _⟩
    ·intro gb eg;have ct:=bb.below eg;refine af.of (λD=>?_) (λD=>?_)
     ·rw[beq_iff_eq]at D;have aj:(61:UInt8)∉x0:=λb0=>by have:=Lv b0;omega
      have ca:nameOf x0=([],iB x0):=by unfold nameOf Jn;rw[decide_eq_false aj];rfl
      have d3:iB x0=trimB x0:=by unfold iB;rw[(Qe aj).1]
      obtain⟨w6,en,M⟩:=ct.put (P:=prog) cK (i:=0) (v:=vS []) (by decide) rfl rfl (h':= { lS with name:=[],value:=gQ x0 }) rfl;refine⟨E,w6,en,a0,x0,?_,?_⟩
      ·have:=oY M.ho.all X;rw[bk X]at this;exact this
      ·refine aA (mb x0 (by omega) w6) ?_;rintro _ w6 ⟨rfl,rfl⟩;refine⟨_,rfl,E,?_⟩;rw[ca,d3];exact M.put (P:=prog) cK (i:=1) (v:=vS (trimB x0)) (by decide) rfl rfl rfl
     ·rw[beq_eq_false_iff_ne]at D;have ex:(61:UInt8)∈x0:=by
       by_cases b0:(61:UInt8)∈x0
       ·exact b0
       ·exact absurd (by rw[(Qe b0).1]) D
      have ca:nameOf x0=(iB x0,gQ x0):=by unfold nameOf Jn;rw[decide_eq_true ex];rfl
      rw[ca];exact ct
   ·intro w6 M;clear bb;have fn:(nameOf x0).1.length <=s.length/\(nameOf x0).2.length <=s.length:=by
     unfold nameOf;split
     ·exact⟨by simp only;omega,by simp only;omega⟩
     ·exact⟨by simp,by simp only;omega⟩
    generalize (nameOf x0).1=U at*;generalize (nameOf x0).2=V at*;have ch:=M.get (P:=prog) ax rfl (i:=0) (v:=vS U) rfl;have ck:=M.get (P:=prog) ax rfl (i:=1) (v:=vS V) rfl;refine jA (w:=w6) (¬ U++V=[]) ?_ ?_
    ·refine gS (w:=w6) ((U==[])&&(V==[])) ?_ ?_
     ·refine⟨E,U,ch,?_⟩;refine af.of (λD=>?_) (λD=>?_)
      ·exact⟨E,V,ck,rfl,by rw[D];rfl⟩
      ·exact⟨rfl,by rw[D];rfl⟩
     ·refine af.of (λD=>?_) (λD=>?_)
      ·rw[Bool.and_eq_true,beq_iff_eq,beq_iff_eq]at D;rw[if_pos (by rw[D.1,D.2];rfl)]at al;exact sb lS M.h2 rfl M.hb bq (post al)
      ·refine⟨rfl,λO=>?_⟩;have:=List.append_eq_nil_iff.1 O;rw[this.1,this.2]at D;cases D
    ·intro D;rw[if_neg D]at al;refine⟨E,U,ch,E,V,ck,?_⟩;rw[wrJ];refine af.of (λac=>?_) (λac=>?_)<;>simp only[gt_iff_lt,dTx,dFx]at ac
     ·rw[if_pos (by omega)]at al;exact sb lS M.h2 rfl M.hb bq (post al)
     rw[if_neg (by omega)]at al;have e5:(L.drop 1).length=L.length-1:=length_drop ..;refine⟨λm i w'=>∃j:Nat,1 <=j/\j <=L.length/\i=(j:Int)/\m=L.length-j/\Stg w aq ak k6 k2 a L.length c L (((L.drop 1).take (j-1)).foldl gP { lS with name:=U,value:=V }) w',
      ⟨_,1,by omega,by omega,rfl,rfl,M⟩,?_⟩
     intro m i;refine aQ.of ?_ _;rintro b4 ⟨j,e9,e7,rfl,rfl,Z⟩;refine af.of (λad=>?_) (λad=>?_)<;>simp only[dTx,dFx]at ad
     ·have c9:j<L.length:=by omega
      have d9:j-1<(L.drop 1).length:=by omega
      have d0:i64.wrap ((j:Int)+1)=((j+1:Nat):Int):=by rw[wrJ];omega
      try dsimp only
      rw[d0];have ew:(L.drop 1)[j-1]=L[j]:=by rw[List.getElem_drop];congr 1;omega
      have ee:((L.drop 1).take (j+1-1)).foldl gP { lS with name:=U,value:=V } =gP (((L.drop 1).take (j-1)).foldl gP { lS with name:=U,value:=V }) L[j]:=by
       rw[show j+1-1=(j-1)+1 by omega,take_succ_eq_append_getElem d9,foldl_append,ew];rfl
      have f4:=dc _ (getElem_mem c9);have c8:(0 <=(j:Int)/\(j:Int)<((L.length:Nat):Int))/\Option.isSome a=true:=⟨⟨by omega,ad⟩,dg⟩
      have Y:∀{u:World},bW b4 u->(Instr.loadAt ak (.pointer (av a (j:Int) 1))).run prog u=.ok (.string (mkS L[j])) u:=λI=>oY (Z.ho.below I).all c9;refine⟨c8,_,Y (Below.refl _ _),?_⟩;generalize L[j]=x at*;generalize ((L.drop 1).take (j-1)).foldl gP { lS with name:=U,value:=V } =H at*;have fr:=xF x;have fs:=xE x;refine aA (vg x (by omega) b4) ?_;rintro _ b4 ⟨rfl,rfl⟩;refine⟨_,rfl,?_⟩;refine aA (iI _ (by omega) b4) ?_;rintro _ cr ⟨rfl,c5⟩;refine⟨_,rfl,c8,x,Y c5,?_⟩;refine aA (vf x (by omega) cr) ?_;rintro _ cr ⟨rfl,rfl⟩;refine⟨_,rfl,?_⟩;refine aA (iI _ (by omega) cr) ?_;rintro _ e1 ⟨rfl,d5⟩;refine⟨_,rfl,?_⟩;have bc:=(Z.below c5).below d5;clear Y Z M ch ck;have next:∀{w':World},Stg w aq ak k6 k2 a L.length c L (gP H x) w'->∃b1:Nat,b1<L.length-j/\∃a9:Nat,1 <=a9/\a9 <=L.length/\((j+1:Nat):Int)=(a9:Int)/\b1=L.length-a9/\
       Stg w aq ak k6 k2 a L.length c L (((L.drop 1).take (a9-1)).foldl gP { lS with name:=U,value:=V }) w':=λS=>⟨L.length-(j+1),by omega,j+1,by omega,by omega,rfl,rfl,by rw[ee];exact S⟩
      refine af.of (λc0=>?_) (λc0=>?_)<;>simp only[gt_iff_lt,dTx,dFx]at c0
      ·refine next ?_
       unfold gP;rw[if_neg (by omega)];exact bc
      have eq:gP H x=mn H (cv (iB x)) (gQ x):=by unfold gP;rw[if_pos (by omega)]
      rw[eq,<- Ue]at next
      have f3:(gQ x).length <=1024:=by omega
      generalize cv (iB x)=key at*;generalize gQ x=v at*;refine eC (λw'=>Stg w aq ak k6 k2 a L.length c L (a1 key v H) w') ?_ ?_
      ·unfold a1;refine af.of (λe=>?_) (λe=>?_)
       ·rw[beq_iff_eq]at e;refine aA (ED v (by omega) e1) ?_;rintro _ cl ⟨rfl,d4⟩;have S10:=bc.below d4;rw[if_pos e];unfold zV;by_cases bj:uy (kN v)
        ·rw[if_pos bj,if_pos bj];refine⟨_,_,rfl,af.yes rfl ⟨E,?_⟩⟩;obtain⟨b2,cb,S11⟩:=S10.put (P:=prog) jP (i:=4) (v:=.bool true) (by decide) rfl rfl (h':= { H with hasE:=true }) rfl;exact⟨b2,cb,E,S11.put (P:=prog) iO (i:=5) (v:=vI (iv (kN v))) (by decide) rfl rfl rfl⟩
        ·rw[if_neg bj,if_neg bj];exact⟨_,_,rfl,af.no rfl S10⟩
       ·rw[beq_eq_false_iff_ne]at e;rw[if_neg e];exact bc
      intro cl S10;clear bc;refine eC (λw'=>Stg w aq ak k6 k2 a L.length c L (a2 key v (a1 key v H)) w') ?_ ?_
      ·unfold a2;generalize a1 key v H=G at*;refine af.of (λe=>?_) (λe=>?_)
       ·rw[beq_iff_eq]at e;refine aA (LY v (by omega) cl) ?_;rintro _ cl ⟨rfl,rfl⟩;rw[if_pos e];unfold VH;cases Oi v with
        |none=>exact⟨_,_,rfl,af.no rfl S10⟩
        |some b1=>
         refine⟨_,_,rfl,af.yes rfl ⟨E,?_⟩⟩;obtain⟨b2,cb,S11⟩:=S10.put (P:=prog) jP (i:=6) (v:=.bool true) (by decide) rfl rfl (h':= { G with hasA:=true }) rfl;exact⟨b2,cb,E,S11.put (P:=prog) iO (i:=7) (v:=vI b1) (by decide) rfl rfl rfl⟩
       ·rw[beq_eq_false_iff_ne]at e;rw[if_neg e];exact S10
      intro b2 S11;clear S10;refine eC (λw'=>Stg w aq ak k6 k2 a L.length c L (a3 key v (a2 key v (a1 key v H))) w') ?_ ?_
      ·unfold a3;generalize a2 key v (a1 key v H)=G at*;refine af.of (λe=>?_) (λe=>?_)
       ·rw[beq_iff_eq]at e;rw[if_pos e];refine⟨E,?_⟩;obtain⟨cn,ei,S12⟩:=S11.put (P:=prog) cK (i:=2) (v:=vS (cv v)) (by decide) rfl rfl (h':= { G with domain:=cv v }) rfl;refine⟨cn,ei,?_⟩;refine gS (w:=cn) (decide (v.head?=some 46)) ?_ ?_
        ·rw[Ny];refine af.of (λq=>?_) (λq=>?_)<;>simp only[gt_iff_lt,dTx,dFx]at q
         ·have et:0<v.length:=by omega
          have da:0<(cv v).length:=by rw[Ny];exact et
          refine⟨⟨by decide,by omega⟩,rfl,?_⟩;have dx:be (cv v) 0=(((cv v)[0].toNat:Nat):Int):=byte_at da;rw[dx];have dr:=im (cv v)[0] 46;rw[show((((cv v)[0].toNat:Nat):Int)==46)=((cv v)[0]==46) from dr,Bool.eq_iff_iff,beq_iff_eq,dTx,<- U0,List.head?_eq_getElem?,List.getElem?_eq_getElem da];simp
         ·have:v=[]:=List.eq_nil_of_length_eq_zero (by omega);subst this;exact⟨rfl,rfl⟩
        ·refine af.of (λq=>?_) (λq=>?_)<;>simp only[dTx,dFx]at q
         ·have f2:1 <=v.length:=by
           cases v with
           |nil=>cases q
           |cons y r=>simp
          refine⟨⟨by decide,by rw[Ny];omega⟩,?_⟩;rintro _ rfl;have dn:Int.toNat (1:Int)=1:=rfl;rw[dn,UZ];refine⟨E,?_⟩;rw[if_pos q];exact S12.put (P:=prog) cK (i:=2) (v:=vS (cv (v.drop 1))) (by decide) rfl rfl rfl
         ·rw[if_neg q];exact S12
       ·rw[beq_eq_false_iff_ne]at e;rw[if_neg e];exact S11
      intro cn S12;clear S11;refine eC (λw'=>Stg w aq ak k6 k2 a L.length c L (a4 key v (a3 key v (a2 key v (a1 key v H)))) w') ?_ ?_
      ·unfold a4;generalize a3 key v (a2 key v (a1 key v H))=G at*;refine af.of (λe=>?_) (λe=>?_)
       ·rw[beq_iff_eq]at e;rw[if_pos e];refine⟨E,?_⟩;obtain⟨cp,ek,S13⟩:=S12.put (P:=prog) cK (i:=3) (v:=vS v) (by decide) rfl rfl (h':= { G with path:=v }) rfl;refine⟨cp,ek,?_⟩;refine gS (w:=cp) (!(v==[]) && !decide (v.head?=some 47)) ?_ ?_
        ·refine af.of (λq=>?_) (λq=>?_)
         ·match v,q with
          |y::r,q=>
           refine⟨⟨by decide,by simp only[length_cons];omega⟩,rfl,?_⟩;have cf:be (y::r) 0=((y.toNat:Nat):Int):=rfl;have ds:=im y 47;rw[cf,q,Bool.true_and];show(!((((y.toNat:Nat):Int))==((UInt8.toNat 47:Nat):Int)))=_;rw[ds];congr 1;rw[Bool.eq_iff_iff];simp
         ·exact⟨rfl,by rw[q];rfl⟩
        ·refine af.of (λq=>?_) (λq=>?_)
         ·simp only[Bool.and_eq_true,Bool.not_eq_true',beq_eq_false_iff_ne,dFx]at q;refine⟨E,?_⟩;rw[if_neg q.2];exact S13.put (P:=prog) cK (i:=3) (v:=vS []) (by decide) rfl rfl rfl
         ·by_cases b5:v.head?=some 47
          ·rw[if_pos b5];exact S13
          ·rw[decide_eq_false b5,Bool.not_false,Bool.and_true]at q;have es:v=[]:=by simpa using q
           rw[if_neg b5];have:({ G with path:=v } :Hdr)= { G with path:=[] } :=by rw[es]
           rw[<- this];exact S13
       ·rw[beq_eq_false_iff_ne]at e;rw[if_neg e];exact S12
      intro cp S13;clear S12;refine eC (λw'=>Stg w aq ak k6 k2 a L.length c L (a5 key (a4 key v (a3 key v (a2 key v (a1 key v H))))) w') ?_ ?_
      ·unfold a5;generalize a4 key v (a3 key v (a2 key v (a1 key v H)))=G at*;refine af.of (λe=>?_) (λe=>?_)
       ·rw[beq_iff_eq]at e;rw[if_pos e];exact⟨E,S13.put (P:=prog) jP (i:=8) (v:=.bool true) (by decide) rfl rfl rfl⟩
       ·rw[beq_eq_false_iff_ne]at e;rw[if_neg e];exact S13
      intro f6 S14;clear S13;refine eC (λw'=>Stg w aq ak k6 k2 a L.length c L (a6 key (a5 key (a4 key v (a3 key v (a2 key v (a1 key v H)))))) w') ?_ ?_
      ·unfold a6;generalize a5 key (a4 key v (a3 key v (a2 key v (a1 key v H))))=G at*;refine af.of (λe=>?_) (λe=>?_)
       ·rw[beq_iff_eq]at e;rw[if_pos e];exact⟨E,S14.put (P:=prog) jP (i:=9) (v:=.bool true) (by decide) rfl rfl rfl⟩
       ·rw[beq_eq_false_iff_ne]at e;rw[if_neg e];exact S14
      intro f7 S15;clear S14;generalize a6 key (a5 key (a4 key v (a3 key v (a2 key v (a1 key v H)))))=G at*;unfold a7 at next
      refine af.of (λe=>?_) (λe=>?_)
      ·rw[beq_iff_eq]at e;rw[if_pos e]at next
       refine⟨E,?_⟩;obtain⟨ey,el,S16⟩:=S15.put (P:=prog) fR (i:=10) (v:=vI 0) (by decide) rfl rfl (h':= { G with same:=0 }) rfl;refine⟨ey,el,?_⟩;unfold KH at next
       generalize cv v=cj at*;refine eC (λw'=>Stg w aq ak k6 k2 a L.length c L { G with same:=if cj=[110,111,110,101]then 1 else 0 } w') ?_ ?_
       ·refine af.of (λq=>?_) (λq=>?_)
        ·rw[beq_iff_eq]at q;rw[if_pos q];exact⟨E,S16.put (P:=prog) fR (i:=10) (v:=vI 1) (by decide) rfl rfl rfl⟩
        ·rw[beq_eq_false_iff_ne]at q;rw[if_neg q];exact S16
       intro f8 S17;refine eC (λw'=>Stg w aq ak k6 k2 a L.length c L { G with same:=if cj=[110,111,110,101]then 1 else if cj=[108,97,120]then 2 else 0 } w') ?_ ?_
       ·refine af.of (λq=>?_) (λq=>?_)
        ·rw[beq_iff_eq]at q;rw[if_neg (by rw[q];decide),if_pos q];exact⟨E,S17.put (P:=prog) fR (i:=10) (v:=vI 2) (by decide) rfl rfl rfl⟩
        ·rw[beq_eq_false_iff_ne]at q;rw[if_neg q];exact S17
       intro f9 S18;refine af.of (λq=>?_) (λq=>?_)
       ·rw[beq_iff_eq]at q;rw[if_neg (by rw[q];decide),if_neg (by rw[q];decide),if_pos q]at next
        refine⟨E,?_⟩;obtain⟨e0,em,dl⟩:=S18.put (P:=prog) fR (i:=10) (v:=vI 3) (by decide) rfl rfl (h':= { G with same:=3 }) rfl;exact⟨e0,em,next dl⟩
       ·rw[beq_eq_false_iff_ne]at q;rw[if_neg q]at next
        exact next S18
      ·rw[beq_eq_false_iff_ne]at e;rw[if_neg e]at next
       exact next S15
     ·have:j=L.length:=by omega
      subst this;rw[take_of_length_le (by omega)]at Z;refine⟨_,_,_,_,_,_,_,_,_,_,_,fY _ Z.hh,?_⟩;exact sb _ Z.h2 rfl Z.hb bq (post al)
theorem sK (a b:Int){w K}(h:uS lH #[vI a,vI b] w λc d=>K (vS c) d):Cf eI #[vI a,vI b] w (Ret K):=ru func93 [] h
end Go.Pk
