/- What the laws lean on: DocA, DocB, DocC, DocD, JarP, AdmE, AdmX, AdmJ, V13, MatB, MatC, AdmL, JarQ, DocE, AllB, SortK, ShelfSortF, JarR, AllC; what is used. Its conditions: none. -/
import Derived.Test.YtikdahhdhchlfaaGreatDoorRN
import Derived.Shelf.SlSortCmp.NoneTotal
set_option linter.unusedVariables false
set_option linter.unusedSimpArgs false
set_option linter.unusedSectionVars false
set_option maxRecDepth 100000
open List (append_nil cons_append drop_eq_getElem_cons filter_cons foldl_append foldl_cons getElem_map getElem_mem length length_append length_cons length_drop length_map length_nil length_take map_append mem_cons_of_mem mem_cons_self mem_of_mem_take nil_append take_append_drop take_length take_of_length_le take_succ_eq_append_getElem take_take)
open Go.World (drew)
variable {n m i j k:Nat}{w u:Go.World}{L:List Go.Pk.Kpt}{p q:Option Go.Addr}{a:Int}{c:Go.Pk.Cky}{A:Go.Pk.Bl}{t:Go.TypeId}
open Go.IntKind (i64)
open Go.Proofs.Tryz
open List (length)
open Option (isSome)
namespace Go.Pk
open Go.RowKit (Below)
open Go.Proofs
theorem at_one (s:ShI L a)(e:i<L.length){p:Plc}(q:L[i].plc=p):atK L p=some L[i]:=by
 cases h:atK L p with
 |none=>exact absurd q (py h _ (getElem_mem e))
 |some x=>
  obtain⟨E,D⟩:=lD h;rw[s.one E (getElem_mem e) (D.trans q.symm)]
def AtP (L:List Kpt)(p:Plc)(n:Int):Prop:=(n= -1/\atK L p=none)\/∃(i:Nat) (h:i<L.length),n=(i:Int)/\L[i].plc=p/\atK L p=some L[i]
theorem WZ (s:ShI L a)(D:i<L.length)(E:j<L.length)(q:L[i].plc=L[j].plc):i=j:=by
 have G:=List.pairwise_iff_getElem.1 s.key;rcases Nat.lt_trichotomy i j with e|e|e
 ·exact absurd q (G i j D E e)
 ·exact e
 ·exact absurd q.symm (G j i E D e)
theorem sk (s:ShI L a)(D:i<L.length){p:Plc}(e:L[i].plc=p)(f:Kpt->Kpt):(L.map λk=>if k.plc=p then f k else k)=L.set i (f L[i]):=by
 apply List.ext_getElem
 ·simp
 ·intro j h1 G;have E:j<L.length:=by simpa using h1
  rw[getElem_map,List.getElem_set];by_cases c:i=j
  ·subst c;rw[if_pos e,if_pos rfl]
  ·rw[if_neg c,if_neg];exact λq=>c (WZ s D E (e.trans q.symm))
theorem Uz (s:ShI L a)(E:i<L.length){p:Plc}(e:L[i].plc=p):eR L p=L.take i++L.drop (i+1):=by
 have D:L=L.take i++L[i]::L.drop (i+1):=by rw[<- drop_eq_getElem_cons E,take_append_drop]
 have key:=s.key;rw[D]at key;rw[List.pairwise_append,List.pairwise_cons]at key;obtain⟨-,⟨G,-⟩,H⟩:=key;unfold eR
 conv=>lhs;rw[D]
 rw[List.filter_append,filter_cons,if_neg (by simp[e])];congr 1
 ·rw[List.filter_eq_self];intro x q;have:=H x q _ (mem_cons_self ..);rw[e]at this;simpa using this
 ·rw[List.filter_eq_self];intro x q;have:=G x q;rw[e]at this;simpa using λc=>this c.symm
theorem Ow.ne {α:Type}{T:Ty α}{t t':TypeId}{a:Option Addr}{n c k:Nat}{xs:List α}{vs:List Value}(h:Ow T t w A a n c xs)(M:au w k t' vs)(O:t≠t'):∀g,eP a=some g->g≠k:=by
 intro g e D;subst D;obtain⟨_,_,_,I⟩:=h;rcases I with⟨G,_⟩|⟨H,cur,U,E,q,_⟩
 ·rw[G]at e;cases e
 ·rw[E]at e;cases e;rw[show w.heap[H]? =_ from M]at q;cases q;exact O rfl
def ShP (A:Bl)(L:List Kpt)(la:Int)(x:Value)(w:World)(v:Value)(w':World):Prop:=
 ∃(a:Option Addr) (l c:Nat),v=.tuple #[.agg #[.slice a l c,vI la],x]/\Sl rj w' (Gp A w) a l c L/\bW w w'
def Zk (c d:Cky):Bool:=(c.name==d.name)&&(gA c.host d.host&&((c.only==d.only)&&(c.path==d.path)))
theorem YB {c d:Cky}(o:c.ok)(p:d.ok):c.plc o=d.plc p↔c.name=d.name/\c.host=d.host/\c.only=d.only/\c.path=d.path:=by
 constructor
 ·intro h;exact⟨congrArg Plc.name h,congrArg Plc.host h,congrArg Plc.only h,congrArg Plc.path h⟩
 ·obtain⟨a1,a2,a3,a4,a5,a6,a7,E,G,e,q,D⟩:=c;obtain⟨H,U,V,X,Y,Z,ac,ad,ag,I,M,O⟩:=d;rintro⟨h1,h2,h3,h4⟩;subst h1 h2 h3 h4;rfl
theorem UP {c d:Cky}(o:c.ok)(p:d.ok):Zk c d=decide (c.plc o=d.plc p):=by
 unfold Zk;rw[Bool.eq_iff_iff,decide_eq_true_iff,YB o p];simp only[Bool.and_eq_true,beq_iff_eq,gi o p]
theorem tT:Whl prog ab 2:=⟨⟨_,_,rl⟩,by kernel_rfl⟩
theorem lF {a:Option Addr}{l c:Nat}{e:Int}(h:au w k ab [.slice a l c,vI e]):(Instr.loadAt ab (.pointer (some ⟨k,0,none⟩))).run prog w=.ok (.agg #[.slice a l c,vI e]) w:=tT.load0 h rfl
theorem zX {w0 w:World}{a:Option Addr}{l c:Nat}{e:Int}{vs:List Value}(h:au w k ab vs)(V:vs.length=2)(M:bW w0 w)(O:w0.heap.size <=k){K:Value->World->Prop}
 (H:∀wx,w.grownBy wx (some k)->bW w0 wx->K (.agg #[.slice a l c,vI e]) wx):
 ∃wx:World,(Instr.storeAt ab (.pointer (some ⟨k,0,none⟩)) (.agg #[.slice a l c,vI e])).run prog w=.ok () wx/\
  ∃(a1:Option Addr) (E q:Nat) (G:Int),(aS ab (.pointer (some ⟨k,0,none⟩))).run prog wx=.ok (.agg #[.slice a1 E q,vI G]) wx/\K (.agg #[.slice a1 E q,vI G]) wx:=by
 obtain⟨wx,U,I,D⟩:=tT.store0 (P:=prog) (cs:=[.slice a l c,vI e]) rfl (aY rfl (aY rfl fj)) h V;exact⟨wx,U,a,l,c,e,au.res (lF I),H wx D (Below.put M D O)⟩
theorem LZ {c d:Cky}(o:c.ok)(p:d.ok)(w:World):Cf wN #[c.v,d.v] w (Ret λv w'=>v=.bool (decide (c.plc o=d.plc p))/\bW w w'):=by
 apply Ko;intro V ac I O Z H M U;obtain⟨ad,X,ag⟩:=jS (P:=prog) (Below.refl w.heap.size w) I O;obtain⟨Y,q,aj⟩:=jS (P:=prog) X M U;have a2:au H V ah c.cells:=(au.new I O:au ac V ah c.cells).below Y;have a3:au H Z ah d.cells:=au.new M U;rw[<- UP o p];unfold Zk;refine⟨rfl,_,a2.load1 ax rfl (i:=0) rfl,rfl,_,a3.load1 ax rfl (i:=0) rfl,?_⟩;refine af.of (λe=>?_) (λe=>⟨by rw[e];rfl,q⟩);refine⟨rfl,_,aR.load a2 (i:=2) (us:=c.host.cells) (Hst.len o) (λj G=>jp o G),rfl,_,aR.load a3 (i:=2) (us:=d.host.cells) (Hst.len p) (λj G=>jp p G),_,xY o p H,?_⟩;refine af.of (λD=>?_) (λD=>⟨by rw[e,D];rfl,q⟩);refine⟨rfl,_,a2.load1 bK rfl (i:=20) (bi o 0),rfl,_,a3.load1 bK rfl (i:=20) (bi p 0),?_⟩;refine af.of (λE=>?_) (λE=>⟨by rw[e,D,E];rfl,q⟩);exact⟨rfl,_,a2.load1 ax rfl (i:=21) (bi o 1),rfl,_,a3.load1 ax rfl (i:=21) (bi p 1),by rw[e,D,E];rfl,q⟩
theorem xl {a:Option Addr}{l c:Nat}{last:Int}(ad:Sl rj w A a l c L)(s:ShI L last)(b4:L.length <=1000000){x:Cky}(o:x.ok)(M:Int):
 Cf oT #[.agg #[.slice a l c,vI M],x.v] w (Ret λv w'=>(∃n:Int,v=vI n/\AtP L (x.plc o) n)/\bW w w'):=by
 apply Mg;intro an bs Y aj bk O Z al;obtain⟨b1,ar,b6⟩:=jS (P:=prog) (Below.refl w.heap.size w) Y aj;obtain⟨a0,D,b7⟩:=jS (P:=prog) ar Z al;have a2:au O an ab [.slice a l c,vI M]:=(au.new Y aj:au bs an ab [.slice a l c,vI M]).below a0;have a3:au O bk ah x.cells:=au.new Z al;have bc:=ad.len;subst bc;refine⟨rfl,_,_,_,a2.load1 ba rfl (i:=0) rfl,?_⟩;refine⟨λm i w'=>∃k:Nat,k <=L.length/\i=(k:Int)/\m=L.length-k/\(∀j (h:j<L.length),j<k->L[j].plc≠x.plc o)/\bW O w',⟨_,0,by omega,rfl,rfl,λj _ h=>by omega,Below.refl _ _⟩,?_⟩;intro m i;refine aQ.of ?_ _;rintro bq ⟨k,b2,rfl,rfl,ac,G⟩;have X:=ae D G D.size;refine af.of (λI=>?_) (λI=>?_)<;>simp only[dTx,dFx]at I
 ·have E:k<L.length:=by omega
  have ag:=ad.below X;refine⟨⟨⟨by omega,I⟩,ag.isSome E⟩,_,ul gM ag E,?_⟩;refine gM.new (zs:=ky.cells) (cs:=L[k].cells) (Kpt.len ky) (Kpt.len _) (Kpt.one _) bq λb5 b0 b3 a8 bb=>?_;have H:=ae G bb G.size;refine⟨rfl,L[k].c.v,aN.load a8 (i:=0) (us:=L[k].c.cells) (Cky.len L[k].ok) (λj q=>by rw[Nat.zero_add];exact ni _ q),x.v,aN.load0 (a3.below H) (Cky.len o),?_⟩;refine aA (LZ L[k].ok o b0) ?_;rintro _ b8 ⟨rfl,a9⟩;have V:=ae H a9 H.size;refine⟨_,rfl,af.of (λe=>?_) (λe=>?_)⟩
  ·have e:L[k].plc=x.plc o:=of_decide_eq_true e;exact⟨⟨_,rfl,.inr ⟨k,E,rfl,e,at_one s E e⟩⟩,ae D V D.size⟩
  ·have e:L[k].plc≠x.plc o:=of_decide_eq_false e;refine⟨L.length-(k+1),by omega,k+1,by omega,by rw[wrJ];omega,rfl,λj h q=>?_,V⟩;rcases Nat.lt_or_ge j k with U|U
   ·exact ac j h U
   ·have:j=k:=by omega
    subst this;exact e
 ·have:k=L.length:=by omega
  subst this;refine⟨⟨_,rfl,.inl ⟨rfl,?_⟩⟩,X⟩;unfold atK;rw[List.find?_eq_none];intro y bj;obtain⟨j,q,rfl⟩:=List.getElem_of_mem bj;simpa using ac j q q
theorem A8 {a:Option Addr}{l c:Nat}(Y:Sl rj w A a l c L)(b7:L.length <=1000000)(H:Int):
 Cf qg #[.agg #[.slice a l c,vI H]] w (Ret λv w'=>∃(a':Option Addr) (e c':Nat),v=.slice a' e c'/\Ow qD ah w' NoB a' e c' (L.map Kpt.c)/\bU w.heap.size a'/\bW w w'):=by
 apply Kp;intro ag M V ac b8 b2 X ad;obtain⟨b3,aj,ca⟩:=jS (P:=prog) (Below.refl w.heap.size w) V ac;obtain⟨ar,al,cb⟩:=jS (P:=prog) aj X ad;have a2:au b2 ag ab [.slice a l c,vI H]:=(au.new V ac:au M ag ab [.slice a l c,vI H]).below ar;have bs:=Y.len;subst bs;refine⟨rfl,_,_,_,a2.load1 ba rfl (i:=0) rfl,?_⟩;refine⟨λm a' e c' i w'=>∃k:Nat,k <=L.length/\i=(k:Int)/\m=L.length-k/\Ow qD ah w' NoB a' e c' ((L.take k).map Kpt.c)/\bU w.heap.size a'/\bW w w',
  ⟨_,0,by omega,rfl,rfl,Ai xV X ad,λg bk=>by simp[eP]at bk;omega,al⟩,?_⟩
 intro m a5 cc b4 i;refine aQ.of ?_ _;rintro I ⟨k,b5,rfl,rfl,G,U,q⟩;refine af.of (λD=>?_) (λD=>?_)<;>simp only[dTx,dFx]at D
 ·have E:k<L.length:=by omega
  have Z:=Y.below q;refine⟨⟨⟨by omega,D⟩,Z.isSome E⟩,_,ul gM Z E,?_⟩;refine gM.new (zs:=ky.cells) (cs:=L[k].cells) (Kpt.len ky) (Kpt.len _) (Kpt.one _) I λb9 ce b6 bc O=>?_;have bj:=ae q O q.size;refine⟨rfl,L[k].c.v,aN.load bc (i:=0) (us:=L[k].c.cells) (Cky.len L[k].ok) (λj bq=>by rw[Nat.zero_add];exact ni _ bq),?_⟩;obtain⟨I,a1,b0,a0,a8,M,a',e,c',a9,b1,bb,an,_⟩:=yn (G.below O) U bj L[k].ok (by rw[length_map,length_take];omega);refine⟨I,a1,b0,a0,a8,M,a',e,c',a9,L.length-(k+1),by omega,k+1,by omega,by rw[wrJ];omega,rfl,?_,bb,an⟩;rw[take_succ_eq_append_getElem E,map_append];exact b1
 ·have:k=L.length:=by omega
  subst this;rw[take_length]at G;exact⟨_,_,_,rfl,G,U,q⟩
theorem GX {a:Option Addr}{l c:Nat}(M:Sl rj w A a l c L)(a8:L.length <=1000000)(V:Int)(t:lU):
 Cf qh #[.agg #[.slice a l c,vI V],vS t] w (Ret λv w'=>v=vI ((jm L t:Nat):Int)/\bW w w'):=by
 apply Fw;intro ad aj I U;obtain⟨al,X,bb⟩:=jS (P:=prog) (Below.refl w.heap.size w) I U;have a2:au aj ad ab [.slice a l c,vI V]:=au.new I U;have ac:=M.len;subst ac;refine⟨rfl,_,_,_,a2.load1 ba rfl (i:=0) rfl,?_⟩;refine⟨λm n i w'=>∃k:Nat,k <=L.length/\i=(k:Int)/\m=L.length-k/\n=((jm (L.take k) t:Nat):Int)/\bW w w',⟨_,0,by omega,rfl,rfl,rfl,X⟩,?_⟩;intro m n i;refine aQ.of ?_ _;rintro ag ⟨k,ar,rfl,rfl,rfl,q⟩;have an:jm (L.take k) t <=L.length:=Nat.le_trans List.countP_le_length (by rw[length_take];omega);refine af.of (λD=>?_) (λD=>?_)<;>simp only[dTx,dFx]at D
 ·have E:k<L.length:=by omega
  have O:=M.below q;refine⟨⟨⟨by omega,D⟩,O.isSome E⟩,_,ul gM O E,?_⟩;refine gM.new (zs:=ky.cells) (cs:=L[k].cells) (Kpt.len ky) (Kpt.len _) (Kpt.one _) ag λa9 bc a0 Y Z=>?_;have G:=ae q Z q.size;have H:jm (L.take (k+1)) t=jm (L.take k) t+if L[k].site=t then 1 else 0:=by
   unfold jm;rw[take_succ_eq_append_getElem E,List.countP_append,List.countP_cons,List.countP_nil];simp
  refine⟨rfl,_,Y.load1 ax rfl (i:=29) (uk _),af.of (λe=>?_) (λe=>?_)⟩
  ·have e:L[k].site=t:=by simpa using e
   rw[if_pos e]at H;exact⟨L.length-(k+1),by omega,k+1,by omega,by rw[wrJ];omega,rfl,by rw[wrJ];omega,G⟩
  ·have e: ¬ L[k].site=t:=by simpa using e
   rw[if_neg e]at H;exact⟨L.length-(k+1),by omega,k+1,by omega,by rw[wrJ];omega,rfl,by omega,G⟩
 ·have:k=L.length:=by omega
  subst this;rw[take_length];exact⟨rfl,q⟩
theorem LO (of:Kpt->Bool)(k:Kpt):∀(l:List Kpt) (b:Option Kpt),SP of (l++[k]) b=(if of k=true then(match SP of l b with|none=>some k|some x=>if k.c.used<x.c.used then some k else some x)else SP of l b)
 |[],b=>rfl
 |x::l,b=>LO of k l _
def ofD (b:Bool)(t:lU)(k:Kpt):Bool:=b || decide (k.site=t)
def Uf (b:Bool)(t:lU)(o:Option Kpt)(k:Kpt):Bool:=ofD b t k&&(match o with|none=>true|some x=>decide (k.c.used<x.c.used))
theorem U6 (b:Bool)(t:lU)(k:Kpt)(l:List Kpt):SP (ofD b t) (l++[k]) none=bif Uf b t (SP (ofD b t) l none) k then some k else SP (ofD b t) l none:=by
 rw[LO];unfold Uf;cases h:ofD b t k with
 |false=>simp
 |true=>
  cases SP (ofD b t) l none with
  |none=>simp
  |some x=>
   by_cases c:k.c.used<x.c.used
   ·simp[c]
   ·simp[c]
theorem sB {a:Option Addr}{l c:Nat}(a9:Sl rj w A a l c L)(cp:L.length <=1000000)(ac:Int)(t:lU)(b:Bool):
 Cf kv #[.agg #[.slice a l c,vI ac],vS t,.bool b] w (Ret (X0 L (ofD b t) w)):=by
 apply CP;intro bk ce a0 bc Z ad a8 bj;obtain⟨cj,b0,cr⟩:=jS (P:=prog) (Below.refl w.heap.size w) a0 bc;obtain⟨b2,G,ca⟩:=jS (P:=prog) b0 a8 bj;have a3:au ad bk ab [.slice a l c,vI ac]:=(au.new a0 bc:au ce bk ab [.slice a l c,vI ac]).below b2;have a6:au ad Z ah mq.cells:=au.new a8 bj;have b7:=a9.len;subst b7;refine aN.new (zs:=mq.cells) (cs:=mq.cells) (Cky.len (by rfl)) (Cky.len (by rfl)) (Cky.one _) ad λk8 cf cn b3 U=>?_;have b1:=ae G U G.size;have cb:Z≠k8:=by have:=a6.lt;omega
 refine⟨rfl,_,_,_,(a3.below U).load1 ba rfl (i:=0) rfl,?_⟩;refine⟨λm f i w'=>∃(k:Nat) (o:Option Kpt),k <=L.length/\i=(k:Int)/\m=L.length-k/\o=SP (ofD b t) (L.take k) none/\f=o.isSome/\au w' k8 ah (o.getD ky).c.cells/\au w' Z ah mq.cells/\bW w w',
  ⟨_,0,none,by omega,rfl,rfl,rfl,rfl,b3,a6.below U,b1⟩,?_⟩
 intro m f i;refine aQ.of ?_ _;rintro cc ⟨k,o,ck,rfl,rfl,Y,rfl,aj,ag,E⟩;refine af.of (λV=>?_) (λV=>?_)<;>simp only[dTx,dFx]at V
 ·have X:k<L.length:=by omega
  have bb:=a9.below E;refine⟨⟨⟨by omega,V⟩,bb.isSome X⟩,_,ul gM bb X,?_⟩;refine gM.new (zs:=ky.cells) (cs:=L[k].cells) (Kpt.len ky) (Kpt.len _) (Kpt.one _) cc λb9 q cl M O=>?_;have an:=ae E O E.size;have H:=aj.below O;have al:=ag.below O;have D:=U6 b t L[k] (L.take k);rw[<- take_succ_eq_append_getElem X,<- Y]at D;have b6:L[k].cells[27]? =some (vI L[k].c.used):=(ni _ (by decide)).trans (bi L[k].ok 7);refine gS (w:=q) (Uf b t o L[k]) ?_ ?_
  ·have tail:ofD b t L[k]=true->af (!o.isSome) ((q=q/\true=Uf b t o L[k]))
    ((true=true)/\(true=true)/\∃(bq:Int),(Instr.loadAt bg (.pointer (some ⟨b9,27,none⟩))).run prog q=.ok (vI bq) q/\(true=true)/\
     ∃(bs:Int),(Instr.loadAt bg (.pointer (some ⟨k8,27,none⟩))).run prog q=.ok (vI bs) q/\(q=q/\decide (bq<bs)=Uf b t o L[k])):=λe=>by
    unfold Uf;rw[e];cases o with
    |none=>exact af.yes rfl ⟨rfl,rfl⟩
    |some x=>exact af.no rfl ⟨rfl,rfl,_,M.load1 bB rfl (i:=27) b6,rfl,_,H.load1 bB rfl (i:=27) (bi x.ok 7),rfl,rfl⟩
   refine af.of (λe=>tail (by unfold ofD;rw[e];rfl)) (λe=>?_);refine⟨rfl,_,M.load1 ax rfl (i:=29) (uk _),af.of (λI=>tail (by unfold ofD;rw[e];simpa using I)) (λI=>⟨rfl,?_⟩)⟩;have:ofD b t L[k]=false:=by unfold ofD;rw[e];simpa using I
   unfold Uf;rw[this];rfl
  ·refine af.of (λe=>?_) (λe=>?_)
   ·rw[show Uf b t o L[k]=true from e]at D;obtain⟨ch,b8,e8,ar⟩:=aN.store0 (P:=prog) (Cky.len L[k].ok) (Cky.one _) H (Cky.len (o.getD ky).ok);refine⟨rfl,_,aN.load M (i:=0) (us:=L[k].c.cells) (Cky.len L[k].ok) (λj b5=>by rw[Nat.zero_add];exact ni _ b5),ch,b8,L.length-(k+1),by omega,k+1,some L[k],by omega,by rw[wrJ];omega,rfl,D.symm,rfl,e8,al.grown ar (bA cb),Below.put an ar (by have:=G.size;omega)⟩
   ·rw[show Uf b t o L[k]=false from e]at D;exact⟨L.length-(k+1),by omega,k+1,o,by omega,by rw[wrJ];omega,rfl,D.symm,rfl,H,al,an⟩
 ·have:k=L.length:=by omega
  subst this;rw[take_length]at Y;refine⟨_,aN.load0 aj (Cky.len (o.getD ky).ok),?_⟩;refine aN.fin (Cky.len (o.getD ky).ok) (Cky.one _) ag (Cky.len (by rfl)) E ca λcf b4=>⟨?_,b4⟩
  rw[Y];rfl
theorem sA {a:Option Addr}{l c:Nat}(b4:Sl rj w A a l c L)(c9:L.length <=1000000)(e D:Int):
 Cf ku #[.agg #[.slice a l c,vI e],vI D] w (Ret λv w'=>∃n:Int,ShP A (Ic L D) e (vI n) w v w'):=by
 apply CO;intro E bq X Z k4 q a8 bc ct dk b3 b6;obtain⟨c6,b9,dc⟩:=jS (P:=prog) (Below.refl w.heap.size w) X Z;obtain⟨bs,M,cu⟩:=jS (P:=prog) b9 a8 bc;obtain⟨b0,c5,de⟩:=jS (P:=prog) M b3 b6;have a2:au q E ab [.slice a l c,vI e]:=(au.new X Z:au bq E ab [.slice a l c,vI e]).below bs;have a4:au q k4 ab [.slice none 0 0,vI 0]:=au.new a8 bc;have cn:=b4.len;subst cn;have c0:E≠k4:=by have:=(au.new X Z:au bq E ab [.slice a L.length c,vI e]).lt;omega
 refine⟨rfl,_,_,_,(a2.below b0).load1 ba rfl (i:=0) rfl,?_⟩;have cf:bU q.heap.size (some (⟨ct,0,none⟩:Addr)):=λg H=>by simp[eP]at H;omega
 have dd:E<q.heap.size/\k4<q.heap.size:=by
  have:=(au.new a8 bc:au q k4 ab [.slice none 0 0,vI 0]).lt;have:=((au.new X Z:au bq E ab [.slice a L.length c,vI e]).below bs).lt;omega
 refine⟨λm a' bj c' i w'=>∃k:Nat,k <=L.length/\i=(k:Int)/\m=L.length-k/\Ow rj aw w' NoB a' bj c' (Ic (L.take k) D)/\bU q.heap.size a'/\bW q w',
  ⟨_,0,by omega,rfl,rfl,Ai qn b3 b6,cf,b0⟩,?_⟩
 intro m a5 bk ac i;refine aQ.of ?_ _;rintro I ⟨k,c7,rfl,rfl,Y,V,G⟩;have an:=ae M G M.size;refine af.of (λa0=>?_) (λa0=>?_)<;>simp only[dTx,dFx]at a0
 ·have a9:k<L.length:=by omega
  have b5:=b4.below an;refine⟨⟨⟨by omega,a0⟩,b5.isSome a9⟩,_,ul gM b5 a9,?_⟩;refine gM.new (zs:=ky.cells) (cs:=L[k].cells) (Kpt.len ky) (Kpt.len _) (Kpt.one _) I λda dg c8 b1 ar=>?_;have b2:=ae G ar G.size;have U:Ic (L.take (k+1)) D=Ic (L.take k) D++if D<L[k].c.exp then[L[k]]else[]:=by
   unfold Ic;rw[take_succ_eq_append_getElem a9,List.filter_append,filter_cons,List.filter_nil];simp
  have cl:(Ic (L.take k) D).length <=1000000:=Nat.le_trans (List.length_filter_le ..) (by rw[length_take];omega);refine⟨rfl,rfl,_,b1.load1 bB rfl (i:=25) ((ni _ (by decide)).trans (bi L[k].ok 5)),af.of (λO=>?_) (λO=>?_)⟩<;>simp only[gt_iff_lt,dTx,dFx]at O
  ·rw[if_pos O]at U;refine⟨_,gM.load0 b1 (Kpt.len _),?_⟩;obtain⟨c3,a1,c1,cb,ag,c4,a',bj,c',ce,c2,ch,ca⟩:=Vc (w0:=q) (Y.below ar) V b2 L[k] cl;refine⟨c3,a1,c1,cb,ag,c4,a',bj,c',ce,L.length-(k+1),by omega,k+1,by omega,by rw[wrJ];omega,rfl,by rw[U];exact c2,ch,ca⟩
  ·rw[if_neg O,append_nil]at U;exact⟨L.length-(k+1),by omega,k+1,by omega,by rw[wrJ];omega,rfl,by rw[U];exact Y.below ar,V,b2⟩
 ·have:k=L.length:=by omega
  subst this;rw[take_length]at Y;have ad:=(a2.below G).below (cy I);have cc:=(a4.below G).below (cy I);have cp:=Y.below (cy I);have cj:=ae an (cy I) an.size;obtain⟨wy,bb,aj,H⟩:=tT.store0 (P:=prog) (cs:=[.slice a5 bk ac,vI e]) rfl (aY rfl (aY rfl fj)) cc rfl;have ag:=ad.grown H (bA c0);have cr:=cp.put (λg ck=>by have:=V g ck;omega) H;have al:∀n:Int,∃m:Int,ShP A (Ic L D) e (vI m) w (.tuple #[.agg #[.slice a5 bk ac,vI e],vI n]) wy:=λn=>
   ⟨n,a5,bk,ac,rfl,cr.orNew (V.mono M.size),Below.put cj H cu⟩
  have b7:=ad.load1 (P:=prog) ba rfl (i:=0) rfl;have b8:=ad.load1 (P:=prog) bC rfl (i:=1) rfl;exact⟨rfl,rfl,⟨_,b8,⟨_,_,_,b7,wy,bb,_,_,_,_,au.res (lF aj),al _⟩,wy,bb,_,_,_,ag.load1 ba rfl (i:=0) rfl,_,_,_,_,au.res (lF aj),al _⟩,_,_,_,b7,_,b8,wy,bb,_,_,_,_,au.res (lF aj),al _⟩
theorem Vu (s:ShI L a)(q:i<L.length){p:Plc}(D:L[i].plc=p)(e:Int):H1 L p e=L.set i (AG L[i] e):=sk s q D λk=>AG k e
theorem US (k:Kpt)(e:Int):k.cells.set 27 (vI e)=(AG k e).cells:=by
 rw[Sk (by decide),show(27:Nat)=20+7 from rfl,ns k.ok];rfl
theorem Vq {α:Type}(l:List α)(i:Nat)(h:i <=l.length):(l.take i).length=i:=by rw[length_take];omega
theorem gy.upto {α:Type}{T:Ty α}{l:List Value}{xs:List α}(h:gy T w A l xs)(j:Nat):gy T w A (l.take (j*T.k)) (xs.take j):=by
 have q:=h.len;have D:min (j*T.k) (xs.length*T.k)=min j xs.length*T.k:=by
  rcases Nat.le_total j xs.length with h1|h1
  ·rw[Nat.min_eq_left h1,Nat.min_eq_left (Nat.mul_le_mul_right _ h1)]
  ·rw[Nat.min_eq_right h1,Nat.min_eq_right (Nat.mul_le_mul_right _ h1)]
 refine⟨by rw[length_take,length_take,q,D],λi e=>?_⟩;rw[length_take]at e;have E:i*T.k+T.k <=j*T.k:=by
  have:=Nat.mul_le_mul_right T.k (show i+1 <=j by omega)
  rwa [Nat.add_mul,Nat.one_mul]at this
 rw[List.getElem_take,List.drop_take,take_take,Nat.min_eq_left (by omega)];exact h.rep i (by omega)
theorem Sl.upto {α:Type}{T:Ty α}{a:Option Addr}{n c:Nat}{xs:List α}(h:Sl T w A a n c xs)(j:Nat)(O:j <=xs.length):Sl T w A a j c (xs.take j):=by
 obtain⟨h1,U,D,e⟩:=h;refine⟨(Vq xs j O).symm,by omega,D,?_⟩;rcases e with e|⟨b,off,q,I,H,l,E,G⟩
 ·exact .inl (by rw[e];simp)
 ·exact .inr ⟨b,off,q,I,H,_,E.upto j,λi M=>by
   rw[length_take]at M;rw[List.getElem?_take,if_pos (by omega)];exact G i (by omega)⟩
theorem DI (k:Kpt)(w:World):(Instr.build aw #[(0,k.c.v),(1,vS k.site)]).run prog w=.ok k.v w:=by
 obtain⟨⟨H,val,⟨G,D,a⟩,only,I,M,E,same,q,e,O,seq⟩,s,o⟩:=k;obtain⟨U,V,aj,al,an,ar,a0,a8,a9,bb,X,Y,Z,ac,ad,ag,rfl⟩:=fP a o;kernel_rfl
theorem Ot {a:Option Addr}{l c:Nat}(O:k=w.heap.size)(q:u=w.alloc (.cells #[] aw))(U:Sl rj u A a l c L)(V:L.length <=1000000){cm:Nat} :
 ∃(w2:World) (a':Option Addr) (e c':Nat),(Builtin.append_ #[aa,aa] aa #[.slice (some ⟨k,0,none⟩) 0 0,.slice a l cm]).run prog u=.ok (.slice a' e c') w2/\Ow rj aw w2 NoB a' e c' L/\bU w.heap.size a'/\bW w w2:=by
 have H:=(q▸ao w _:bW w u)
 have I:bU w.heap.size (some (⟨k,0,none⟩:Addr)):=λg M=>by simp[eP]at M;omega
 obtain⟨w2,a',e,c',h1,D,E,G⟩:=ZQ (st:=aa) (ty:=aa) qn ba cO (by decide) (Ai (T:=rj) qn O q) I H U (by simp;omega) (cm':=cm);exact⟨w2,a',e,c',h1,D,E,G⟩
theorem L3 {a:Option Addr}{l c:Nat}{last:Int}(Z:Sl rj w A a l c L)(s:ShI L last)(bq:L.length <=1000000){x:Cky}(o:x.ok)(e q:Int):
 Cf wP #[.agg #[.slice a l c,vI e],x.v,vI q] w (Ret (ShP A (H1 L (x.plc o) q) e (.bool (atK L (x.plc o)).isSome) w)):=by
 apply Kr;intro b6 c3 bc b3 b7 c4 bj b4 c1 ac bk b5;obtain⟨c7,cc,dd⟩:=jS (P:=prog) (Below.refl w.heap.size w) bc b3;obtain⟨ch,ce,de⟩:=jS (P:=prog) cc bj b4;obtain⟨al,M,b8⟩:=jS (P:=prog) ce bk b5;have a3:au ac b6 ab [.slice a l c,vI e]:=((au.new bc b3:au c3 b6 ab [.slice a l c,vI e]).below ch).below al;have a4:au ac b7 ah x.cells:=(au.new bj b4:au c4 b7 ah x.cells).below al;have a6:au ac c1 ab [.slice none 0 0,vI 0]:=au.new bk b5;refine⟨_,_,_,_,lF a3,_,aN.load0 a4 (Cky.len o),?_⟩;refine aA (xl (Z.below M) s bq o e) ?_;rintro _ b9 ⟨⟨n,rfl,X⟩,Y⟩;have B13:=ae M Y M.size;have V:=a3.below Y;have ar:=a6.below Y;refine⟨n,rfl,?_⟩;rcases X with⟨rfl,bs⟩|⟨i,E,rfl,cr,X⟩
 ·refine af.yes rfl ⟨_,_,_,_,lF V,?_⟩;refine zX (K:=λr H=>ShP A (H1 L (x.plc o) q) e (.bool (atK L (x.plc o)).isSome) w (.tuple #[r,.bool false]) H) ar rfl B13 b8 λH D I=>⟨a,l,c,by rw[bs];rfl,?_,I⟩
  rw[Px bs];exact(Z.below I).orNew
 ·refine af.no (by simp) ?_;intro da c2 cn b2;have aj:=(b2▸ao b9 _:bW b9 c2)
  refine⟨rfl,_,_,_,(V.below aj).load1 ba rfl (i:=0) rfl,?_⟩;obtain⟨ca,ad,dc,an,ct,G,bb,U⟩:=Ot cn b2 (Z.below (ae B13 aj B13.size)) bq (cm:=c);have cp:=G.len;subst cp;refine⟨ca,ad,_,an,ct,⟨⟨by omega,by omega⟩,G.all.isSome E⟩,_,ul gM G.all E,?_⟩;refine gM.new (zs:=ky.cells) (cs:=L[i].cells) (Kpt.len ky) (Kpt.len _) (Kpt.one _) ca λc9 dg c8 cj a9=>?_;obtain⟨c5,cu,a8,D⟩:=cj.put iO (i:=27) (v:=vI q) (by rw[Kpt.len];decide) rfl rfl;rw[US]at a8;have cf:=ae U a9 U.size;have ag:=Below.put cf D (by have:=U.size;omega);have b0:=(G.below a9).put (λg ck=>by have:=G.lt g ck;omega) D;refine⟨rfl,rfl,c5,cu,_,gM.load0 a8 (Kpt.len _),⟨⟨by omega,by omega⟩,b0.all.isSome E⟩,?_⟩;obtain⟨c6,c0,b1,cl⟩:=Ow.store (k:=30) cO b0 (λ_ _ h=>h) (i:=(i:Int)) (by simpa using E) rfl (v:=(AG L[i] q).v) (x:=AG L[i] q) (by show _=_;simp[Kpt.v,Value.cells]);have O:=ag.grown cl ag.size bb;have cb:=ae B13 O B13.size;refine⟨c6,c0,rfl,_,(V.below O).load1 bC rfl (i:=1) rfl,?_⟩;have a0:=ar.below O;refine zX (K:=λr H=>ShP A (H1 L (x.plc o) q) e (.bool (atK L (x.plc o)).isSome) w (.tuple #[r,.bool true]) H) a0 rfl cb b8 λH D I=>⟨ad,_,an,by rw[X];rfl,?_,I⟩
  rw[Vu s E cr];have:=b1.put (b1.ne a0 (by decide)) D;rw[Int.toNat_natCast]at this;exact this.orNew (bb.mono B13.size)
theorem Sl.kcell {P:Program}{u:TypeId}{d:TypeDesc}(M:P.underlying u=some d)(H:CX d=false){a:Option Addr}{l c:Nat}{xs:List Kpt}(h:Sl rj w A a l c xs)(D:i<xs.length){v:Value}(I:j<30)(O:xs[i].cells[j]? =some v):
 (Instr.loadAt u (.pointer (Option.map (λx:Addr=>x.add j) (Option.map (λx:Addr=>x.add 0) (av a (i:Int) 30))))).run P w=.ok v w/\Option.isSome (av a (i:Int) 30)=true/\Option.isSome (Option.map (λx:Addr=>x.add 0) (av a (i:Int) 30))=true:=by
 rcases h.2.2.2 with e|⟨b,off,E,V,U,e⟩
 ·subst e;cases D
 ·obtain⟨vs,q,G⟩:=e.elem D;have q:vs=xs[i].cells:=q;subst q;rw[E,j3];refine⟨?_,rfl,rfl⟩;show(do loadVar u (<- Instr.sureAddr (.pointer (some _)))).run P w=_;rw[Sem.run_bind,hU];refine mK M H ?_;show w.cell? (((⟨b,off+(i:Int).toNat*30,none⟩:Addr).add 0).add j)=some v;rw[fu,fu];have:=G j I;rw[O]at this;exact this
theorem L0 {a:Option Addr}{l c:Nat}{last:Int}(da:Sl rj w A a l c L)(s:ShI L last)(c7:L.length <=1000000)(e1:last <=4611686018427387904)(x:Kpt):
 Cf wO #[.agg #[.slice a l c,vI last],x.c.v,vS x.site] w (Ret (ShP A (rb L last x).1 (rb L last x).2 (.bool (atK L x.plc).isSome) w)):=by
 have o:=x.ok;apply Kq;intro ac d1 b8 cb k4 ew c5 de k6 X c6 dg e2 et eg dd;obtain⟨ey,d2,e4⟩:=jS (P:=prog) (Below.refl w.heap.size w) b8 cb;obtain⟨d6,d3,ce⟩:=jS (P:=prog) d2 c5 de;obtain⟨c0,G,dl⟩:=jS (P:=prog) d3 c6 dg;have cu:=(dd▸ao X _:bW X et)
 have ch:ac≠k4:=by have:=(au.new b8 cb:au d1 ac ab [.slice a l c,vI last]).lt;omega
 have a3:au X ac ab [.slice a l c,vI last]:=((au.new b8 cb:au d1 ac ab [.slice a l c,vI last]).below d6).below c0;have cr:au ew k4 ah x.c.cells:=au.new c5 de;have cj:k4≠k6:=by have:=cr.lt;omega
 have a4:au X k4 ah x.c.cells:=cr.below c0;have a6:au X k6 ab [.slice none 0 0,vI 0]:=au.new c6 dg;refine⟨rfl,_,_,_,(a3.below cu).load1 ba rfl (i:=0) rfl,?_⟩;obtain⟨ev,a13,e3,c1,em,c8,D,ag⟩:=Ot eg dd (da.below (ae G cu G.size)) c7 (cm:=c);have ei:=c8.len;subst ei;have B13:=ae G ag G.size;refine⟨ev,a13,_,c1,em,_,_,_,_,lF (a3.below ag),_,aN.load0 (a4.below ag) (Cky.len o),?_⟩;refine aA (xl (da.below B13) s c7 o last) ?_;rintro _ e7 ⟨⟨n,rfl,Z⟩,bs⟩;have b3:=ae ag bs ag.size;have b4:=a3.below b3;have c2:=a4.below b3;have c3:=a6.below b3;have b9:=c8.below bs;have dk:=a3.lt;have e5:=a4.lt;have dn:=a6.lt;refine⟨n,rfl,?_⟩;rcases Z with⟨rfl,b0⟩|⟨i,O,rfl,ca,Z⟩
 ·have b0:atK L x.plc=none:=b0;refine af.no rfl ?_;have e0:=s.l0;have dc:i64.wrap (last+1)=last+1:=wrJ;have an:rb L last x=(L++[⟨{ x.c with seq:=last+1 },x.site,x.ok⟩],last+1):=by unfold rb;rw[b0]
  obtain⟨e,ck,bc,q⟩:=c2.put fR (i:=28) (v:=vI (last+1)) (by rw[Cky.len o];decide) rfl rfl;have bj:x.c.cells.set 28 (vI (last+1))=(⟨{ x.c with seq:=last+1 },x.site,x.ok⟩:Kpt).c.cells:=by
   rw[show(28:Nat)=20+8 from rfl,ns o];rfl
  rw[bj]at bc;have B16:=ae B13 bs B13.size;have bb:=Below.put B16 q ce;have d8:=b4.grown q (bA ch);have d9:=c3.grown q (bA (Ne.symm cj));have b1:=b9.put (λg a8=>by have:=D g a8;omega) q;have aj:=cy e;have Y:=d8.below aj;have ea:=bc.below aj;have bk:=d9.below aj;have ek:=b1.below aj;have cn:=ae bb aj bb.size;generalize cc:(⟨{ x.c with seq:=last+1 },x.site,x.ok⟩:Kpt)=z at*;have fb:z.c.v=(({ x.c with seq:=last+1 } :Cky)).v:=by rw[<- cc]
  have zs:z.site=x.site:=by rw[<- cc]
  have ad:=Sw z (drew e);have d7:=ao (drew e) (.cells z.cells.toArray aw);obtain⟨E,H,U,M,V,row,eb,d4,dw⟩:=YC (ty:=aa) qn ba cO (by decide) ek (D.mono G.size) cn rfl rfl (x:=z) (cm:=1) rfl (by omega);have a9:∀b,b<X.heap.size->eP a13≠some b:=λb ed al=>by have:=D b al;omega
  have e6:=cn.size;have b5:au E ac ab [.slice a l c,vI last]:=Y.block (dw ac Y.lt (a9 _ dk));have ar:au E k6 ab [.slice none 0 0,vI 0]:=bk.block (dw k6 bk.lt (a9 _ dn));have cf:=Y.load1 (P:=prog) bC rfl (i:=1) rfl;have en:=(Y.below d7).load1 (P:=prog) bC rfl (i:=1) rfl;have eq:=b5.load1 (P:=prog) bC rfl (i:=1) rfl;have I:=DI z (drew e);rw[zs]at I;have dp:=aN.load0 ea (Cky.len z.ok);have a0:∃wx_5:World,(Instr.storeAt ab (.pointer (some ⟨k6,0,none⟩)) (.agg #[.slice H U M,vI (i64.wrap (last+1))])).run prog E=.ok () wx_5/\
   ∃(ct:Option Addr) (dr c4:Nat) (ds:Int),(aS ab (.pointer (some ⟨k6,0,none⟩))).run prog wx_5=.ok (.agg #[.slice ct dr c4,vI ds]) wx_5/\
    ShP A (rb L last x).1 (rb L last x).2 (.bool (atK L x.plc).isSome) w (.tuple #[.agg #[.slice ct dr c4,vI ds],.bool false]) wx_5:=by
   refine zX (K:=λr e=>ShP A (rb L last x).1 (rb L last x).2 (.bool (atK L x.plc).isSome) w (.tuple #[r,.bool false]) e) ar rfl d4 dl λcl b7 ef=>⟨H,U,M,by rw[b0,an,dc];rfl,?_,ef⟩
   rw[an];exact(row.put (row.ne ar (by decide)) b7).orNew eb
  refine⟨rfl,_,b4.load1 bC rfl (i:=1) rfl,rfl,e,by rw[dc];exact ck,rfl,?_⟩;exact⟨⟨_,dp,⟨_,I,⟨_,_,_,_,ad,⟨E,H,U,M,V,_,eq,a0⟩,_,en,E,H,U,M,V,a0⟩,_,cf,_,_,_,_,ad,E,H,U,M,V,a0⟩,_,cf,_,I,_,_,_,_,ad,E,H,U,M,V,a0⟩,
   _,cf,_,dp,_,I,_,_,_,_,ad,E,H,U,M,V,a0⟩
 ·have Z:atK L x.plc=some L[i]:=Z;have ca:L[i].plc=x.plc:=ca;have an:rb L last x=(L.set i ⟨{ x.c with born:=L[i].c.born,seq:=L[i].c.seq },x.site,x.ok⟩,last):=by
   unfold rb;rw[Z];show((L.map λk=>if k.plc=x.plc then _ else k),last)=_;rw[sk s O ca λ_=>(⟨{ x.c with born:=L[i].c.born,seq:=L[i].c.seq },x.site,x.ok⟩:Kpt)]
  refine af.yes (by simp) ?_;have B16:=ae B13 bs B13.size;have b2:=b9.all;obtain⟨ck,dx,d0⟩:=b2.kcell (P:=prog) bB rfl O (j:=26) (by decide) ((ni _ (by decide)).trans (bi L[i].ok 6));obtain⟨e,ad,bc,q⟩:=c2.put iO (i:=26) (v:=vI L[i].c.born) (by rw[Cky.len o];decide) rfl rfl;have bb:=Below.put B16 q ce;have b1:=b9.put (λg a8=>by have:=D g a8;omega) q;obtain⟨es,-,-⟩:=b1.all.kcell (P:=prog) bC rfl O (j:=28) (by decide) ((ni _ (by decide)).trans (bi L[i].ok 8));obtain⟨cl,V,bj,bq⟩:=bc.put fR (i:=28) (v:=vI L[i].c.seq) (by rw[List.length_set,Cky.len o];decide) rfl rfl;have cp:=Below.put bb bq ce;have el:=b1.put (λg a8=>by have:=D g a8;omega) bq;have al:(x.c.cells.set 26 (vI L[i].c.born)).set 28 (vI L[i].c.seq)=(⟨{ x.c with born:=L[i].c.born,seq:=L[i].c.seq },x.site,x.ok⟩:Kpt).c.cells:=by
   rw[show(26:Nat)=20+6 from rfl,ns o];have:=ns (c:= { x.c with born:=L[i].c.born }) o 8 (vI L[i].c.seq);exact this
  rw[al]at bj;have zs:(⟨{ x.c with born:=L[i].c.born,seq:=L[i].c.seq },x.site,x.ok⟩:Kpt).site=x.site:=rfl;generalize cc:(⟨{ x.c with born:=L[i].c.born,seq:=L[i].c.seq },x.site,x.ok⟩:Kpt)=z at*;have I:=DI z cl;rw[zs]at I;have Y:=(b4.grown q (bA ch)).grown bq (bA ch);have bk:=(c3.grown q (bA (Ne.symm cj))).grown bq (bA (Ne.symm cj));obtain⟨ex,er,c9,b6⟩:=Ow.store (k:=30) cO el (λ_ _ h=>h) (i:=(i:Int)) (by simpa using O) rfl (v:=z.v) (x:=z) (by show _=_;simp[Kpt.v,Value.cells]);have a9:∀b,b<X.heap.size->some b≠eP a13:=λb ed al=>by have:=D b al.symm;omega
  have d5:=cp.grown b6 cp.size (D.mono G.size);have b5:=Y.grown b6 (a9 _ dk);have ar:=bk.grown b6 (a9 _ dn);refine⟨⟨⟨by omega,by omega⟩,b2.isSome O⟩,dx,d0,_,ck,rfl,e,ad,⟨⟨by omega,by omega⟩,b2.isSome O⟩,dx,d0,_,es,rfl,cl,V,_,aN.load0 bj (Cky.len z.ok),_,I,⟨⟨by omega,by omega⟩,b2.isSome O⟩,ex,er,rfl,_,b5.load1 bC rfl (i:=1) rfl,?_⟩;refine zX (K:=λr e=>ShP A (rb L last x).1 (rb L last x).2 (.bool (atK L x.plc).isSome) w (.tuple #[r,.bool true]) e) ar rfl d5 dl λe9 b7 ee=>⟨a13,_,c1,by rw[Z,an];rfl,?_,ee⟩
  rw[an];have:=c9.put (c9.ne ar (by decide)) b7;rw[Int.toNat_natCast]at this;exact this.orNew (D.mono G.size)
structure DrA (A:Bl)(w0:World)(k2 k4:Nat)(a:Option Addr)(l c:Nat)(last:Int)(L:List Kpt)(w:World):Prop where
 h2:au w k2 ab [.slice a l c,vI last]
 h4:au w k4 ab [.slice none 0 0,vI 0]
 hs:Sl rj w0 A a l c L
 hb:bW w0 w
 l2:k2<w0.heap.size
 l4:k4<w0.heap.size
theorem DrA.below {w0:World}{a:Option Addr}{l c:Nat}{last:Int}{w w':World}(h:DrA A w0 n m a l c last L w)(e:bW w w'):DrA A w0 n m a l c last L w':=
 ⟨h.h2.below e,h.h4.below e,h.hs,ae h.hb e h.hb.size,h.l2,h.l4⟩
structure DrB (A:Bl)(w0:World)(k2 k4:Nat)(a:Option Addr)(l c:Nat)(last:Int)(L:List Kpt)(a':Option Addr)(l' c':Nat)(xs:List Kpt)(w:World):Prop where
 b:DrA A w0 k2 k4 a l c last L w
 o:Ow rj aw w NoB a' l' c' xs
 f:bU w0.heap.size a'
section
variable {A:Bl} {w0 w:World} {k2 k4:Nat} {a:Option Addr} {l c:Nat} {last:Int} {L:List Kpt}
theorem Yg (h:DrA A w0 k2 k4 a l c last L w){R:Nat->World->Prop}(q:∀k w',DrB A w0 k2 k4 a l c last L (some ⟨k,0,none⟩) 0 0 [] w'->R k w'):
 ∀(k:Nat) (w':World),k=w.heap.size->w'=w.alloc (.cells #[] aw)->R k w':=λk w' E e=>
 q k w' ⟨h.below (e▸ao w _),Ai qn E e,λg D=>by have:=h.hb.size;simp[eP]at D;omega⟩
theorem Zd (h:DrA A w0 k2 k4 a l c last L w):(Instr.loadAt aa (.pointer (some ⟨k2,0,none⟩))).run prog w=.ok (.slice a l c) w:=h.h2.load1 ba rfl (i:=0) rfl
theorem Ze (h:DrA A w0 k2 k4 a l c last L w):(Instr.loadAt aU (.pointer (some ⟨k2,1,none⟩))).run prog w=.ok (vI last) w:=h.h2.load1 bC rfl (i:=1) rfl
theorem VN {xs:List Kpt}(h:DrB A w0 k2 k4 a l c last L p n m xs w){ys:List Kpt}(U:Sl rj w0 A q i j ys)(Z:xs.length+ys.length <=1000000)
 {R:World->Option Addr->Nat->Nat->Prop} (E:∀w' a' l' c',DrB A w0 k2 k4 a l c last L a' l' c' (xs++ys) w'->R w' a' l' c'):
 ∃(w':World) (a':Option Addr) (l' c':Nat),(Builtin.append_ #[aa,aa] aa #[.slice p n m,.slice q i j]).run prog w=.ok (.slice a' l' c') w'/\R w' a' l' c':=by
 obtain⟨X,a4,V,G,O,M,e,I⟩:=eU (ty:=aa) ba cO (by decide) h.o (λ_ _ h=>h) (cm:=j) ((U.below h.b.hb).flat qn) (by omega);have D:∀b,b<w0.heap.size->some b≠eP p:=λb Y H=>by have:=h.f b H.symm;omega
 refine⟨X,a4,V,G,O,E _ _ _ _ ⟨⟨h.b.h2.grown e (D _ h.b.l2),h.b.h4.grown e (D _ h.b.l4),h.b.hs,h.b.hb.grown e h.b.hb.size h.f,h.b.l2,h.b.l4⟩,M,h.f.app h.b.hb.size I⟩⟩
theorem Yf {xs:List Kpt}(h:DrB A w0 k2 k4 a l c last L p n m xs w){e:World}(hB:bW e w0)(I:e.heap.size <=k4){r:Value}{b:Bool}{q:List Kpt}(O:xs=q)(M:r=.bool b):
 ∃wx:World,(Instr.storeAt ab (.pointer (some ⟨k4,0,none⟩)) (.agg #[.slice p n m,vI last])).run prog w=.ok () wx/\
  ∃(p:Option Addr) (n m:Nat) (D:Int),(aS ab (.pointer (some ⟨k4,0,none⟩))).run prog wx=.ok (.agg #[.slice p n m,vI D]) wx/\ShP A q last (.bool b) e (.tuple #[.agg #[.slice p n m,vI D],r]) wx:=by
 subst O M;have E:=ae hB h.b.hb hB.size;refine zX (K:=λU wx=>ShP A xs last (.bool b) e (.tuple #[U,.bool b]) wx) h.b.h4 rfl E I λwx H G=>⟨p,n,m,rfl,?_,G⟩
 exact(h.o.put (h.o.ne h.b.h4 (by decide)) H).orNew (h.f.mono hB.size)
end
set_option maxHeartbeats 2000000 in
theorem yu {a:Option Addr}{l c:Nat}{last:Int}(e:Sl rj w A a l c L)(s:ShI L last)(b8:L.length <=1000000){x:Cky}(o:x.ok):
 Cf nH #[.agg #[.slice a l c,vI last],x.v] w (Ret (ShP A (eR L (x.plc o)) last (.bool (atK L (x.plc o)).isSome) w)):=by
 apply HC;intro ad ch U Y bk cj V Z bq ag X ac;obtain⟨b2,aj,cl⟩:=jS (P:=prog) (Below.refl w.heap.size w) U Y;obtain⟨an,al,cn⟩:=jS (P:=prog) aj V Z;obtain⟨O,E,bs⟩:=jS (P:=prog) al X ac;have a2:au ag ad ab [.slice a l c,vI last]:=((au.new U Y:au ch ad ab [.slice a l c,vI last]).below an).below O;have a3:au ag bk ah x.cells:=(au.new V Z:au cj bk ah x.cells).below O;have a4:au ag bq ab [.slice none 0 0,vI 0]:=au.new X ac;refine⟨_,_,_,_,lF a2,_,aN.load0 a3 (Cky.len o),?_⟩;refine aA (xl (e.below E) s b8 o last) ?_;rintro _ D ⟨⟨n,rfl,I⟩,M⟩;have q:=ae E M E.size;have G:=a2.below M;have H:=a4.below M;refine⟨n,rfl,?_⟩;rcases I with⟨rfl,bb⟩|⟨i,b6,rfl,bc,I⟩
 ·refine af.yes rfl ⟨_,_,_,_,lF G,?_⟩;refine zX (K:=λr b1=>ShP A (eR L (x.plc o)) last (.bool (atK L (x.plc o)).isSome) w (.tuple #[r,.bool false]) b1) H rfl q bs λb1 ck ar=>⟨a,l,c,by rw[bb];rfl,?_,ar⟩
  rw[xQ bb];exact(e.below ar).orNew
 ·refine af.no (by simp) ?_;have ca:=e.len;have b4:=e.2.1;have bj:i64.wrap ((i:Int)+1)=((i+1:Nat):Int):=by rw[wrJ];omega
  try dsimp only
  rw[bj];have S:DrA A D ad bq a l c last L (drew D):=⟨G.below (cy D),H.below (cy D),e.below q,cy D,G.lt,H.lt⟩
  have a0:=Uz s b6 bc;have cb:=(e.below q).upto (Int.toNat (i:Int)) (by rw[Int.toNat_natCast];omega);have cc:=(e.below q).from (Int.toNat ((i+1:Nat):Int)) (by rw[Int.toNat_natCast];omega) (k:=30) rfl;have ce:(0:Int) <=(i:Int)/\(i:Int) <=(c:Int):=by omega
  have cf:(0:Int) <=((i+1:Nat):Int)/\((i+1:Nat):Int) <=(l:Int):=by omega
  have b9:(L.take (Int.toNat (i:Int))).length <=L.length:=by rw[length_take];omega
  have a9:(L.take (Int.toNat (i:Int))).length+(L.drop (Int.toNat ((i+1:Nat):Int))).length <=1000000:=by
   rw[length_take,length_drop,Int.toNat_natCast,Int.toNat_natCast];omega
  have b5:[]++L.take (Int.toNat (i:Int))++L.drop (Int.toNat ((i+1:Nat):Int))=eR L (x.plc o):=by
   rw[nil_append,Int.toNat_natCast,Int.toNat_natCast,<- a0]
  have h1:([]:List Kpt).length+(L.take (Int.toNat (i:Int))).length <=1000000:=by rw[length_nil];omega
  have b3:([]++L.take (Int.toNat (i:Int))).length+(L.drop (Int.toNat ((i+1:Nat):Int))).length <=1000000:=by rw[nil_append];exact a9
  rw[I,show(some L[i]).isSome=true from rfl];clear e a2 a3 a4 U Y V Z X ac b2 an O aj al E G H I bc ca b4 M b9 a9 a0 bj
  repeat' (first
   |with_reducible exact rfl
   |with_reducible exact ce
   |with_reducible exact cf
   |with_reducible refine And.intro ?_ ?_
   |(with_reducible refine Yg (by assumption) ?_;intro k b0 b7;have a8:=b7.b)
   |with_reducible refine⟨_,_,_,Zd (by assumption),?_⟩
   |with_reducible refine⟨_,Ze (by assumption),?_⟩
   |(with_reducible refine VN (by assumption) cb h1 ?_;intro b0 a' l' c' h;have a8:=h.b)
   |(with_reducible refine VN (by assumption) cc b3 ?_;intro b0 a' l' c' h;have a8:=h.b)
   |with_reducible exact Yf (by assumption) q bs b5 rfl)
def FH (rs:List Rul)(h:Hst):lU:=
 if h.kind=1 then(if 1 <=zQ rs (aF h).reverse+1/\zQ rs (aF h).reverse+1 <=(aF h).length then xt (aF h) (zQ rs (aF h).reverse+1)else[])
 else if cT h=true then lT h else[]
def np (rs:List Rul)(h:Hst):lU:=if FH rs h=[]then lT h else FH rs h
structure JS where
 L:List Kpt
 last:Int
 now:Int
def js0 (now:Int):JS:=⟨[],0,now⟩
def mU (s:JS)(n:Int):JS×Int:=if n<0\/1099511627776-s.now<n then(s,122)else(⟨Ic s.L (s.now+n),s.last,s.now+n⟩,0)
def Ae (old c:Cky):Bool:=old.sec&&((old.name==c.name)&&((AQ old.host c.host || AQ c.host old.host)&&Ag c.path old.path))
def QG (s:lU):Nat->List Kpt->List Kpt
 |0,L=>L
 |f+1,L=>if 50<jm L s then(match O2 L (λk=>decide (k.site=s))with|some k=>QG s f (eR L k.plc)|none=>L)else L
def RF:Nat->List Kpt->List Kpt
 |0,L=>L
 |f+1,L=>if 3000<L.length then(match O2 L (λ_=>true)with|some k=>RF f (eR L k.plc)|none=>L)else L
def XT (s:lU)(L:List Kpt):List Kpt:=RF (QG s L.length L).length (QG s L.length L)
def I5 (rs:List Rul)(s:JS)(c:Cky)(o:c.ok):JS:=
 ⟨XT (np rs c.host) (Ic (rb s.L s.last ⟨c,np rs c.host,o⟩).1 s.now),(rb s.L s.last ⟨c,np rs c.host,o⟩).2,s.now⟩
noncomputable def xB (rs:List Rul)(s:JS)(u:Url)(ou:u.ok)(t:lU):JS×Int:=
 if nN u=false then(s,41)
 else if(bI t).2≠0 then(s,(bI t).2)
 else if(jR rs u (bI t).1 s.now).2≠0 then(s,(jR rs u (bI t).1 s.now).2)
 else if u.sec=false/\s.L.any (λk=>Ae k.c (jR rs u (bI t).1 s.now).1)=true then(s,121)
 else(I5 rs s (jR rs u (bI t).1 s.now).1 (N2 ou _ _),0)
def dH (a b:Cky):Bool:=decide (b.path.length<a.path.length) || (decide (a.path.length=b.path.length)&&decide (a.seq<b.seq))
def zO (c:Kpt):List Kpt->List Kpt
 |[]=>[c]
 |x::r=>if dH c.c x.c=true then c::x::r else x::zO c r
def z8 (L:List Kpt)(r:Req)(now:Int):List Kpt:=(L.filter λk=>eQ k.c r now).foldl (λout c=>zO c out) []
def me (c:Cky):lU:=if c.name=[]then c.value else c.name++[61]++c.value
def xx (L:List Kpt)(ks:List Kpt)(now:Int):List Kpt:=ks.foldl (λL k=>H1 L k.plc now) L
def Dh:List lU->lU
 |[]=>[]
 |[x]=>x
 |x::y::r=>x++[59,32]++Dh (y::r)
def OK (s:JS)(r:Req):JS×lU:=(⟨xx s.L (z8 s.L r s.now) s.now,s.last,s.now⟩,Dh ((z8 s.L r s.now).map λk=>me k.c))
theorem DC {a b c:Cky}(h:dH a b=true)(k:dH b c=true):dH a c=true:=by
 unfold dH at h k ⊢;simp only[Bool.or_eq_true,Bool.and_eq_true,dTx]at h k ⊢;omega
theorem MW {a b:Cky}(h:a.seq≠b.seq):dH a b=true\/dH b a=true:=by
 unfold dH;simp only[Bool.or_eq_true,Bool.and_eq_true,dTx];omega
theorem xZ (c:Kpt):∀l:List Kpt,(zO c l).Perm (c::l)
 |[]=>List.Perm.refl _
 |x::r=>by
  unfold zO;split
  ·exact List.Perm.refl _
  ·exact((xZ c r).cons x).trans (List.Perm.swap c x r)
theorem Ij (c:Kpt):∀l:List Kpt,(l.Pairwise λa b=>dH a.c b.c=true)->(∀x∈l,x.c.seq≠c.c.seq)->((zO c l).Pairwise λa b=>dH a.c b.c=true)
 |[],_,_=>List.pairwise_singleton _ _
 |x::r,h,D=>by
  rw[List.pairwise_cons]at h;unfold zO;split
  ·rename_i q;rw[List.pairwise_cons,List.pairwise_cons];refine⟨λy e=>?_,h⟩;rcases List.mem_cons.1 e with rfl|e
   ·exact q
   ·exact DC q (h.1 y e)
  ·rename_i q;rw[List.pairwise_cons];refine⟨λy e=>?_,Ij c r h.2 λz E=>D z (mem_cons_of_mem _ E)⟩;rcases List.mem_cons.1 ((xZ c r).mem_iff.1 e)with rfl|e
   ·exact(MW (D x (mem_cons_self ..))).resolve_right q
   ·exact h.1 y e
theorem oF:∀(l out:List Kpt),(l.foldl (λout c=>zO c out) out).Perm (out++l)
 |[],out=>by rw[append_nil];exact List.Perm.refl _
 |c::l,out=>by
  rw[foldl_cons];refine(oF l _).trans ?_;refine((xZ c out).append_right l).trans ?_;exact List.perm_middle.symm
theorem qG:∀(l out:List Kpt),((out++l).Pairwise λa b=>a.c.seq≠b.c.seq)->(out.Pairwise λa b=>dH a.c b.c=true)->((l.foldl (λout c=>zO c out) out).Pairwise λa b=>dH a.c b.c=true)
 |[],out,_,h=>h
 |c::l,out,e,h=>by
  rw[foldl_cons];have D:(out++c::l).Perm (zO c out++l):=(List.perm_middle.trans (((xZ c out).symm).append_right l))
  refine qG l _ ?_ (Ij c out h λx E=>?_)
  ·exact(D.pairwise_iff fun{a b} q=>Ne.symm q).1 e
  ·rw[List.pairwise_append]at e;exact e.2.2 x E c (mem_cons_self ..)
theorem oV (L:List Kpt)(r:Req)(e:Int):(z8 L r e).Perm (L.filter λk=>eQ k.c r e):=by
 have:=oF (L.filter λk=>eQ k.c r e) [];rw[nil_append]at this;exact this
theorem Nq {last:Int}(h:ShI L last)(r:Req)(e:Int):(z8 L r e).Pairwise λa b=>dH a.c b.c=true:=by
 refine qG _ [] ?_ List.Pairwise.nil;rw[nil_append];exact(h.up.filter _).imp fun{a b} q=>by omega
theorem ShI.uses (h:ShI L a)(q:Int):∀e:List Kpt,ShI (xx L e q) a:=by
 intro e;unfold xx;revert L;induction e with
 |nil=>intro L h;exact h
 |cons k e D=>intro L h;exact D (h.use k.plc q)
theorem uf {k:Kpt}(e:k∈L):(eR L k.plc).length<L.length:=by
 unfold eR;refine List.length_filter_lt_length_iff_exists.2 ⟨k,e,by simp⟩
theorem SQ (s:ShI L a){of:Kpt->Bool}{k:Kpt}(h:O2 L of=some k):k∈L/\of k=true:=by
 have:=um (of:=of) s;rw[h]at this;exact⟨this.1,this.2.1⟩
theorem O3 (s:ShI L a){of:Kpt->Bool}{x:Kpt}(q:x∈L)(e:of x=true):∃k,O2 L of=some k:=by
 cases h:O2 L of with
 |some k=>exact⟨k,rfl⟩
 |none=>
  have:=um (of:=of) s;rw[h]at this;have:=this x q;rw[e]at this;cases this
theorem kV.base {w0 M:World}{t I:TypeId}{E D:Nat}{a:Option Addr}{n c:Nat}{H:List Pth}{G:List (jZ×Int)}{q:List (List Bool)}{rs:List Rul}(S:kV M t I E D a n c H G q rs w)(h:bW w0 M):kV w0 t I E D a n c H G q rs w:=
 ⟨S.h1,S.h2,S.h3,S.T,S.t,ae h S.hb h.size,S.ne,λg e=>⟨(S.og g e).1,(S.og g e).2.1,Nat.le_trans h.size (S.og g e).2.2⟩,Nat.le_trans h.size S.kt0,Nat.le_trans h.size S.km0⟩
theorem WW:Du lS:=⟨by decide,by decide,by decide,by decide,by decide,by decide⟩
theorem Qj {s:lU}(h:(bI s).2≠0):(bI s).1=lS:=by
 unfold bI at h ⊢;split
 ·rfl
 split
 ·rfl
 split
 ·rfl
 ·rename_i h1 e q;rw[if_neg h1,if_neg e,if_neg q]at h;exact absurd rfl h
theorem yk (s:lU):Du (bI s).1:=by
 by_cases h:(bI s).2=0
 ·exact WV (Af (s:=s) (Prod.ext rfl h))
 ·rw[Qj h];exact WW
theorem Ac (h:Hst):gA h h=true:=by
 have e:∀l:lU,Wf l l=true:=λl=>by
  induction l with
  |nil=>rfl
  |cons a l q=>simp[Wf,q]
 unfold gA;rw[e];simp
theorem Mu (rs:List Rul)(u:Url)(h:Hdr)(e:Int):((jR rs u h e).2≠0/\(jR rs u h e).1=mq)\/
 ((jR rs u h e).2=0/\Np u h e=0/\Ib u h (mu rs u.host h.domain)=0/\(jR rs u h e).1=XR u h (mu rs u.host h.domain) e):=by
 unfold jR;split
 ·rename_i h1;exact .inl ⟨h1,rfl⟩
 ·rename_i h1;split
  ·rename_i q;exact .inl ⟨q,rfl⟩
  ·rename_i q;exact .inr ⟨rfl,by simpa using h1,by simpa using q,rfl⟩
theorem RN {u:Url}{h:Hdr}(g:Np u h a=0):nN u=true/\nM h=true/\0 <=a/\a <=1099511627776:=by
 unfold Np at g;split at g
 ·cases g
 split at g
 ·cases g
 split at g
 ·cases g
 split at g
 ·cases g
 ·rename_i h1 e q D;exact⟨by simpa using h1,by simpa using e,by omega,by omega⟩
theorem Rz {u:Url}{h:Hdr}{d:Hst×Bool×Int}(e:Ib u h d=0):d.2.2=0/\(h.sec && !u.sec)=false/\(decide (h.same=1) && !h.sec)=false/\DH h d.2.1=false:=by
 unfold Ib at e;split at e
 ·exact absurd e (by assumption)
 split at e
 ·cases e
 split at e
 ·cases e
 split at e
 ·cases e
 ·rename_i h1 q D E;exact⟨by simpa using h1,by simpa using q,by simpa using D,by simpa using E⟩
theorem N9 {u:Url}(h:nN u=true):cT u.host=true/\sq u.path=true:=by
 unfold nN at h;simp only[Bool.and_eq_true]at h;exact⟨h.1,h.2.2.2⟩
theorem Rp {rs:List Rul}{u:Hst}{t:lU}(H:cT u=true)(e:(mu rs u t).2.2=0):
 ((mu rs u t).2.1=true->gA (mu rs u t).1 u=true)/\(Gm rs (mu rs u t).1=true->(mu rs u t).2.1=true)/\AQ u (mu rs u t).1=true:=by
 unfold mu at e ⊢;split
 ·refine⟨λ_=>Ac u,λ_=>rfl,?_⟩;unfold AQ;rw[H,Ac];rfl
 ·rename_i G;rw[if_neg G]at e;cases E:bV t with
  |none=>rw[E]at e;cases e
  |some d=>
   rw[E]at e;simp only at e ⊢;split
   ·rename_i h1;rw[if_pos h1]at e;cases e
   ·rename_i h1;rw[if_neg h1]at e;split
    ·rename_i D;rw[if_pos D]at e;cases e
    ·rename_i D;refine⟨λq=>?_,λq=>q,by simpa using D⟩;have q:Gm rs d=true:=q;rw[q,Bool.true_and]at h1;simpa using h1
theorem qA (a:Option Addr)(b:Value){w K}(h:nA w (.cells (Value.cells b) ai) λc d=>∃e:FP [],(∃f:FP [shB],(true/\∃g,Ld aU (vA c 0) d (vI g)/\af (g !=1) (∃i,Ld ai (vA c 0) d i/\uB fM #[i] d λj k=>f j k) (f false d))/\∀g,aQ 6 (∀i,f g i->af g (∃j,Ld ai (vA c 0) i j/\uS my #[j] i λk l=>K (vS k) l) (e i)))/\aQ 10 (∀f,e f->∃g,(∀i,bW f i->Ld ai (vA c 0) i g)/\∃i,(∀j,bW f j->Ld ai (vA c 0) j i)/\∃j,(∀k,bW f k->Cf eZ #[.pointer a,i] k λl m=>l=.returned (vI j)/\bW k m)/\∃k l,(∀m,bW f m->Cf iQ #[g,vI (i64.wrap (j+1))] m λn o=>n=rT #[k,.bool l]/\bW m o)/\∀m,f.heap.size <=m->∀n,bW f n->n.heap[m]? =some (.cells bu ai)->∃o,Sv ai (vA m 0) k n o/\true/\∃p,Ld ak (vA m 1) o (vS p)/\K (vS p) o)):Cf iT #[.pointer a,b] w (Ret K):=ru func127 [(2,[]),(3,[(13,shB)]),(3000011,[(1,shB),(0,shB),(2,shB),(3,shB),(4,shB),(5,shB),(6,shB),(7,shB),(8,shB),(9,shB)])] h
theorem CG (a:Option Addr)(b c:Nat)(d:Value){w K}(h:nA w (.cells (Value.cells d) ai) λe f=>true/\∃g,Ld aU (vA e 0) f (vI g)/\af (g !=1) (∃i,Ld ai (vA e 0) f i/\uB fW #[i] f λj k=>af j (∃l,Ld ai (vA e 0) k l/\uS kJ #[l] k λm n=>K (vS m) n) (K (vS []) k)) (∃i,(∀j,bW f j->Ld ai (vA e 0) j i)/\∃j,(∀k,bW f k->Ld ai (vA e 0) k j)/\∃k,(∀l,bW f l->Cf kj #[.slice a b c,j] l λm n=>m=.returned (vI k)/\bW l n)/\∃l m,(∀n,bW f n->Cf rL #[i,vI (i64.wrap (k+1))] n λo p=>o=rT #[l,.bool m]/\bW n p)/\∀n,f.heap.size <=n->∀o,bW f o->o.heap[n]? =some (.cells bu ai)->∃p,Sv ai (vA n 0) l o p/\true/\∃q,Ld ak (vA n 1) p (vS q)/\K (vS q) p)):Cf rP #[.slice a b c,d] w (Ret K):=ru func243 [(3000019,[(1,shB),(0,shB),(2,shB),(3,shB),(4,shB),(5,shB),(6,shB),(7,shB),(8,shB),(9,shB)])] h
theorem Vb (p o:lU):Ag p o=(Lib.hasPrefix p o&&((p.drop o.length==[]) || (decide ((p.drop o.length).head?=some 47) || decide (o.getLast?=some 47)))):=by
 have G:Lib.hasPrefix p o=(decide (o.length <=p.length)&&(p.take o.length==o)):=(Lib.hasPrefix_of_take p o).symm;unfold Ag;rw[G,List.head?_drop];by_cases h:p.take o.length=o
 ·have I:o.length <=p.length:=by
   have:=congrArg length h;rw[length_take]at this;omega
  by_cases D:o.length<p.length
  ·have q:p≠o:=λe=>by rw[e]at D;omega
   have E:p.drop o.length≠[]:=λe=>by have:=congrArg length e;rw[length_drop,length_nil]at this;omega
   rw[beq_eq_false_iff_ne.2 q,decide_eq_true D,h,beq_self_eq_true,decide_eq_true I,beq_eq_false_iff_ne.2 E];simp only[Bool.false_or,Bool.true_and]
  ·have H:p.length=o.length:=by omega
   have q:p=o:=by rw[<- h,<- H,take_length]
   have E:p.drop o.length=[]:=List.drop_eq_nil_of_le (by omega);simp[q]
 ·have q:p≠o:=λe=>h (by rw[e,take_length]);rw[beq_eq_false_iff_ne.2 q,beq_eq_false_iff_ne.2 h];simp only[Bool.false_or,Bool.false_and,Bool.and_false]
theorem Sn {h:Hst}(o:h.ok):∀x∈aF h,x≠[]:=by
 intro x e;obtain⟨⟨E,G⟩,q⟩:=iV o (d:=h) (λq=>by rw[List.length_eq_zero_iff.1 q]at e;cases e);obtain⟨-,-,D,-,-,-⟩:=ka o E G;rw[q]at e;have:=List.all_eq_true.1 D x e;unfold gj at this;simp only[Bool.and_eq_true,dTx]at this;intro c;rw[c]at this;simp at this
theorem LD {c:lU} :∀{L:List lU},(∀x∈L,x≠[])->(Lib.join L c=[]↔L=[])
 |[],_=>by simp[Lib.join_nil]
 |x::L,h=>by
  rw[Lib.join_cons];have:=h x (mem_cons_self ..);simp[this]
theorem LF (c:UInt8)(L:List lU)(x:lU):Lib.join (L++[x]) [c]=if L=[]then x else Lib.join L [c]++[c]++x:=by
 split
 ·rename_i h;subst h;exact Lib.join_one _ _
 ·rename_i h;rw[Db c L [x] h (by simp),Lib.join_one];simp
theorem Xp (s p:lU)(q:s.length <=9223372036854775807)(w:World):Cf mF #[vS s,vS p] w (Ret λv w'=>v=.bool (Lib.hasSuffix s p)/\w'=w):=
 (Tryz.strings_HasSuffix (mkS s) (mkS p) w q).mono λD w' ⟨h1,e⟩=>⟨_,h1,rfl,e⟩
theorem yd (p o:lU)(G:o.length <=9223372036854775807)(w:World):Cf iZ #[vS p,vS o] w (Ret λv w'=>v=.bool (Ag p o)/\w'=w):=by
 apply He;refine aA (M7 p o w) ?_;rintro _ M ⟨rfl,H⟩;rw[H];refine⟨_,_,rfl,?_⟩;rw[Vb];refine af.of (λh=>?_) (λh=>⟨by rw[h];rfl,rfl⟩);have q:Lib.trimPrefix p o=p.drop o.length:=if_pos h;rw[h,q,Bool.true_and];refine af.of (λe=>⟨by rw[e];rfl,rfl⟩) (λe=>?_);rw[e,Bool.false_or];generalize p.drop o.length=D at*;cases D with
 |nil=>cases e
 |cons x D=>
  refine⟨⟨by decide,by simp⟩,?_⟩;have E:=im x 47;rw[show(((47:UInt8).toNat:Nat):Int)=47 from rfl]at E;rw[show be (x::D) (0:Int)=((x.toNat:Nat):Int) from rfl,E];refine af.of (λc=>⟨?_,rfl⟩) (λc=>?_)
  ·rw[eq_of_beq c];rfl
  ·refine aA (Xp o [47] G w) ?_;rintro _ O ⟨rfl,I⟩;rw[I,(Di o 47).1];refine⟨_,rfl,?_,rfl⟩;have:x≠47:=λq=>by rw[q]at c;cases c
   simp[this]
theorem Cd (n k:Int)(w:World):Cf gW #[vI n,vI k] w (Ret λv w'=>v=.bool (ry n k)/\w'=w):=by
 apply Au;unfold ry;refine af.of (λh=>?_) (λh=>?_)
 ·have h:=eq_of_beq h;subst h;exact⟨rfl,rfl⟩
 ·have D:k≠0:=by simpa using h
  refine af.of (λe=>?_) (λe=>?_)
  ·have e:=eq_of_beq e;subst e;exact⟨rfl,rfl⟩
  ·have h1:k≠1:=by simpa using e
   rw[if_neg h1];refine af.of (λq=>?_) (λq=>?_)
   ·have q:=eq_of_beq q;subst q;exact⟨rfl,rfl⟩
   ·have e:k≠2:=by simpa using q
    rw[if_neg e,h];exact⟨rfl,rfl⟩
def atV (c:Cky)(h:Hst):Bool:=if c.only=true then gA c.host h&&cT h else AQ h c.host
theorem NA {h:Hst}(D:c.ok)(E:h.ok)(aj:c.host.name.length <=1000000000)(Y:h.name.length <=1000000000)(w:World)(X:Env w):
 Cf oS #[c.v,h.v] w (Ret λv w'=>v=.bool (atV c h)/\bW w w'):=by
 apply Mc;intro ad G an Z a0 q ar ac;have U:=(Z▸ao w _:bW w G)
 have V:=(ac▸ao G _:bW G q)
 have e:=ae U V U.size;have a2:au q ad ah c.cells:=(au.new an Z:au G ad ah c.cells).below V;have a3:au q a0 ai h.cells:=au.new ar ac;have ag:=aR.load a2 (i:=2) (us:=c.host.cells) (Hst.len D) (λj al=>jp D al);have O:=aR.load0 a3 (Hst.len E);unfold atV;refine⟨rfl,_,a2.load1 bK rfl (i:=20) (bi D 0),af.of (λH=>?_) (λH=>?_)⟩
 ·rw[if_pos H];refine⟨rfl,_,ag,_,O,_,xY D E q,af.of (λI=>?_) (λI=>⟨by rw[I];rfl,e⟩)⟩;refine⟨_,O,?_⟩;refine aA (ij E Y q (X.step e)) ?_;rintro _ a8 ⟨rfl,M⟩;exact⟨_,rfl,by rw[I];rfl,ae e M e.size⟩
 ·rw[if_neg (by rw[H];decide)];refine⟨_,O,rfl,_,ag,?_⟩;refine aA (jH E D Y aj q (X.step e)) ?_;rintro _ a8 ⟨rfl,M⟩;exact⟨_,rfl,rfl,ae e M e.size⟩
theorem Xm {r:Req}(G:c.ok)(or:r.ok)(e:Int):eQ c r e=(decide (e<c.exp)&&((r.sec || !c.sec)&&(ry c.same r.cross&&(Ag r.path c.path&&atV c r.host)))):=by
 have q:(!(decide (e >=c.exp)))=decide (e<c.exp):=by
  rw[Bool.eq_iff_iff];simp
 have D:(!(c.only && !gA c.host r.host)&&AQ r.host c.host)=atV c r.host:=by
  unfold atV;cases H:c.only with
  |false=>simp
  |true=>
   cases E:gA c.host r.host with
   |false=>simp
   |true=>
    have:=(gi G or).1 E;unfold AQ;rw[this,Ac];cases cT r.host<;>simp
 unfold eQ;rw[q,<- D];cases c.only<;>cases gA c.host r.host<;>cases AQ r.host c.host<;>cases Ag r.path c.path<;>cases c.sec<;>cases r.sec<;>cases decide (e<c.exp)<;>cases ry c.same r.cross<;>rfl
theorem GI {r:Req}(H:c.ok)(or:r.ok)(bq:c.host.name.length <=1000000000)(ca:r.host.name.length <=1000000000)(bs:c.path.length <=9223372036854775807)(a9:Int)(w:World)(b4:Env w):
 Cf pT #[c.v,r.v,vI a9] w (Ret λv w'=>v=.bool (eQ c r a9)/\bW w w'):=by
 apply EU;intro O V b6 an U e b7 ar;have aj:=(an▸ao w _:bW w V)
 have al:=(ar▸ao V _:bW V e)
 have G:=ae aj al aj.size;have a3:au e O ah c.cells:=(au.new b6 an:au V O ah c.cells).below al;have a4:au e U aX r.cells:=au.new b7 ar;rw[Xm H or];have tail:∀{K:Value->World->Prop},(∀D,bW w D->K (.bool (ry c.same r.cross&&(Ag r.path c.path&&atV c r.host))) D)->
  (true=true)/\∃(a0:Int),(Instr.loadAt aU (.pointer (some ⟨O,24,none⟩))).run prog e=.ok (vI a0) e/\(true=true)/\
  ∃(a8:Int),(Instr.loadAt aU (.pointer (some ⟨U,20,none⟩))).run prog e=.ok (vI a8) e/\
  Cf gW #[vI a0,vI a8] e λb0 I=>∃(ac:Bool),b0=.returned (.bool ac)/\
  af ac
  ((true=true)/\∃(bb:lU),(Instr.loadAt ak (.pointer (some ⟨U,19,none⟩))).run prog I=.ok (vS bb) I/\(true=true)/\
  ∃(bc:lU),(Instr.loadAt ak (.pointer (some ⟨O,21,none⟩))).run prog I=.ok (vS bc) I/\
  Cf iZ #[vS bb,vS bc] I λb1 M=>∃(ad:Bool),b1=.returned (.bool ad)/\
  af ad
  (∃(bj:Value),(Instr.loadAt ah (.pointer (some ⟨O,0,none⟩))).run prog M=.ok bj M/\(true=true)/\
  ∃(bk:Value),(Instr.loadAt ai (.pointer (some ⟨U,1,none⟩))).run prog M=.ok bk M/\
  Cf oS #[bj,bk] M λb2 cb=>∃(ag:Bool),b2=.returned (.bool ag)/\K (.bool ag) cb)
  (K (.bool false) M))
  (K (.bool false) I):=fun{K} E=>by
  refine⟨rfl,_,a3.load1 bC rfl (i:=24) (bi H 4),rfl,_,a4.load1 bC rfl (i:=20) (qv or 1),?_⟩;refine aA (Cd _ _ e) ?_;rintro _ ce ⟨rfl,b8⟩;rw[b8];refine⟨_,rfl,af.of (λq=>?_) (λq=>by rw[q]at E;exact E e G)⟩;rw[q,Bool.true_and]at E;refine⟨rfl,_,a4.load1 ax rfl (i:=19) (qv or 0),rfl,_,a3.load1 ax rfl (i:=21) (bi H 1),?_⟩;refine aA (yd _ _ bs e) ?_;rintro _ cf ⟨rfl,b9⟩;rw[b9];refine⟨_,rfl,af.of (λq=>?_) (λq=>by rw[q]at E;exact E e G)⟩;rw[q,Bool.true_and]at E;refine⟨_,aN.load0 a3 (Cky.len H),rfl,_,aR.load a4 (i:=1) (us:=r.host.cells) (Hst.len or) (λj b5=>Kc or b5),?_⟩;refine aA (NA H or bq ca e (b4.step G)) ?_;rintro _ cc ⟨rfl,b3⟩;exact⟨_,rfl,E cc (ae G b3 G.size)⟩
 refine⟨rfl,_,a3.load1 bB rfl (i:=25) (bi H 5),af.of (λq=>?_) (λq=>⟨by rw[q];rfl,G⟩)⟩;rw[q,Bool.true_and];refine⟨rfl,_,a4.load1 bK rfl (i:=0) rfl,af.of (λX=>?_) (λX=>?_)⟩
 ·rw[X,Bool.true_or,Bool.true_and];exact tail (K:=λv D=>v=.bool (ry c.same r.cross&&(Ag r.path c.path&&atV c r.host))/\bW w D) λD Z=>⟨rfl,Z⟩
 ·rw[X,Bool.false_or];refine⟨rfl,_,a3.load1 bK rfl (i:=22) (bi H 2),af.of (λY=>?_) (λY=>⟨by rw[Y];rfl,G⟩)⟩;rw[Y,Bool.true_and];exact tail (K:=λv D=>v=.bool (ry c.same r.cross&&(Ag r.path c.path&&atV c r.host))/\bW w D) λD Z=>⟨rfl,Z⟩
theorem GH {c d:Cky}(E:c.ok)(G:d.ok)(w:World):Cf pR #[c.v,d.v] w (Ret λv w'=>v=.bool (dH c d)/\w'=(w.alloc (.cells c.cells.toArray ah)).alloc (.cells d.cells.toArray ah)):=by
 apply ET;intro O H V M Y q X D;have U:=(D▸ao H _:bW H q)
 have a2:au q O ah c.cells:=(au.new V M:au H O ah c.cells).below U;have a3:au q Y ah d.cells:=au.new X D;have I:q=(w.alloc (.cells c.cells.toArray ah)).alloc (.cells d.cells.toArray ah):=by rw[D,M];rfl
 unfold dH;refine⟨rfl,_,a2.load1 ax rfl (i:=21) (bi E 1),rfl,_,a3.load1 ax rfl (i:=21) (bi G 1),af.of (λe=>?_) (λe=>?_)⟩
 ·have e:c.path.length≠d.path.length:=λx=>by rw[x]at e;simp at e
  refine⟨rfl,_,a2.load1 ax rfl (i:=21) (bi E 1),rfl,_,a3.load1 ax rfl (i:=21) (bi G 1),?_,I⟩;rw[decide_eq_false (p:=c.path.length=d.path.length) e,Bool.false_and,Bool.or_false];congr 1;rw[Bool.eq_iff_iff,dTx,dTx];omega
 ·have e:c.path.length=d.path.length:=by
   have Z:((c.path.length:Nat):Int)=((d.path.length:Nat):Int):=by simpa using e
   omega
  refine⟨rfl,_,a2.load1 bC rfl (i:=28) (bi E 8),rfl,_,a3.load1 bC rfl (i:=28) (bi G 8),?_,I⟩;rw[decide_eq_true (p:=c.path.length=d.path.length) e,Bool.true_and,decide_eq_false (p:=d.path.length<c.path.length) (by omega),Bool.false_or]
theorem GV {c d:Cky}(E:c.ok)(G:d.ok)(w:World):Cf qe #[c.v,d.v] w (Ret λv w'=>v=.bool (dH c d)/\bW w w'):=by
 apply Fu;intro V q X O Z H Y U;have I:=(O▸ao w _:bW w q)
 have M:=(U▸ao q _:bW q H)
 have D:=ae I M I.size;have a2:au H V ah c.cells:=(au.new X O:au q V ah c.cells).below M;have a3:au H Z ah d.cells:=au.new Y U;unfold dH;refine⟨rfl,_,a2.load1 ax rfl (i:=21) (bi E 1),rfl,_,a3.load1 ax rfl (i:=21) (bi G 1),af.of (λe=>⟨?_,D⟩) (λe=>?_)⟩
 ·have e:d.path.length<c.path.length:=by have:=of_decide_eq_true e;omega
  rw[decide_eq_true e,Bool.true_or]
 ·have e: ¬ d.path.length<c.path.length:=by have:=of_decide_eq_false e;omega
  rw[decide_eq_false e,Bool.false_or];refine⟨rfl,_,a2.load1 ax rfl (i:=21) (bi E 1),rfl,_,a3.load1 ax rfl (i:=21) (bi G 1),af.of (λe=>?_) (λe=>⟨?_,D⟩)⟩
  ·have e:c.path.length=d.path.length:=by have:=eq_of_beq e;omega
   exact⟨rfl,_,a2.load1 bC rfl (i:=28) (bi E 8),rfl,_,a3.load1 bC rfl (i:=28) (bi G 8),by rw[decide_eq_true e,Bool.true_and],D⟩
  ·have e:c.path.length≠d.path.length:=λc=>by rw[c]at e;simp at e
   rw[decide_eq_false e,Bool.false_and]
theorem LG (c:UInt8)(L:List lU)(j:Nat):(Lib.join (L.take j) [c]).length <=(Lib.join L [c]).length:=by
 by_cases h1:L.take j=[]
 ·rw[h1];simp[Lib.join_nil]
 ·by_cases e:L.drop j=[]
  ·have:L.take j=L:=by conv=>rhs;rw[<- take_append_drop j L,e,append_nil]
   rw[this];exact Nat.le_refl _
  ·have:=Db c (L.take j) (L.drop j) h1 e;rw[take_append_drop]at this;rw[this,length_append];omega
def Mt (L:List lU)(n:Nat):Hst:=if 1 <=n/\n <=L.length then⟨1,xt L n,ad0⟩ else gO
theorem Pn (L:List lU)(n:Nat):N1 L n=.tuple #[(Mt L n).v,.bool (decide (1 <=n/\n <=L.length))]:=by
 unfold N1 Mt;split
 ·rename_i h;rw[decide_eq_true h]
 ·rename_i h;rw[decide_eq_false h]
theorem Pm (L:List lU)(n:Nat):(Mt L n).ok:=by
 unfold Mt;split<;>rfl
theorem Ep {h:Hst}(e:h.kind≠1):aF h=[]:=by
 unfold aF;rw[if_neg λc=>e c.1]
theorem Mp (rs:List Rul)(h:Hst):FH rs h=if h.kind≠1/\cT h=true then lT h else(Mt (aF h) (zQ rs (aF h).reverse+1)).name:=by
 unfold FH Mt;by_cases e:h.kind=1
 ·rw[if_pos e,if_neg (c:=h.kind≠1/\cT h=true) (λc=>c.1 e)];split<;>rfl
 ·rw[if_neg e,Ep e];by_cases q:cT h=true
  ·rw[if_pos q,if_pos ⟨e,q⟩]
  ·rw[if_neg q,if_neg (λc=>q c.2),if_neg (λc=>by have:=c.2;simp at this)];rfl
theorem TC (rs:List Rul)(h:Hst):zQ rs (aF h).reverse <=(aF h).length+1:=by
 have G:∀(rs:List Rul) (m:Nat),m <=(aF h).reverse.length+1->rs.foldl (HU (aF h).reverse) m <=(aF h).reverse.length+1:=by
  intro rs;induction rs with
  |nil=>intro m e;exact e
  |cons r rs q=>
   intro m e;refine q _ ?_;unfold HU;split
   ·rename_i h1;have:=yI h1;split
    ·omega
    ·split<;>omega
   ·exact e
 have E:∀(rs:List Rul) (m:Nat),m <=(aF h).reverse.length+1->rs.foldl (Mr (aF h).reverse) m <=(aF h).reverse.length+1:=by
  intro rs;induction rs with
  |nil=>intro m e;exact e
  |cons r rs q=>
   intro m e;refine q _ ?_;unfold Mr;split
   ·rename_i h1;have:=yI h1.1;omega
   ·exact e
 have h1:=G rs 1 (by omega);have D:=E rs 0 (by omega);rw[List.length_reverse]at h1 D;unfold zQ;split
 ·omega
 ·split
  ·exact D
  ·exact h1
theorem JV {h:Hst}(o:h.ok)(b3:h.name.length <=80000000)(n:Nat)(ch:n <=4000000000)(w:World):Cf rL #[h.v,vI (n:Int)] w (Ret λv w'=>v=N1 (aF h) n/\bW w w'):=by
 apply Hn;intro b7 D bs a9;have E:=(a9▸ao w _:bW w D)
 have bj:au D b7 ai h.cells:=au.new bs a9;intro k4 Y b0 bb;have aj:=(bb▸ao D _:bW D Y)
 have ad:=ae E aj E.size;have bk:au Y k4 ai gO.cells:=au.new b0 bb;have ar:w.heap.size <=k4:=by have:=E.size;omega
 refine⟨_,aR.load0 (bj.below aj) (Hst.len o),?_⟩;refine aA (fG o b3 Y) ?_;rintro _ Z ⟨a,l,c,rfl,M,ca,al⟩;have ag:=ae ad al ad.size;have ac:=bk.below al;have ce:=iU h;have b4:=Sn o;have bq:(Lib.join (aF h) [46]).length <=140737488355328:=by
  unfold aF;split
  ·rw[jG,nil_append];omega
  ·simp[Lib.join_nil]
 have b1:=M.len;subst b1;generalize aF h=L at*;refine⟨_,_,_,rfl,?_⟩;unfold N1;refine jA (w:=Z) (1 <=n/\n <=L.length) ?_ (λan=>?_)
 ·refine orJ (af.of (λh=>?_) (λh=>⟨rfl,?_⟩))
  ·rw[if_neg (λan=>by simp at h;omega)];exact aR.fin (K:=λX q=>(.tuple #[X,.bool false]:Value)=.tuple #[gO.v,.bool false]/\bW w q) (cs:=gO.cells) rfl (Hst.one _) ac rfl ag ar λq G=>⟨rfl,G⟩
  ·simp at h;omega
 ·rw[if_pos an];have e:i64.wrap (((L.length:Nat):Int)-(n:Int))=((L.length-n:Nat):Int):=by rw[wrJ];omega
  try dsimp only
  rw[e];have b9:(L.drop (L.length-n)).length=n:=by rw[length_drop];omega
  have cc:(Lib.join (L.drop (L.length-n)) [46]).length <=140737488355328:=Nat.le_trans (Ej 46 L _) bq;have b5:∀x∈L.drop (L.length-n),x≠[]:=λx V=>b4 x (List.mem_of_mem_drop V);refine⟨λm s i w'=>∃j:Nat,j <=n/\i=((L.length-n+j:Nat):Int)/\m=n-j/\s=Lib.join ((L.drop (L.length-n)).take j) [46]/\w'=Z,⟨_,0,by omega,rfl,rfl,by simp[Lib.join_nil],rfl⟩,?_⟩;intro m s i;refine aQ.of ?_ _;rintro cl ⟨j,cb,rfl,rfl,rfl,b6⟩;rw[b6];refine af.of (λI=>?_) (λI=>?_)<;>simp only[dTx,dFx]at I
  ·have cf:j<n:=by omega
   have b2:j<(L.drop (L.length-n)).length:=by omega
   have a8:=take_succ_eq_append_getElem b2;have bc:(L.drop (L.length-n))[j]=L[L.length-n+j]'(by omega):=List.getElem_drop;have cj:=LG 46 (L.drop (L.length-n)) j;have U:=LG 46 (L.drop (L.length-n)) (j+1);rw[a8,LF]at U;have a0:Lib.join ((L.drop (L.length-n)).take j) [46]=[]↔(L.drop (L.length-n)).take j=[]:=LD λx V=>b5 x (mem_of_mem_take V);refine NZ (w:=Z) (if(L.drop (L.length-n)).take j=[]then[]else Lib.join ((L.drop (L.length-n)).take j) [46]++[46]) ?_ ?_
   ·refine af.of (λe=>⟨fits (by simp;omega),λs O=>⟨rfl,?_⟩⟩) (λe=>⟨rfl,?_⟩)
    ·rw[if_neg,O];intro c;rw[a0.2 c]at e;cases e
    ·have e:Lib.join ((L.drop (L.length-n)).take j) [46]=[]:=by simpa using e
     rw[if_pos (a0.1 e),e]
   ·refine⟨⟨⟨by omega,I⟩,M.all.isSome (i:=L.length-n+j) (by omega)⟩,_,M.all.text ax (i:=L.length-n+j) (by omega),fits ?_,λck O=>⟨n-(j+1),by omega,j+1,by omega,?_,rfl,?_,rfl⟩⟩
    ·have b8:((L.length-n+j:Nat):Int).toNat=L.length-n+j:=Int.toNat_natCast _;rw[<- bc];split at U
     ·rename_i H;rw[if_pos H];simp only[length_nil,Nat.zero_add];omega
     ·rename_i H;rw[if_neg H];simp only[length_append,length_cons,length_nil]at U ⊢;omega
    ·rw[wrJ];omega
    ·rw[O,a8,LF,<- bc];split<;>simp
  ·have:j=n:=by omega
   subst this;rw[take_of_length_le (by omega)];exact aR.fin (K:=λX q=>(.tuple #[X,.bool true]:Value)=.tuple #[(⟨1,xt L j,ad0⟩:Hst).v,.bool true]/\bW w q) (cs:=(⟨1,xt L j,ad0⟩:Hst).cells) rfl (Hst.one _) ac rfl ag ar λq G=>⟨rfl,G⟩
theorem HV {w0:World}(I:Env w0){ac bk:Nat}{a:Option Addr}{n c:Nat}{bs:List Pth}{bq:List (jZ×Int)}{ag:List (List Bool)}{rs:List Rul}(S:kV w0 bm bE ac bk a n c bs bq ag rs w){h:Hst}(o:h.ok)(V:h.name.length <=1000000000):
 Cf iT #[.pointer (some ⟨ac,0,none⟩),h.v] w (Ret λv w'=>v=vS (FH rs h)/\bW w w'):=by
 apply qA;intro bc H an Z;have G:=(Z▸ao w _:bW w H)
 have a3:au H bc ai h.cells:=au.new an Z;have M:=S.below G;have b3:=iU h;have b4:=TC rs h;rw[Mp];refine⟨λE=> ¬ (h.kind≠1/\cT h=true)/\bW H E,⟨λb E=>b=(decide (h.kind≠1)&&cT h)/\bW H E,?_,λb=>aQ.of ?_ _⟩,aQ.of ?_ _⟩
 ·refine⟨rfl,_,a3.load1 bC rfl (i:=0) rfl,af.of (λe=>?_) (λe=>⟨?_,Below.refl _ _⟩)⟩
  ·refine⟨_,aR.load0 a3 (Hst.len o),?_⟩;refine aA (ij o V H (I.step M.hb)) ?_;rintro _ b0 ⟨rfl,U⟩;have e:h.kind≠1:=by simpa using e
   exact⟨_,rfl,by rw[decide_eq_true e,Bool.true_and],U⟩
  ·have e:h.kind=1:=by simpa using e
   rw[decide_eq_false (λc=>c e),Bool.false_and]
 ·rintro E ⟨rfl,q⟩;refine af.of (λe=>?_) (λe=>⟨λc=>?_,q⟩)
  ·simp only[Bool.and_eq_true,dTx]at e;refine⟨_,aR.load0 (a3.below q) (Hst.len o),?_⟩;refine aA (se o E (I.step (M.below q).hb)) ?_;rintro _ b0 ⟨rfl,U⟩;rw[if_pos e];exact⟨_,rfl,rfl,ae G (ae q U q.size) G.size⟩
  ·rw[decide_eq_true c.1,c.2]at e;cases e
 ·rintro E ⟨a0,q⟩;rw[if_neg a0];have O:=ae G q G.size;have Y:=a3.below q;have X:=M.below q;refine⟨_,λu D=>aR.load0 (Y.below D) (Hst.len o),_,λu D=>aR.load0 (Y.below D) (Hst.len o),_,λu D=>GN (qL I (X.below D) o V),?_⟩;have aj:i64.wrap (((zQ rs (aF h).reverse:Nat):Int)+1)=((zQ rs (aF h).reverse+1:Nat):Int):=by rw[wrJ];omega
  try dsimp only
  rw[aj];refine⟨_,_,λu D=>by
   have:=GN (v:=.tuple #[(Mt (aF h) (zQ rs (aF h).reverse+1)).v,.bool (decide (1 <=zQ rs (aF h).reverse+1/\zQ rs (aF h).reverse+1 <=(aF h).length))]) (by rw[<- Pn];exact AX o V (zQ rs (aF h).reverse+1) (by omega) u (I.step (X.below D).hb));exact this,?_⟩
  intro bj ar b1 a8 bb;have a5:au b1 bj ai gO.cells:=bb;obtain⟨b2,a9,ad,al⟩:=aR.store0 (P:=prog) (Hst.len (Pm (aF h) (zQ rs (aF h).reverse+1))) (Hst.one _) a5 rfl;refine⟨b2,a9,rfl,_,ad.load1 ax rfl (i:=1) rfl,rfl,Below.put (ae O a8 O.size) al (Nat.le_trans O.size ar)⟩
theorem JZ {rs:List Rul}(aj:Sl MS w A p n m rs)(ac:rs.length <=1000000)(ag:∀r∈rs,r.2.length <=80000000){h:Hst}(o:h.ok)(H:h.name.length <=80000000):
 Cf rP #[.slice p n m,h.v] w (Ret λv w'=>v=vS (FH (rs.filter eo) h)/\bW w w'):=by
 apply CG;intro a0 I Y M;have q:=(M▸ao w _:bW w I)
 have a3:au I a0 ai h.cells:=au.new Y M;have bj:=iU h;have bk:=TC (rs.filter eo) h;rw[Mp];refine⟨rfl,_,a3.load1 bC rfl (i:=0) rfl,af.of (λe=>?_) (λe=>?_)⟩
 ·have e:h.kind≠1:=by simpa using e
  refine⟨_,aR.load0 a3 (Hst.len o),?_⟩;refine aA (iJ o H I) ?_;rintro _ a9 ⟨rfl,G⟩;refine⟨_,rfl,af.of (λE=>?_) (λE=>⟨?_,ae q G q.size⟩)⟩
  ·refine⟨_,aR.load0 (a3.below G) (Hst.len o),?_⟩;refine aA (qt o a9) ?_;rintro _ bq ⟨rfl,V⟩;rw[if_pos ⟨e,E⟩];exact⟨_,rfl,rfl,ae q (ae G V G.size) q.size⟩
  ·rw[if_neg (λc=>by rw[c.2]at E;cases E),Ep e];rfl
 ·have e:h.kind=1:=by simpa using e
  rw[if_neg (λc=>c.1 e)];have al:=aj.below q;refine⟨_,λu D=>aR.load0 (a3.below D) (Hst.len o),_,λu D=>aR.load0 (a3.below D) (Hst.len o),_,λu D=>GN (ss (al.below D) ac ag o H),?_⟩;have U:i64.wrap (((zQ (rs.filter eo) (aF h).reverse:Nat):Int)+1)=((zQ (rs.filter eo) (aF h).reverse+1:Nat):Int):=by rw[wrJ];omega
  try dsimp only
  rw[U];refine⟨_,_,λu D=>by
   have:=GN (v:=.tuple #[(Mt (aF h) (zQ (rs.filter eo) (aF h).reverse+1)).v,.bool (decide (1 <=zQ (rs.filter eo) (aF h).reverse+1/\zQ (rs.filter eo) (aF h).reverse+1 <=(aF h).length))]) (by rw[<- Pn];exact JV o H (zQ (rs.filter eo) (aF h).reverse+1) (by omega) u);exact this,?_⟩
  intro a8 Z bb ad ar;have a5:au bb a8 ai gO.cells:=ar;obtain⟨bc,an,O,X⟩:=aR.store0 (P:=prog) (Hst.len (Pm (aF h) (zQ (rs.filter eo) (aF h).reverse+1))) (Hst.one _) a5 rfl;refine⟨bc,an,rfl,_,O.load1 ax rfl (i:=1) rfl,rfl,Below.put (ae q ad q.size) X (Nat.le_trans q.size Z)⟩
theorem Ut (s:lU):(Nb s).length <=s.length+1:=by
 unfold Nb;split
 ·simp
 ·rw[length_take];omega
noncomputable def doV (rs:List Rul)(s:JS)(o:OpR)(ok:o.ok):JS:=
 if o.kind=1 then(xB rs s o.url ok.uo o.text).1 else if o.kind=2 then(OK s o.req).1 else if o.kind=3 then(mU s o.n).1 else if o.kind=4 then js0 s.now else s
def Part (L' L:List Kpt):Prop:=∃p:Kpt->Bool,L'=L.filter p
theorem Part.refl (L:List Kpt):Part L L:=⟨λ_=>true,(List.filter_eq_self.2 λ_ _=>rfl).symm⟩
theorem Part.trans {A B C:List Kpt}(h:Part A B)(k:Part B C):Part A C:=by
 obtain⟨p,rfl⟩:=h;obtain⟨q,rfl⟩:=k;exact⟨λx=>p x&&q x,by rw[List.filter_filter]⟩
theorem Part.drop (L:List Kpt)(p:Plc):Part (eR L p) L:=⟨_,rfl⟩
theorem Part.mem {A B:List Kpt}(h:Part A B){k:Kpt}(e:k∈A):k∈B:=by
 obtain⟨p,rfl⟩:=h;exact(List.mem_filter.1 e).1
theorem Part.len {A B:List Kpt}(h:Part A B):A.length <=B.length:=by
 obtain⟨p,rfl⟩:=h;exact List.length_filter_le ..
theorem Part.inv {A B:List Kpt}(h:Part A B)(s:ShI B a):ShI A a:=by
 obtain⟨p,rfl⟩:=h;exact s.filter p
theorem Ll (s:lU):∀(f:Nat) (L:List Kpt),Part (QG s f L) L
 |0,L=>Part.refl L
 |f+1,L=>by
  unfold QG;split
  ·split
   ·exact(Ll s f _).trans (Part.drop _ _)
   ·exact Part.refl L
  ·exact Part.refl L
theorem Lm:∀(f:Nat) (L:List Kpt),Part (RF f L) L
 |0,L=>Part.refl L
 |f+1,L=>by
  unfold RF;split
  ·split
   ·exact(Lm f _).trans (Part.drop _ _)
   ·exact Part.refl L
  ·exact Part.refl L
theorem Ln (s:lU)(L:List Kpt):Part (XT s L) L:=(Lm _ _).trans (Ll _ _ _)
structure VE (c:Cky):Prop where
 nm:c.name.length <=1100000
 vl:c.value.length <=1100000
 pt:c.path.length <=1100000
structure JI (s:JS)(m:Nat):Prop where
 sh:ShI s.L s.last
 n0:0 <=s.now
 n1:s.now <=1099511627776
 few:s.L.length <=m
 last:s.last <=m
 live:∀k∈s.L,s.now<k.c.exp/\k.c.born <=s.now/\k.c.used <=s.now
 right:∀k∈s.L,cT k.c.host=true
 sm:∀k∈s.L,VE k.c
theorem JI.new (q:0 <=a)(h1:a <=1099511627776)(m:Nat):JI (js0 a) m:=
 ⟨ShI.nil,q,h1,Nat.zero_le _,by show(0:Int) <=m;omega,(λk e=>by cases e),(λk e=>by cases e),λk e=>by cases e⟩
theorem JI.mono {s:JS}(h:JI s m)(e:m <=n):JI s n:=⟨h.sh,h.n0,h.n1,Nat.le_trans h.few e,by have:=h.last;omega,h.live,h.right,h.sm⟩
theorem JI.tick {s:JS}(h:JI s m)(n:Int):JI (mU s n).1 m:=by
 unfold mU;split
 ·exact h
 ·rename_i G;have E:=h.n0;have q:Part (Ic s.L (s.now+n)) s.L:=⟨_,rfl⟩
  refine⟨q.inv h.sh,by show 0 <=s.now+n;omega,by show s.now+n <=_;omega,Nat.le_trans q.len h.few,h.last,λk e=>?_,λk e=>h.right k (q.mem e),λk e=>h.sm k (q.mem e)⟩;have D:=List.mem_filter.1 e;have:=h.live k D.1;refine⟨by simpa using D.2,?_,?_⟩
  ·show _ <=s.now+n;omega
  ·show _ <=s.now+n;omega
theorem Ob {p:Plc}{k:Kpt}(h:k∈H1 L p a):∃x∈L,k=x\/k=⟨{ x.c with used:=a },x.site,x.ok⟩:=by
 unfold H1 at h;obtain⟨x,e,rfl⟩:=List.mem_map.1 h;refine⟨x,e,?_⟩;split
 ·exact .inr rfl
 ·exact .inl rfl
theorem JI.uses {s:JS}(h:JI s m):∀q:List Kpt,JI ⟨xx s.L q s.now,s.last,s.now⟩ m:=by
 intro q;have:∀(q:List Kpt) (L:List Kpt),JI ⟨L,s.last,s.now⟩ m->JI ⟨xx L q s.now,s.last,s.now⟩ m:=by
  intro q;induction q with
  |nil=>intro L h;exact h
  |cons k q E=>
   intro L h;refine E (H1 L k.plc s.now) ⟨h.sh.use _ _,h.n0,h.n1,?_,h.last,λx D=>?_,λx D=>?_,λx D=>?_⟩
   ·show(H1 L k.plc s.now).length <=m;unfold H1;rw[length_map];exact h.few
   ·obtain⟨y,e,rfl|rfl⟩:=Ob D
    ·exact h.live _ e
    ·have:=h.live y e;exact⟨this.1,this.2.1,Int.le_refl _⟩
   ·obtain⟨y,e,rfl|rfl⟩:=Ob D
    ·exact h.right _ e
    ·exact h.right y e
   ·obtain⟨y,e,rfl|rfl⟩:=Ob D
    ·exact h.sm _ e
    ·exact⟨(h.sm y e).nm,(h.sm y e).vl,(h.sm y e).pt⟩
 exact this q s.L h
theorem JI.get {s:JS}(h:JI s m)(r:Req):JI (OK s r).1 m:=h.uses _
theorem KM {rs:List Rul}{u:Url}{h:Hdr}(q:(jR rs u h a).2=0):cT (jR rs u h a).1.host=true/\(jR rs u h a).1.born=a/\(jR rs u h a).1.used=a:=by
 rcases Mu rs u h a with h1|⟨-,g,D,E⟩
 ·exact absurd q h1.1
 ·obtain⟨H,-,-,-⟩:=RN g;have G:=Rp (N9 H).1 (Rz D).1;rw[E];refine⟨?_,rfl,rfl⟩;show cT (mu rs u.host h.domain).1=true;have e:=G.2.2;unfold AQ at e;simp only[Bool.and_eq_true]at e;exact e.2.1
theorem NK (L:List Kpt)(last:Int)(c:Kpt):(rb L last c).1.length <=L.length+1/\(rb L last c).2 <=last+1:=by
 unfold rb;split
 ·rw[length_map];exact⟨by omega,by show last <=last+1;omega⟩
 ·rw[length_append];exact⟨by simp,Int.le_refl _⟩
theorem NL {c k:Kpt}(h:k∈(rb L a c).1):k∈L\/(∃o∈L,k=⟨{ c.c with born:=o.c.born,seq:=o.c.seq },c.site,c.ok⟩)\/k=⟨{ c.c with seq:=a+1 },c.site,c.ok⟩:=by
 unfold rb at h;split at h
 ·rename_i o e;obtain⟨x,q,rfl⟩:=List.mem_map.1 h;split
  ·exact .inr (.inl ⟨o,(lD e).1,rfl⟩)
  ·exact .inl q
 ·rcases List.mem_append.1 h with h|h
  ·exact .inl h
  ·exact .inr (.inr (List.mem_singleton.1 h))
theorem JI.come {rs:List Rul}{s:JS}(h:JI s m)(o:c.ok)(E:cT c.host=true)(G:c.born=s.now)(O:c.used=s.now)(q:VE c):JI (I5 rs s c o) (m+1):=by
 unfold I5;have D:Part (XT (np rs c.host) (Ic (rb s.L s.last ⟨c,np rs c.host,o⟩).1 s.now)) (rb s.L s.last ⟨c,np rs c.host,o⟩).1:=(Ln _ _).trans ⟨_,rfl⟩;have I:=NK s.L s.last ⟨c,np rs c.host,o⟩;have H:=h.few;have M:=h.last;refine⟨D.inv (h.sh.put _),h.n0,h.n1,Nat.le_trans D.len (by omega),?_,λk e=>?_,λk e=>?_,λk e=>?_⟩
 ·show(rb s.L s.last ⟨c,np rs c.host,o⟩).2 <=((m+1:Nat):Int)
  omega
 ·have h1:=(List.mem_filter.1 ((Ln _ _).mem e)).2;refine⟨by simpa using h1,?_⟩;rcases NL (D.mem e)with h2|⟨y,hy,rfl⟩|rfl
  ·exact(h.live k h2).2
  ·exact⟨(h.live y hy).2.1,by show c.used <=s.now;omega⟩
  ·exact⟨by show c.born <=s.now;omega,by show c.used <=s.now;omega⟩
 ·rcases NL (D.mem e)with h2|⟨y,hy,rfl⟩|rfl
  ·exact h.right k h2
  ·exact E
  ·exact E
 ·rcases NL (D.mem e)with h2|⟨y,hy,rfl⟩|rfl
  ·exact h.sm k h2
  ·exact⟨q.nm,q.vl,q.pt⟩
  ·exact⟨q.nm,q.vl,q.pt⟩
theorem TI {rs:List Rul}{u:Url}{h:Hdr}(M:u.path.length <=1000000)(e:Du h)(q:(jR rs u h a).2=0):VE (jR rs u h a).1:=by
 rcases Mu rs u h a with h1|⟨-,g,E,D⟩
 ·exact absurd q h1.1
 ·rw[D];have h1:=e.name;have G:=e.value;have H:=e.path;have I:=Ut u.path;refine⟨by show h.name.length <=_;omega,by show h.value.length <=_;omega,?_⟩;show(if h.path=[]then Nb u.path else h.path).length <=_;split<;>omega
theorem JI.set {rs:List Rul}{s:JS}(h:JI s m)(u:Url)(E:u.ok)(t:lU)(D:u.path.length <=1000000):JI (xB rs s u E t).1 (m+1):=by
 have e:=h.mono (Nat.le_succ m);unfold xB;split
 ·exact e
 split
 ·exact e
 split
 ·exact e
 split
 ·exact e
 rename_i h1 G H I;have q:(jR rs u (bI t).1 s.now).2=0:=by omega
 obtain⟨a,b,c⟩:=KM q;exact h.come _ a b c (TI D (yk t) q)
theorem JI.do {rs:List Rul}{s:JS}(h:JI s m)(o:OpR)(q:o.ok):JI (doV rs s o q) (m+1):=by
 have e:=h.mono (Nat.le_succ m);unfold doV;split
 ·exact h.set _ _ _ q.up
 split
 ·exact e.get _
 split
 ·exact e.tick _
 split
 ·exact JI.new h.n0 h.n1 _
 ·exact e
def djC (ar:Option Addr)(lr cr:Nat)(a:Option Addr)(l c:Nat)(last now:Int):List Value:=[.slice ar lr cr,.slice a l c,vI last,vI now]
def JaP (A:Bl)(ar:Option Addr)(lr cr:Nat)(s:JS)(x:Value)(w:World)(v:Value)(w':World):Prop:=
 ∃(a:Option Addr) (l c:Nat),v=.tuple #[.agg #[.slice ar lr cr,.slice a l c,vI s.last,vI s.now],x]/\Sl rj w' (Gp A w) a l c s.L/\bW w w'
theorem ke {h:Hst}(o:h.ok)(r:cT h=true):h.name.length <=1000000:=by
 by_cases q:h.kind=1
 ·have:=(ka o q r).2.2.2.1;omega
 ·unfold cT at r;cases e:bV (lT h)with
  |none=>rw[e]at r;cases r
  |some g=>
   rw[e]at r;have D:=(gi (gG e) o).1 r;subst D;unfold bV at e;split at e
   ·split at e
    ·obtain⟨a,_,rfl⟩:=Option.map_eq_some_iff.1 e;exact Nat.zero_le _
    ·cases e
   split at e
   ·obtain⟨a,_,rfl⟩:=Option.map_eq_some_iff.1 e;exact Nat.zero_le _
   split at e
   ·exact absurd (by have:=Option.some.inj e;rw[<- this]) q
   ·cases e
theorem KG (s:VE c):(me c).length <=2300000:=by
 have:=s.nm;have:=s.vl;unfold me;split
 ·omega
 ·simp;omega
def XZ (A:Bl)(w:World):Bl:=λb=>A b/\b<w.heap.size
theorem Sl.old {α:Type}{T:Ty α}{a:Option Addr}{n c:Nat}{xs:List α}(h:Sl T w A a n c xs):Sl T w (XZ A w) a n c xs:=h.mono λb q e=>⟨e,q⟩
theorem Sl.wr {α:Type}{T:Ty α}{w w':World}{a:Option Addr}{n c k:Nat}{xs:List α}(h:Sl T w A a n c xs)(D:w.grownBy w' (some k))(E: ¬ A k):Sl T w' A a n c xs:=
 h.keep (eD D λb q e=>by cases e;exact E q)
theorem Xa (h:w.heap.size <=u.heap.size):∀b,Gp (XZ A w) u b->Gp A w b:=λb e=>e.elim (λh1=>.inl h1.1) λh1=>.inr (Nat.le_trans h h1)
theorem SM (h1:w.heap.size <=k)(e:k<u.heap.size): ¬ Gp (XZ A w) u k:=λh=>h.elim (λh=>by have:=h.2;omega) λh=>by omega
theorem UK {c x:Kpt}{G r:List Kpt}{p:Bool}(h:L++(bif p then x::r else zO c (x::r))=G):
 (bif (!p&&dH c.c x.c)then L++[c]else L)++[x]++(bif (p || (!p&&dH c.c x.c))then r else zO c r)=G:=by
 cases p with
 |true=>simpa using h
 |false=>
  cases q:dH c.c x.c with
  |true=>
   have e:zO c (x::r)=c::x::r:=by unfold zO;rw[if_pos q]
   simp only[cond_false,e]at h;simpa using h
  |false=>
   have e:zO c (x::r)=x::zO c r:=by
    conv=>lhs;unfold zO
    rw[if_neg (by rw[q];decide)]
   simp only[cond_false,e]at h;simpa using h
theorem tR:Whl prog am 4:=⟨⟨_,_,uO⟩,by kernel_rfl⟩
theorem iP {a:Option Addr}{l c:Nat}{e q:Int}(h:au w k am (djC p n m a l c e q)):
 (Instr.loadAt am (.pointer (some ⟨k,0,none⟩))).run prog w=.ok (.agg #[.slice p n m,.slice a l c,vI e,vI q]) w:=tR.load0 h rfl
theorem js {a:Option Addr}{l c:Nat}{e D:Int}(h:au w k am (djC p n m a l c e D)):
 (Instr.loadAt ab (.pointer (some ⟨k,1,none⟩))).run prog w=.ok (.agg #[.slice a l c,vI e]) w:=
 tT.load h (i:=1) (us:=[.slice a l c,vI e]) rfl (λj q=>match j,q with|0,_=>rfl|1,_=>rfl)
theorem Rn {a:Option Addr}{l c:Nat}{I D:Int}(h:au w k am (djC p n m a l c I D))(a':Option Addr)(l' c':Nat)(q:Int):
 ∃e,(Instr.storeAt ab (.pointer (some ⟨k,1,none⟩)) (.agg #[.slice a' l' c',vI q])).run prog w=.ok () e/\au e k am (djC p n m a' l' c' q D)/\w.grownBy e (some k):=by
 obtain⟨e,H,E,G⟩:=tT.store (P:=prog) (cs:=[.slice a' l' c',vI q]) rfl (aY rfl (aY rfl fj)) h (i:=1) (show 1+2 <=4 by decide);exact⟨e,H,E,G⟩
theorem Lj {w0 w:World}{a:Option Addr}{l c:Nat}{e q:Int}{vs:List Value}(h:au w k am vs)(ad:vs.length=4)(Y:bW w0 w)(Z:w0.heap.size <=k){K:Value->World->Prop}
 (V:∀wx,w.grownBy wx (some k)->bW w0 wx->K (.agg #[.slice p n m,.slice a l c,vI e,vI q]) wx):
 ∃wx:World,(Instr.storeAt am (.pointer (some ⟨k,0,none⟩)) (.agg #[.slice p n m,.slice a l c,vI e,vI q])).run prog w=.ok () wx/\
  ∃(D:Option Addr) (I E:Nat) (a1:Option Addr) (M G:Nat) (O U:Int),(aS am (.pointer (some ⟨k,0,none⟩))).run prog wx=.ok (.agg #[.slice D I E,.slice a1 M G,vI O,vI U]) wx/\K (.agg #[.slice D I E,.slice a1 M G,vI O,vI U]) wx:=by
 obtain⟨wx,ac,X,H⟩:=tR.store0 (P:=prog) (cs:=djC p n m a l c e q) rfl (aY rfl (aY rfl (aY rfl (aY rfl fj)))) h ad;exact⟨wx,ac,p,n,m,a,l,c,e,q,au.res (iP X),V wx H (Below.put Y H Z)⟩
theorem Ah {x c:Cky}(D:x.ok)(G:c.ok)(bb:x.host.name.length <=80000000)(ag:c.host.name.length <=80000000)(b8:x.path.length <=1000000000)(b3:c.path.length <=1000000000)(w:World):
 Cf kY #[x.v,c.v] w (Ret λv w'=>v=.bool (Ae x c)/\bW w w'):=by
 apply yA;intro Y bs aj an a0 q al ar;obtain⟨b2,bc,b4⟩:=jS (P:=prog) (Below.refl w.heap.size w) aj an;obtain⟨bj,Z,b5⟩:=jS (P:=prog) bc al ar;have a2:au q Y ah x.cells:=(au.new aj an:au bs Y ah x.cells).below bj;have a3:au q a0 ah c.cells:=au.new al ar;have a9:∀{wx},bW q wx->(Instr.loadAt ai (.pointer (some ⟨Y,2,none⟩))).run prog wx=.ok x.host.v wx:=λU=>aR.load (a2.below U) (i:=2) (us:=x.host.cells) (Hst.len D) (λj X=>jp D X);have a8:∀{wx},bW q wx->(Instr.loadAt ai (.pointer (some ⟨a0,2,none⟩))).run prog wx=.ok c.host.v wx:=λU=>aR.load (a3.below U) (i:=2) (us:=c.host.cells) (Hst.len G) (λj X=>jp G X);have ac:=Below.refl q.heap.size q;refine rv (λb w'=>b=(AQ x.host c.host || AQ c.host x.host)/\bW q w') ?_ ?_
 ·refine⟨rfl,_,a9 ac,rfl,_,a8 ac,?_⟩;refine aA (jM D G bb ag q) ?_;rintro _ b0 ⟨rfl,E⟩;refine⟨_,rfl,af.of (λe=>⟨by rw[e];rfl,E⟩) (λe=>?_)⟩;refine⟨rfl,_,a8 E,rfl,_,a9 E,?_⟩;refine aA (jM G D ag bb b0) ?_;rintro _ b6 ⟨rfl,bk⟩;exact⟨_,rfl,by rw[e];rfl,ae E bk E.size⟩
 ·rintro b b1 ⟨rfl,V⟩;have I:=ae Z V Z.size;have M:=a2.below V;have ad:=a3.below V;unfold Ae;refine⟨rfl,_,M.load1 bK rfl (i:=22) (bi D 2),af.of (λe=>?_) (λe=>⟨by rw[e];rfl,I⟩)⟩;refine⟨rfl,_,M.load1 ax rfl (i:=0) rfl,rfl,_,ad.load1 ax rfl (i:=0) rfl,af.of (λH=>?_) (λH=>⟨by rw[e,H];rfl,I⟩)⟩;refine af.of (λO=>?_) (λO=>⟨by rw[e,H,O];rfl,I⟩);refine⟨rfl,_,ad.load1 ax rfl (i:=21) (bi G 1),rfl,_,M.load1 ax rfl (i:=21) (bi D 1),?_⟩;refine aA (yt c.path x.path (by omega) (by omega) b1) ?_;rintro _ b7 ⟨rfl,bq⟩;rw[bq];exact⟨_,rfl,by rw[e,H,O];rfl,I⟩
theorem Kb {rs:List Rul}(V:Sl MS w A p n m rs)(M:rs.length <=1000000)(U:∀r∈rs,r.2.length <=80000000){h:Hst}(o:h.ok)(O:h.name.length <=80000000):
 Cf rY #[.slice p n m,h.v] w (Ret λv w'=>v=vS (np (rs.filter eo) h)/\bW w w'):=by
 apply HH;intro X Y G H;obtain⟨ac,q,ad⟩:=jS (P:=prog) (Below.refl w.heap.size w) G H;have a3:au Y X ai h.cells:=au.new G H;refine⟨_,aR.load0 a3 (Hst.len o),?_⟩;refine aA (JZ (V.below q) M U o O) ?_;rintro _ Z ⟨rfl,E⟩;have D:=ae q E q.size;unfold np;refine⟨_,rfl,af.of (λe=>?_) (λe=>?_)⟩
 ·have e:FH (rs.filter eo) h=[]:=by simpa using e
  rw[if_pos e];refine⟨_,aR.load0 (a3.below E) (Hst.len o),?_⟩;refine aA (qt o Z) ?_;rintro _ ag ⟨rfl,I⟩;exact⟨_,rfl,rfl,ae D I D.size⟩
 ·have e: ¬ FH (rs.filter eo) h=[]:=by simpa using e
  rw[if_neg e];exact⟨rfl,D⟩
theorem J9 (o:c.ok)(s:VE c)(w:World):Cf rW #[c.v] w (Ret λv w'=>v=vS (me c)/\bW w w'):=by
 apply HF;intro I M D G;obtain⟨O,q,V⟩:=jS (P:=prog) (Below.refl w.heap.size w) D G;have a1:au M I ah c.cells:=au.new D G;have h1:=s.nm;have U:=s.vl;unfold me;refine⟨rfl,_,a1.load1 ax rfl (i:=0) rfl,af.of (λe=>?_) (λe=>?_)⟩
 ·have e:c.name=[]:=by simpa using e
  rw[if_pos e];exact⟨rfl,_,a1.load1 ax rfl (i:=1) rfl,rfl,q⟩
 ·have e: ¬ c.name=[]:=by simpa using e
  rw[if_neg e];refine⟨rfl,_,a1.load1 ax rfl (i:=0) rfl,fits (by simp;omega),λX E=>⟨rfl,_,a1.load1 ax rfl (i:=1) rfl,fits (by rw[E];simp;omega),λY H=>⟨by rw[H,E],q⟩⟩⟩
theorem Ka {G E:Nat}{a:Option Addr}{l c:Nat}{s:JS}(bb:Sl rj w A a l c s.L)(Y:JI s m)(cn:m <=1000000)(n:Int)(cp:n <=9223372036854775807):
 Cf rX #[.agg #[.slice p G E,.slice a l c,vI s.last,vI s.now],vI n] w (Ret (JaP A p G E (mU s n).1 (vI (mU s n).2) w)):=by
 apply HG;intro Z cf a8 M k4 ag a9 bc;obtain⟨cj,bk,ac⟩:=jS (P:=prog) (Below.refl w.heap.size w) a8 M;obtain⟨b0,aj,ad⟩:=jS (P:=prog) bk a9 bc;have al:au cf Z am (djC p G E a l c s.last s.now):=au.new a8 M;have a2:=al.below b0;have a4:au ag k4 am (djC none 0 0 none 0 0 0 0):=au.new a9 bc;have bj:Z≠k4:=by have:=al.lt;omega
 have ck:=Y.n0;have h1:=Y.n1;have b9:i64.wrap ((1099511627776:Int)-s.now)=1099511627776-s.now:=wrJ;refine⟨λH=>H=ag/\ ¬ (n<0\/1099511627776-s.now<n),⟨λb H=>H=ag/\b=decide (n<0\/1099511627776-s.now<n),?_,λb=>aQ.of ?_ _⟩,aQ.of ?_ _⟩
 ·refine af.of (λe=>⟨rfl,?_⟩) (λe=>⟨rfl,_,a2.load1 bB rfl (i:=3) rfl,rfl,?_⟩)
  ·rw[decide_eq_true (.inl (of_decide_eq_true e))]
  ·rw[b9];have:=of_decide_eq_false e;rw[Bool.eq_iff_iff,dTx,dTx];omega
 ·rintro H ⟨X,rfl⟩;rw[X];refine af.of (λe=>?_) (λe=>⟨rfl,of_decide_eq_false e⟩);have e:=of_decide_eq_true e;refine⟨_,_,_,_,_,_,_,_,iP a2,?_⟩;refine Lj (K:=λr q=>JaP A p G E (mU s n).1 (vI (mU s n).2) w (.tuple #[r,vI 122]) q) a4 rfl aj ad λq a0 ar=>?_;unfold mU;rw[if_pos e];exact⟨a,l,c,rfl,(bb.below ar).orNew,ar⟩
 ·rintro H ⟨X,b7⟩;rw[X];have M:i64.wrap (s.now+n)=s.now+n:=wrJ;obtain⟨q,cc,D,O⟩:=a2.put iO (i:=3) (v:=vI (s.now+n)) (show 3<4 by decide) rfl rfl;have D:au q Z am (djC p G E a l c s.last (s.now+n)):=D;have I:=Below.put aj O ac;have an:=a4.grown O (bA (Ne.symm bj));have cl:=Y.few;refine⟨rfl,_,a2.load1 bB rfl (i:=3) rfl,rfl,q,by rw[M];exact cc,rfl,_,_,_,_,js D,rfl,_,D.load1 bB rfl (i:=3) rfl,?_⟩;refine aA (sA (bb.old.below I) (by omega) s.last (s.now+n)) ?_;rintro _ cu ⟨cr,a',l',c',rfl,b8,V⟩;have b1:=D.below V;have b2:=an.below V;have bq:=ae I V I.size;obtain⟨ch,ce,b3,U⟩:=Rn b1 a' l' c' s.last;have bs:=Below.put bq U ac;have b4:=b2.grown U (bA (Ne.symm bj));refine⟨_,_,_,_,_,rfl,rfl,ch,ce,_,_,_,_,_,_,_,_,iP b3,?_⟩;refine Lj (K:=λr q=>JaP A p G E (mU s n).1 (vI (mU s n).2) w (.tuple #[r,vI 0]) q) b4 rfl bs ad λc0 a0 b6=>?_;unfold mU;rw[if_neg b7];have ct:=O.size;have ca:=D.lt;have cb:=an.lt;exact⟨a',l',c',rfl,((b8.wr U (SM ac ca)).wr a0 (SM ad cb)).mono λb _ b5=>Xa I.size b b5,b6⟩
theorem J8 {ca b4:Nat}{a:Option Addr}{l c:Nat}{s:JS}(em:Sl rj w A a l c s.L)(b9:JI s m)(f0:m <=100000){r:Req}(or:r.ok)(ge:r.host.name.length <=1000000)(gl:r.path.length <=1000000):
 Cf rV #[.agg #[.slice p ca b4,.slice a l c,vI s.last,vI s.now],r.v] w
  (Ret λv w'=>∃(a':Option Addr) (O c':Nat),v=.slice a' O c'/\Ow qD ah w' NoB a' O c' ((z8 s.L r s.now).map Kpt.c)/\bU w.heap.size a'/\bW w w'):=by
 apply HE;intro dw V c5 dl ev cb c6 dp ds d1 c4 dk;obtain⟨e9,d3,f9⟩:=jS (P:=prog) (Below.refl w.heap.size w) c5 dl;obtain⟨d5,cc,ga⟩:=jS (P:=prog) d3 c6 dp;obtain⟨D,B12,f7⟩:=jS (P:=prog) cc c4 dk;have a2:au cb dw am (djC p ca b4 a l c s.last s.now):=(au.new c5 dl:au V dw am (djC p ca b4 a l c s.last s.now)).below d5;have a3:au cb ev aX r.cells:=au.new c6 dp;have fo:=b9.few;have ex:Ow qD ah d1 NoB (some ⟨ds,0,none⟩) 0 0 []:=Ai xV c4 dk;have d6:bU cb.heap.size (some (⟨ds,0,none⟩:Addr)):=λg ar=>by simp[eP]at ar;omega
 refine⟨rfl,_,_,_,_,js (a2.below D),?_⟩;refine aA (A8 (em.below B12) (by omega) s.last) ?_;rintro _ ey ⟨e5,f8,fd,rfl,dc,ed,U⟩;have B15:=ae B12 U B12.size;have e7:=ae D U D.size;have en:=dc.sl (A':=λb=>d1.heap.size <=b) (λ_ _ d9=>d9.elim) λg ar=>ed g ar;have c7:=dc.len;rw[length_map]at c7;subst c7;have d8:∀k,((s.L.take k).filter λx=>eQ x.c r s.now).length <=s.L.length:=λk=>Nat.le_trans (List.length_filter_le ..) (by rw[length_take];omega);refine⟨_,_,_,rfl,?_⟩;refine⟨λm a5 dx ch i w'=>∃k:Nat,k <=s.L.length/\i=(k:Int)/\m=s.L.length-k/\Ow qD ah w' NoB a5 dx ch ((((s.L.take k).filter λx=>eQ x.c r s.now).foldl (λout c=>zO c out) []).map Kpt.c)/\bU w.heap.size a5/\bW ey w',
  ⟨_,0,by omega,rfl,rfl,ex.below U,d6.mono cc.size,Below.refl _ _⟩,?_⟩
 intro m a5 dx ch i;refine aQ.of ?_ _;rintro e1 ⟨k,fr,rfl,rfl,b7,c0,M⟩;have b6:=ae B15 M B15.size;refine af.of (λa0=>?_) (λa0=>?_)<;>simp only[dTx,dFx]at a0
 ·have b1:k<s.L.length:=by omega
  have da:k<(s.L.map Kpt.c).length:=by rw[length_map];exact b1
  have de:=en.below M;obtain⟨c8,-⟩:=lW aN de da;rw[getElem_map]at c8;refine⟨⟨⟨by omega,by omega⟩,de.isSome da⟩,_,c8,?_⟩;have E:=s.L[k].ok;have e4:=b9.sm _ (getElem_mem b1);have gs:=ke E (b9.right _ (getElem_mem b1));have go:=e4.pt;have a9:((s.L.take (k+1)).filter λx=>eQ x.c r s.now).foldl (λout c=>zO c out) []=if eQ s.L[k].c r s.now=true then zO s.L[k] (((s.L.take k).filter λx=>eQ x.c r s.now).foldl (λout c=>zO c out) [])else((s.L.take k).filter λx=>eQ x.c r s.now).foldl (λout c=>zO c out) []:=by
   rw[take_succ_eq_append_getElem b1,List.filter_append,filter_cons,List.filter_nil,foldl_append];split<;>rfl
  have fn:(((s.L.take k).filter λx=>eQ x.c r s.now).foldl (λout c=>zO c out) []).length <=s.L.length:=by
   rw[(oF _ []).length_eq,nil_append];exact d8 k
  have et:i64.wrap ((k:Int)+1)=((k+1:Nat):Int):=by rw[wrJ];omega
  try dsimp only
  rw[et];generalize f2:s.L[k]=x at*;generalize ((s.L.take k).filter λx=>eQ x.c r s.now).foldl (λout c=>zO c out) []=G at*;refine aN.new (zs:=mq.cells) (cs:=x.c.cells) (Cky.len (by rfl)) (Cky.len E) (Cky.one _) e1 λf6 e3 fv cl an=>?_;have ct:=ae b6 an b6.size;have cf:=ae (ae (ae D U D.size) M (ae D U D.size).size) an (ae (ae D U D.size) M (ae D U D.size).size).size;refine⟨_,aN.load0 cl (Cky.len E),_,io.load0 (a3.below cf) (Req.len or),rfl,_,(a2.below cf).load1 bB rfl (i:=3) rfl,?_⟩;refine aA (GW E or (by omega) (by omega) (by omega) (by omega) s.now e3) ?_;rintro _ I ⟨rfl,bq⟩;have cr:=ae ct bq ct.size;have ac:=ae (ae M an M.size) bq (ae M an M.size).size;have b8:=(b7.below an).below bq;have cn:=cl.below bq;refine⟨_,rfl,af.of (λe=>?_) (λe=>?_)⟩
  ·rw[if_neg (by rw[Bool.not_eq_true']at e;rw[e];decide)]at a9;exact⟨s.L.length-(k+1),by omega,k+1,by omega,rfl,rfl,by rw[a9];exact b8,c0,ac⟩
  ·rw[if_pos (by rwa [Bool.not_eq_false']at e)]at a9;have c1:=b8.len;rw[length_map]at c1;subst c1;have eq:=b8.all;have eg:(zO x G).length=G.length+1:=by rw[(xZ x G).length_eq];rfl
   intro f5 e0 ei dn;have d4:=(dn▸ao I _:bW I e0)
   refine⟨λm a8 d0 cj b i w'=>∃(j:Nat) (q:List Kpt),j <=G.length/\i=(j:Int)/\m=G.length-j/\q++(bif b then G.drop j else zO x (G.drop j))=zO x G/\Ow qD ah w' NoB a8 d0 cj (q.map Kpt.c)/\bU I.heap.size a8/\bW I w',
    ⟨_,0,[],by omega,rfl,rfl,rfl,Ai xV ei dn,λg ar=>by simp[eP]at ar;omega,d4⟩,?_⟩
   intro gc a8 d0 cj H f4;refine aQ.of ?_ _;rintro e2 ⟨j,q,fq,rfl,rfl,heq,b2,b0,Y⟩;have f1:q.length <=G.length+1:=by
    have:=congrArg length heq;rw[length_append,eg]at this;omega
   refine af.of (λa0=>?_) (λa0=>?_)<;>simp only[dTx,dFx]at a0
   ·have c2:j<G.length:=by omega
    have c3:j<(G.map Kpt.c).length:=by rw[length_map];exact c2
    have dg:=eq.below Y;obtain⟨c9,-⟩:=lW aN dg c3;rw[getElem_map]at c9;have bb:=G[j].ok;rw[drop_eq_getElem_cons c2]at heq;refine⟨⟨⟨by omega,by omega⟩,dg.isSome c3⟩,_,c9,?_⟩;have es:i64.wrap ((j:Int)+1)=((j+1:Nat):Int):=by rw[wrJ];omega
    try dsimp only
    rw[es];generalize f3:G[j]=y at*;refine aN.new (zs:=mq.cells) (cs:=y.c.cells) (Cky.len (by rfl)) (Cky.len bb) (Cky.one _) e2 λdr d2 fs ck cu=>?_;have b3:=ae Y cu Y.size;have cp:=cn.below b3;have er:=UK heq;refine⟨λa l c b X=>Ow qD ah X NoB a l c ((bif (!H&&dH x.c y.c)then q++[x]else q).map Kpt.c)/\b=(H || (!H&&dH x.c y.c))/\bU I.heap.size a/\bW I X/\au X dr ah y.c.cells,
     ⟨λb X=>b=(!H&&dH x.c y.c)/\bW d2 X,?_,λb=>aQ.of ?_ _⟩,λe6 gb fl fb=>aQ.of ?_ _⟩
    ·refine af.of (λe=>?_) (λe=>⟨by rw[e];rfl,Below.refl _ _⟩);refine⟨_,aN.load0 cp (Cky.len E),_,aN.load0 ck (Cky.len bb),?_⟩;refine aA (GV E bb d2) ?_;rintro _ gn ⟨rfl,ea⟩;exact⟨_,rfl,by rw[e];rfl,ea⟩
    ·rintro X ⟨rfl,bs⟩;have ce:=ae b3 bs b3.size;have dd:=(b2.below cu).below bs;have b5:=ck.below bs;refine af.of (λe=>?_) (λe=>?_)
     ·refine⟨_,aN.load0 (cp.below bs) (Cky.len E),?_⟩;obtain⟨bk,a1,bc,ad,ag,V,a',O,c',aj,bj,al,Z,ew⟩:=yn (w0:=I) dd b0 ce E (by rw[length_map];omega);refine⟨bk,a1,bc,ad,ag,V,a',O,c',aj,?_,?_,al,Z,b5.block (ew dr b5.lt λc=>?_)⟩
      ·rw[e];have:(q++[x]).map Kpt.c=q.map Kpt.c++[x.c]:=by simp
       show Ow _ _ _ _ _ _ _ ((q++[x]).map Kpt.c);rw[this];exact bj
      ·rw[e,Bool.or_true]
      ·have:=b2.lt _ c;omega
     ·rw[e];exact⟨dd,by rw[Bool.or_false],b0,ce,b5⟩
    ·rintro X ⟨el,rfl,ee,eb,d7⟩;refine⟨_,aN.load0 d7 (Cky.len bb),?_⟩;have ek:((bif (!H&&dH x.c y.c)then q++[x]else q).map Kpt.c).length <=1000000:=by
      rw[length_map];cases(!H&&dH x.c y.c)
      ·show q.length <=_;omega
      ·show(q++[x]).length <=_;simp;omega
     obtain⟨bk,a1,bc,ad,ag,V,a',O,c',aj,bj,al,Z,-⟩:=yn (w0:=I) el ee eb bb ek;refine⟨bk,a1,bc,ad,ag,V,a',O,c',aj,G.length-(j+1),by omega,j+1,(bif (!H&&dH x.c y.c)then q++[x]else q)++[y],by omega,rfl,rfl,er,?_,al,Z⟩;rw[map_append];exact bj
   ·have:j=G.length:=by omega
    subst this;rw[List.drop_length]at heq;have ef:bU w.heap.size a8:=b0.mono cr.size;refine af.of (λe=>?_) (λe=>?_)
    ·have e:H=false:=by simpa using e
     subst e;have heq:q++[x]=zO x G:=heq;refine⟨_,aN.load0 (cn.below Y) (Cky.len E),?_⟩;obtain⟨bk,a1,bc,ad,ag,V,a',O,c',aj,bj,al,Z,-⟩:=yn (w0:=I) b2 b0 Y E (by rw[length_map];omega);refine⟨bk,a1,bc,ad,ag,V,a',O,c',aj,s.L.length-(k+1),by omega,k+1,by omega,rfl,rfl,?_,al.mono cr.size,ae ac Z ac.size⟩;rw[a9,<- heq,map_append];exact bj
    ·have e:H=true:=by simpa using e
     subst e;have heq:q++[]=zO x G:=heq;rw[append_nil]at heq;refine⟨s.L.length-(k+1),by omega,k+1,by omega,rfl,rfl,?_,ef,ae ac Y ac.size⟩;rw[a9,<- heq];exact b2
 ·have:k=s.L.length:=by omega
  subst this;rw[take_length]at b7;exact⟨_,_,_,rfl,b7,c0,b6⟩
section
variable {F:Fence} {n:Nat} {P:Program} {ops:Array Oper} {Q:Exit->Act->World->Prop} {a:Act} {w:World} {rest:List Oper} {o:Oper}
theorem JH (E:o.guard=none){x:Operand}(e:o.op=.buildSlice t 1 #[(0,x)]){u:Value}(H:a.eval x=u){v:Value}{w':World}(G:(Instr.buildSlice t 1 #[(0,u)]).run P w=.ok v w')(q:wpListIn F n P ops Q rest (a.put o.dst v) w'):wpListIn F n P ops Q (o::rest) a w:=
 jh E (by rw[e];intro c D;cases D) (by simp[Oper.about,e]) (by simp[execOp,e,H,G,Result.andThen]) q
theorem JG (G:o.guard=none){t:TypeId}{x y:Operand}(e:o.op=.call { callee:=.builtin .append,args:= #[x,y],argTypes:= #[t,t] }){p q:Value}(I:a.eval x=p)(M:a.eval y=q){v:Value}{w':World}(H:(Builtin.append_ #[t,t] o.type #[p,q]).run P w=.ok v w')(D:wpListIn F n P ops Q rest (a.put o.dst v) w'):wpListIn F n P ops Q (o::rest) a w:=
 jh G (by rw[e];intro c E;cases E) (by simp[Oper.about,e,resolve,Target.leads,Sem.run_pure]) (by simp[execOp,e,resolve,invoke,builtin,I,M,H,Result.andThen]) D
end
theorem Ow.cells {α:Type}{T:Ty α}{a:Option Addr}{n c:Nat}{xs:List α}(h:Ow T t w A a n c xs){g:Nat}(e:eP a=some g):∃o:Obj,w.heap[g]? =some o/\o.isCells=true:=by
 rcases h.2.2.2 with⟨q,_⟩|⟨D,cur,G,q,E,_⟩
 ·rw[q]at e;cases e
 ·rw[q]at e;have:D=g:=by simpa[eP]using e
  subst this;exact⟨_,E,rfl⟩
def IJ (w:World)(row:Option Nat):Prop:=∀r,row=some r->∃o:Obj,w.heap[r]? =some o/\o.isCells=false
theorem au.turned {w w':World}{vs:List Value}{row:Option Nat}(h:au w k t vs)(E:w.grownBy w' row)(G:IJ w row):au w' k t vs:=
 h.grown E λq=>by
  obtain⟨o,e,D⟩:=G k q.symm;rw[show w.heap[k]? =_ from h]at e;cases e;cases D
theorem Ow.turned {α:Type}{T:Ty α}{w w':World}{a:Option Addr}{n c:Nat}{xs:List α}{row:Option Nat}(h:Ow T t w NoB a n c xs)(D:w.grownBy w' row)(M:IJ w row):Ow T t w' NoB a n c xs:=by
 cases row with
 |none=>exact h.keep (eD D λb O e=>by cases e)
 |some r=>
  refine h.put (λg H e=>?_) D;subst e;obtain⟨o,I,G⟩:=h.cells H;obtain⟨U,E,q⟩:=M g rfl;rw[I]at E;cases E;rw[G]at q;cases q
theorem AO {w0 w w':World}{row:Option Nat}(h:Below n w0 w)(q:n <=w.heap.size)(e:w.grownBy w' row)(D:∀r,row=some r->n <=r):Below n w0 w':=h.grown e q D
def Y2 (w:World)(B:Nat)(t tc:TypeId)(pre:List Kpt)(W:World):Prop:=
 ∃(a:Option Addr) (n c:Nat),au W B t [.slice a n c]/\Ow qD tc W NoB a n c (pre.map Kpt.c)/\bU w.heap.size a/\eP a≠some B/\bW w W
theorem Oq {B:Nat}{t V:TypeId}{H:Nat}(M:w.heap.size <=H):OwnFrom H (Y2 w B t V):=by
 rintro pre W X row ⟨a,n,c,hB,U,I,O,D⟩ q E;have G:IJ W row:=λr e=>(E r e).2;exact⟨a,n,c,hB.turned q G,U.turned q G,I,O,AO D D.size q λr e=>Nat.le_trans M (E r e).1⟩
theorem En {w w':World}(n:Nat)(e:bW w w'):KeepsFrom n w w':=⟨e.size,λk o _ q _=>(e.block k (Array.getElem?_eq_some_iff.1 q).1).trans q⟩
theorem Cb {w w':World}(e:bW w w'):KeepsWalks w w':=⟨e.size,λk o q _=>(e.block k (Array.getElem?_eq_some_iff.1 q).1).trans q⟩
section
open Go.Pk Go.RowKit Go.Shelf
attribute [local go_sem] Oper.semAt_some
theorem Tk {w0 w:World}{a:Option Addr}{n c:Nat}{xs:List Cky}(ac:Ow qD ah w NoB a n c xs)(I:bU w0.heap.size a)(G:bW w0 w){x:Cky}(o:x.ok)(a0:xs.length <=1000000):
 ∃(U:World) (a1:Option Addr) (M E:Nat),(Instr.buildSlice aP 1 #[(0,x.v)]).run prog w=.ok (.slice a1 M E) U/\
  ∃(q:World) (a':Option Addr) (O c':Nat),(Builtin.append_ #[aP,aP] aP #[.slice a n c,.slice a1 M E]).run prog U=.ok (.slice a' O c') q/\
   Ow qD ah q NoB a' O c' (xs++[x])/\bU w0.heap.size a'/\bW w0 q/\(∀b,b<w.heap.size->eP a≠some b->q.heap[b]? =w.heap[b]?)/\w.heap.size <=q.heap.size:=by
 have e:bW w (w.alloc (.cells x.cells.toArray ah)):=ao w _;have ad:=ac.below e;have al:Src qD (w.alloc (.cells x.cells.toArray ah)) NoB (some ⟨w.heap.size,0,none⟩) 1 [x]:=Src.new1F xV rfl rfl (show qD.rep w NoB x.cells x from⟨rfl,o⟩);obtain⟨ar,a4,an,V,aj,ag,D,Y⟩:=eU (ty:=aP) gm mg (by decide) ad (λ_ _ h=>h) (cm:=1) al (by simp;omega);have hB:=ae G e G.size;refine⟨_,_,_,_,St o w,ar,a4,an,V,aj,ag,I.app hB.size Y,hB.grown D hB.size I,λb H Z=>?_,Nat.le_trans e.size D.size⟩;rw[D.block b (Nat.lt_of_lt_of_le H e.size) (λX=>Z X.symm),e.block b H]
theorem U5 (m:Option Nat)(w:World):Cf 135 #[.map m] w λe w'=>e=.returned (.func (.func 202) #[] #[.pointer (some ⟨w.heap.size,0,none⟩)])/\w'=w.alloc (.cells #[.map m] aC):=by
 refine(di m (K:=λv w'=>v=(.func (.func bT) #[] #[.pointer (some ⟨w.heap.size,0,none⟩)])/\w'=w.alloc (.cells #[.map m] aC)) ?_).mono ?_
 ·intro E G q D;subst q D;exact⟨rfl,rfl⟩
 ·rintro e w' ⟨v,rfl,rfl,rfl⟩;exact⟨rfl,rfl⟩
set_option maxRecDepth 100000 in
set_option maxHeartbeats 4000000 in
theorem Ml {p ma ms:Nat}{L:List Kpt}{last:Int}{w:World}(h:Shf aZ p ma ms L last w)(hl:L.length <=1000000)
 (hsort:∀(xs:List Kpt) (W:World) (a:Option Addr) (n c:Nat),xs.Perm L->Ow qD ah W NoB a n c (xs.map Kpt.c)->bU w.heap.size a->bW w W->
  CallsIn Fence.wide 5 prog 71 #[.slice a n c,.func (.func 136) #[] #[]] W λe W'=>e=.returned (.tuple #[])/\Ow qD ah W' NoB a n c (L.map Kpt.c)/\Chg (eP a).toList W W'):
 CallsIn Fence.wide 6 prog 68 #[.pointer (some ⟨p,0,none⟩)] w λe w'=>∃(a:Option Addr) (n c:Nat),e=.returned (.slice a n c)/\Ow qD ah w' NoB a n c (L.map Kpt.c)/\bU w.heap.size a/\bW w w':=by
 have hv:=λm W=>(callsIn_wide (n:=5)).2 (U5 m W);obtain⟨M,S,hM,hS,hMR,hSR⟩:=h.ex;have hplt:=h.cell.lt;have hcell:∀i,w.cell? ⟨p,i,none⟩=_:=λi=>h.cell.cell i;have hc0:=hcell 0;refine callsIn_of_wp_marks func68 rfl trivial ?_ rfl;simp only[Tryz.ntmps68,List.size_toArray,length_cons,length_nil,Nat.reduceAdd,Nat.reduceSub,Array.replicate_succ,Array.replicate_zero,List.push_toArray,List.append_toArray,nil_append,cons_append];gi_wp2;refine⟨trivial,(hv _ _).mono ?_⟩;rintro e w' ⟨rfl,rfl⟩;gi_wp2;have hml:M.length <=1000000:=by have:=hMR.perm.length_eq;rw[length_map]at this;omega
 obtain⟨w1,hw1⟩:∃w1,w1=w.alloc (.cells #[.slice none 0 0] aP):=⟨_,rfl⟩
 have b1:bW w w1:=hw1▸ao w _;have aB:au w1 w.heap.size aP [.slice none 0 0]:=au.new rfl hw1;rw[<- hw1];have hs1:w1.heap.size=w.heap.size+1:=by rw[hw1];simp
 obtain⟨w2,hw2⟩:∃w2,w2=w1.alloc (.cells #[.map (some ma)] aC):=⟨_,rfl⟩
 have b2:bW w1 w2:=hw2▸ao w1 _;have aM:au w2 w1.heap.size aC [.map (some ma)]:=au.new rfl hw2;rw[<- hw2];have hs2:w2.heap.size=w1.heap.size+1:=by rw[hw2];simp
 have B2:=ae b1 b2 b1.size;clear hw1 hw2 hcell hc0;rw[hs1]at aM;have hStop:=NC Fence.wide 5 trivial rfl (by decide) (w.heap.size+1) ma M w2 (by omega) (aM.cell 0) (hM.below B2);obtain⟨Bx,hBx⟩:∃Bx,Bx=w.heap.size:=⟨_,rfl⟩
 obtain⟨Bm,hBm⟩:∃Bm,Bm=w.heap.size+1:=⟨_,rfl⟩
 rw[<- hBm]at hStop;rw[<- hBm,<- hBx];rw[<- hBx]at aB;have I0:Y2 w Bx aP ah [] w2:=⟨none,0,0,aB.below b2,Ow.nil _ _ _ _,(λg hg=>by cases hg),(by intro h;cases h),B2⟩
 clear aM hS hM h b1 b2 aB;refine wpIn_rangeFunc_ownH rfl (by decide) (gf:=202) (lb:= #[.pointer (some ⟨Bm,0,none⟩)]) rfl trivial (enters_of func202 (by kernel_rfl) rfl)
  hStop walksK_t walksK_b (Below.refl _ _) (λ_=>rfl)
  (Y2 w Bx aP ah) (λ_ _ _=>False) (Oq (by omega)) (λ_ _ _ _ _ hs _ _=>hs) I0
  (λx a' W=>∃kx,a'= { tmps:= #[.pointer (some ⟨p,0,none⟩),undef,.slice none 0 0,.pointer (some ⟨Bx,0,none⟩),.pointer (some ⟨kx,0,none⟩),.pointer (some ⟨p,0,none⟩),.pointer (some ⟨p,0,none⟩),.pointer (some ⟨p,0,none⟩),.map (some ma),.func (.func 202) #[] #[.pointer (some ⟨Bm,0,none⟩)],x.v,undef,undef,undef,undef,undef,undef,undef,undef],defers:=[] } /\au W kx aI x.cells)
  (λx a' s W W' row hs hg hr=> ?own) ?assign ?body ?done ?stop
 case own=>
  obtain⟨kx,e,ha⟩:=hs;exact⟨kx,e,ha.turned hg λr e=>(hr r e).2⟩
 case assign=>
  intro l pre x W K hI hK;have hb3:bW W (W.alloc (.cells ky.cells.toArray aI)):=ao W _;obtain⟨w3,hst,ha3,hg3⟩:=iA.store0 (P:=prog) (cs:=x.cells) (Kpt.len x) (Kpt.one x) (au.new (t:=aI) (vs:=ky.cells) rfl rfl:au (W.alloc (.cells ky.cells.toArray aI)) W.heap.size aI ky.cells) (Kpt.len ky);have hb23:=Below.put hb3 hg3 (Nat.le_refl _);apply wpIn_region_lit;simp only[List.zip_toArray,List.foldl_toArray',List.foldl_toArray,List.zip_cons_cons,List.zip_nil_left,List.zip_nil_right,foldl_cons,List.foldl_nil,List.setIfInBounds_toArray,List.set_cons_succ,List.set_cons_zero];refine A1 rfl rfl (H3 _) ?_;refine sj rfl rfl rfl rfl hst ?_;apply wpListIn_nil;exact hK _ w3 (En _ hb23) (Cb hb23) (Oq (Nat.le_refl _) pre W w3 none hI (xa hb23) (λr e=>by cases e)) ⟨_,rfl,ha3⟩
 case body=>
  rintro l pre x a' W hl hrec ⟨a,n,c,hB,ho,hf,hne,hb⟩ ⟨kx,rfl,hx⟩ hlen;have hl1:(Instr.loadAt aP (.pointer (some ⟨Bx,0,none⟩))).run prog W=.ok (.slice a n c) W:=hB.load1 gm rfl (i:=0) rfl;have hl2:(Instr.loadAt ah (.pointer (some ⟨kx,0,none⟩))).run prog W=.ok x.c.v W:=aN.load hx (i:=0) (us:=x.c.cells) (Cky.len x.ok) (λj hj=>by rw[Nat.zero_add];exact ni x hj);obtain⟨w4,a1,l1,c1,q1,w5,a2,n2,c2,q2,row4,fr4,B4,oth,sz5⟩:=Tk ho hf hb x.ok (by rw[length_map];omega);have hB5:=hB.block (oth Bx hB.lt hne);obtain⟨w6,q3,hB6,g6⟩:=hB5.put CV (i:=0) (v:=.slice a2 n2 c2) (show 0<1 by decide) rfl rfl;apply wpIn_block;apply wpIn_region_lit;refine xf rfl rfl rfl hl1 ?_;refine jh rfl (by intro c hc;cases hc) rfl (v:=.pointer (some ⟨kx,0,none⟩)) (w':=W) rfl ?_;refine xf rfl rfl rfl hl2 ?_;refine JH rfl rfl rfl q1 ?_;refine JG rfl rfl rfl rfl q2 ?_;refine sj rfl rfl rfl rfl q3 ?_;apply wpListIn_nil;have hne2:eP a2≠some Bx:=λe=>by
   rcases row4.2.2.2 with⟨e1,_⟩|⟨g,cur,fr,e1,hh,_⟩
   ·rw[e1]at e;cases e
   ·rw[e1]at e;have:g=Bx:=by simpa[eP]using e
    subst this;rw[show w5.heap[g]? =_ from hB5]at hh;exact absurd (Option.some.inj hh) (by intro h;injection h with _ h2 _;exact absurd h2 (by decide))
  have oth6:∀(k:Nat) (o:Obj),W.heap[k]? =some o->o.isCells=false->w6.heap[k]? =some o:=λk o hk ho'=>by
   have hlt:=(Array.getElem?_eq_some_iff.1 hk).1;have h5:=(oth k hlt λe=>by obtain⟨o2,h2,c2⟩:=ho.cells e;rw[hk]at h2;cases h2;rw[ho']at c2;cases c2).trans hk;refine(g6.block k (Array.getElem?_eq_some_iff.1 h5).1 λe=>?_).trans h5;cases e;rw[show W.heap[Bx]? =_ from hB]at hk;cases hk;cases ho'
  have sz6:W.heap.size <=w6.heap.size:=Nat.le_trans sz5 g6.size;exact⟨⟨sz6,λk o _ hk ho'=>oth6 k o hk ho'⟩,⟨sz6,λk o hk ho'=>oth6 k o hk (Obj.not_cells_of_walk ho')⟩,a2,n2,c2,hB6,by rw[map_append];exact row4.put (λg hg e=>hne2 (by rw[<- e];exact hg)) g6,fr4,hne2,Below.put B4 g6 (by omega)⟩
 case done=>
  rintro D xs W hD hp ⟨a,n,c,hB,ho,hf,hne,hb⟩ hK;subst hBx;have hcB:W.cell? ⟨w.heap.size,0,none⟩=some (.slice a n c):=hB.cell 0;have hsx:=hsort xs W a n c (hp.trans hMR.perm) ho hf hb;gi_wp2;refine⟨trivial,hsx.mono ?_⟩;rintro e W3 ⟨rfl,ho3,hc3⟩;have hB3:au W3 w.heap.size aP [.slice a n c]:=hc3.arr hB (by intro h;exact hne (by simpa using h));have hcB3:W3.cell? ⟨w.heap.size,0,none⟩=some (.slice a n c):=hB3.cell 0;have hK3:W3.heap[D]? =some (.deferred (some [])):=(hc3.block D (Array.getElem?_eq_some_iff.1 hK).1 (by
   intro h;obtain⟨o,h1,h2⟩:=ho.cells (show eP a=some D by simpa using h);rw[hK]at h1;cases h1;cases h2)).trans hK
  gi_wp2;refine⟨by simp,.inl ⟨_,_,rfl,run_takeDeferred hK3,?_⟩⟩;have gD:=grownBy_putObj' W3 D (.deferred none);have nD:IJ W3 (some D):=λr e=>by cases e;exact⟨_,hK3,rfl⟩
  have B3:bW w W3:=hb.trans (hc3.below hb.size (λk hk=>hf k (by simpa using hk)));exact⟨_,results_tmp rfl _ _ _,a,n,c,rfl,ho3.turned gD nD,hf,AO B3 B3.size gD (λr e=>by cases e;omega)⟩
 case stop=>
  rintro D c pre W _ _ h _;exact h.elim
end
open Go.Sort (Holds HoldsK flatK putRow putRowK grow putCells mapBlock)
open Go.Proofs (sortWorldK)
section
variable {α β:Type} [Inhabited α] {T:Ty β} {f:α->β} {enc:α->List Value}
theorem RI {ys:List α}(G:∀y,(enc y).length=k)(E:i<ys.length):((flatK enc k ys.toArray).toList.drop (i*k)).take k=enc ys[i]:=by
 have M:i*k+k <=ys.length*k:=by
  have:=Nat.mul_le_mul_right k (show i+1 <=ys.length from E)
  rwa [Nat.add_mul,Nat.one_mul]at this
 have I:(flatK enc k ys.toArray).toList.length=ys.length*k:=by simp
 apply List.ext_getElem
 ·rw[length_take,length_drop,I,G];omega
 ·intro c h1 e;have O:c<k:=by rw[G]at e;exact e
  rw[List.getElem_take,List.getElem_drop,Array.getElem_toList];have lt:i*k+c<ys.toArray.size*k:=by simp;omega
  have D:=Sort.get_flatK enc k ys.toArray (i*k+c) lt;rw[getElem!_pos _ _ (by simpa using lt)]at D;rw[D];have q:(i*k+c)/k=i:=(Sort.blk_iff k i _ (by omega)).1 ⟨by omega,by omega⟩;have H:(i*k+c)%k=c:=by rw[Nat.mod_eq_sub_div_mul,q];omega
  rw[q,H,getElem!_pos ys.toArray i (by simpa using E)];rw[List.getElem_toArray,getElem!_pos (enc ys[i]) (c) e]
theorem OwK.holds (I:∀w A vs y,T.rep w A vs (f y)↔vs=enc y){g n c:Nat}{ys:List α}(h:Ow T t w A (some ⟨g,0,none⟩) n c (ys.map f)):
 HoldsK enc T.k w g 0 ys.toArray/\g<w.heap.size:=by
 have bk:∀y,(enc y).length=T.k:=λy=>T.len ((I w A (enc y) y).2 rfl);obtain⟨q,Y,bc,D⟩:=h;rcases D with⟨U,_⟩|⟨bb,cur,a9,O,E,aj,a8,D⟩
 ·cases U
 ·cases O;rw[length_map]at q;refine⟨λj al=>?_,(Array.getElem?_eq_some_iff.1 E).1⟩;have G:j<ys.length*T.k:=by simpa using al
  have ar:=T.pos;have bj:ys.length*T.k <=cur.size:=by rw[a8,<- q];exact Nat.mul_le_mul_right _ Y
  have e:j<cur.size:=by omega
  have M:j/T.k<ys.length:=Nat.div_lt_of_lt_mul (by rw[Nat.mul_comm];exact G);refine⟨?_,?_⟩
  ·rw[tY E,Nat.zero_add];have Z:=(I _ _ _ _).1 (by have:=D.rep (j/T.k) (by simpa using M);rwa [getElem_map]at this);have ac:=Sort.get_flatK enc T.k ys.toArray j (by simpa using G);show cur[j]? =some ((flatK enc T.k ys.toArray)[j]!);rw[ac];have a0:j%T.k<T.k:=Nat.mod_lt _ ar;have an:j/T.k*T.k+j%T.k=j:=by have:=Nat.div_add_mod j T.k;rw[Nat.mul_comm]at this;exact this
   have H:(((cur.toList.take (n*T.k)).drop (j/T.k*T.k)).take T.k)[j%T.k]? =some (cur.toList[j]'(by simpa using e)):=by
    rw[List.getElem?_take,if_pos a0,List.getElem?_drop,List.getElem?_take,an,if_pos (by rw[q];exact G)];rw[List.getElem?_eq_getElem (by simpa using e)]
   rw[Z]at H;have V:ys.toArray[j/T.k]! =ys[j/T.k]:=by rw[getElem!_pos _ _ (by simpa using M)];simp
   rw[V];have ad:=(List.getElem?_eq_some_iff.1 H)
   obtain⟨ag,X⟩:=ad;rw[getElem!_pos (enc ys[j/T.k]) (j%T.k) ag,X,Array.getElem?_eq_getElem e];simp
  ·rw[Nat.zero_add];exact Ie E (aj j e)
theorem OwK.put (U:∀w A vs y,T.rep w A vs (f y)↔vs=enc y){g n c:Nat}{xs ys:List α}(h:Ow T t w A (some ⟨g,0,none⟩) n c (xs.map f))(X:ys.length=xs.length)(q:Nat)(H:Array Obj):
 Ow T t (sortWorldK enc T.k w g 0 q ys.toArray H) A (some ⟨g,0,none⟩) n c (ys.map f)/\w.grownBy (sortWorldK enc T.k w g 0 q ys.toArray H) (some g):=by
 have ar:∀y,(enc y).length=T.k:=λy=>T.len ((U w A (enc y) y).2 rfl);obtain⟨E,M,ag,O⟩:=h;rw[length_map]at E;rcases O with⟨ad,_⟩|⟨bb,cur,I,ac,V,aj,Z,O⟩
 ·cases ad
 ·cases ac;have a8:=(Array.getElem?_eq_some_iff.1 V).1;have G:(putRowK enc T.k (Go.Sort.ahead w q) g 0 ys.toArray).heap.size=w.heap.size:=by simp[putRowK,Go.Sort.ahead]
  have al:(sortWorldK enc T.k w g 0 q ys.toArray H).heap[g]? =some (.cells (putCells id 0 (flatK enc T.k ys.toArray) cur) t I):=by
   unfold sortWorldK;rw[Sort.heap_grow_old _ _ (by rw[G];exact a8)];show((Go.Sort.ahead w q).heap.modify g _)[g]? =_;rw[Array.getElem?_modify,if_pos rfl];show(w.heap[g]?).map _=_;rw[V];rfl
  have Y:n*T.k=ys.length*T.k:=by rw[X,E]
  have bc:ys.length*T.k <=cur.size:=by rw[Z,<- Y];exact Nat.mul_le_mul_right _ M
  refine⟨⟨by rw[length_map,X];exact E,M,ag,.inr ⟨g,_,I,rfl,al,?_,?_,?_⟩⟩,?_⟩
  ·intro i e;exact aj i (by simpa[putCells]using e)
  ·simpa[putCells]using Z
  ·have D:(putCells id 0 (flatK enc T.k ys.toArray) cur).toList.take (n*T.k)=(flatK enc T.k ys.toArray).toList:=by
    rw[Y];apply List.ext_getElem?;intro i;rw[List.getElem?_take];by_cases e:i<ys.length*T.k
    ·rw[if_pos e];have:i<cur.size:=by omega
     simp[putCells,e,this]
    ·rw[if_neg e];symm;rw[List.getElem?_eq_none];simp;omega
   rw[D];refine⟨by simp,λi e=>?_⟩;have an:i<ys.length:=by simpa using e
   rw[RI ar an,getElem_map];exact(U _ _ _ _).2 rfl
  ·unfold sortWorldK;refine⟨rfl,rfl,rfl,by simp[grow,G],λk a0 a9=>?_⟩;rw[Sort.heap_grow_old _ _ (by rw[G];exact a0)];show((Go.Sort.ahead w q).heap.modify g _)[k]? =_;rw[Array.getElem?_modify,if_neg (λD=>a9 (by rw[D]))];rfl
end
theorem Ti {α:Type}[Inhabited α]{d d':Array α}(h:Go.Sort.PermIn 0 d.size d d'):d'.size=d.size/\d'.toList.Perm d.toList:=by
 obtain⟨h1,_,e⟩:=h;refine⟨h1,?_⟩;have q:d.extract 0 d.size=d:=by simp
 have D:d'.extract 0 d.size=d':=by rw[<- h1];simp
 rw[q,D]at e;exact e
theorem NW {α:Type}[Inhabited α]{lt:α->α->Bool}{d:Array α}(E:d.size=n)(h:Go.Sort.SortedIn lt 0 n d):d.toList.Pairwise λa b=>lt b a=false:=by
 rw[List.pairwise_iff_getElem];intro i j q e D;have:=h i j (Nat.zero_le _) D (by rw[<- E];simpa using e);rw[getElem!_pos d j (by simpa using e),getElem!_pos d i (by simpa using q)]at this;simpa using this
theorem KK {α:Type}{R:α->α->Bool} :∀{l r:List α},l.Perm r->(l.Pairwise λa b=>R b a=false)->(r.Pairwise λa b=>R a b=true)->l=r
 |[],r,q,_,_=>by rw[q.nil_eq]
 |a::l,[],q,_,_=>by have:=q.length_eq;simp at this
 |a::l,b::r,q,D,E=>by
  rw[List.pairwise_cons]at D E;have H:a=b:=by
   rcases List.mem_cons.1 (q.mem_iff.1 (mem_cons_self ..))with e|e
   ·exact e
   ·rcases List.mem_cons.1 (q.mem_iff.2 (mem_cons_self ..))with e2|e2
    ·exact e2.symm
    ·have h1:=E.1 a e;have G:=D.1 b e2;rw[h1]at G;cases G
  subst H;rw[KK ((List.perm_cons a).1 q) D.2 E.2]
end Go.Pk
namespace Go.Proofs
open Go.Pk (Cf vS vI bW)
open Go.Shelf
def Tryz.sortF_ren:Go.Shelf.Ren:=⟨fun|6=>71|15=>140|14=>139|28=>211|29=>212|20=>203|21=>204|22=>205|23=>206|24=>207|25=>208|26=>209|27=>210|46=>271|47=>272|48=>273|49=>274|50=>275|57=>314|n=>n,fun|22=>140|24=>131|25=>146|3=>3|39=>139|0=>0|53=>261|55=>263|4=>4|46=>255|45=>254|50=>157|5=>5|9=>9|66=>302|70=>306|76=>332|77=>284|n=>n,fun|n=>n⟩
theorem Tryz.sortF:Go.Proofs.SlLaysF0.n6 prog Tryz.sortF_ren:= {
 mixed:=by kernel_rfl
 f6:=⟨Tryz.f71.name,by decide,func71.trans (congrArg some (by kernel_rfl))⟩
 f14:=⟨Tryz.f139.name,by decide,func139.trans (congrArg some (by kernel_rfl))⟩
 f15:=func140.trans (congrArg some (by kernel_rfl))
 f20:=⟨Tryz.f203.name,by decide,func203.trans (congrArg some (by kernel_rfl))⟩
 f21:=⟨Tryz.f204.name,by decide,func204.trans (congrArg some (by kernel_rfl))⟩
 f22:=⟨Tryz.f205.name,by decide,func205.trans (congrArg some (by kernel_rfl))⟩
 f23:=⟨Tryz.f206.name,by decide,func206.trans (congrArg some (by kernel_rfl))⟩
 f24:=⟨Tryz.f207.name,by decide,func207.trans (congrArg some (by kernel_rfl))⟩
 f25:=⟨Tryz.f208.name,by decide,func208.trans (congrArg some (by kernel_rfl))⟩
 f26:=⟨Tryz.f209.name,by decide,func209.trans (congrArg some (by kernel_rfl))⟩
 f27:=⟨Tryz.f210.name,by decide,func210.trans (congrArg some (by kernel_rfl))⟩
 f28:=func211.trans (congrArg some (by kernel_rfl))
 f29:=func212.trans (congrArg some (by kernel_rfl))
 f46:=⟨Tryz.f271.name,by decide,func271.trans (congrArg some (by kernel_rfl))⟩
 f47:=func272.trans (congrArg some (by kernel_rfl))
 f48:=func273.trans (congrArg some (by kernel_rfl))
 f49:=⟨Tryz.f274.name,by decide,func274.trans (congrArg some (by kernel_rfl))⟩
 f50:=⟨Tryz.f275.name,by decide,func275.trans (congrArg some (by kernel_rfl))⟩
 f57:=⟨Tryz.f314.name,by decide,func314.trans (congrArg some (by kernel_rfl))⟩
 t0:=Tryz.underlying0
 a0:=Tryz.isAgg0
 z0:=Tryz.sizeOf0
 v0:=Tryz.zeroValue0
 t3:=Tryz.underlying3
 a3:=Tryz.isAgg3
 z3:=Tryz.sizeOf3
 v3:=Tryz.zeroValue3
 t4:=Tryz.underlying4
 a4:=Tryz.isAgg4
 z4:=Tryz.sizeOf4
 v4:=Tryz.zeroValue4
 t5:=Tryz.underlying5
 a5:=Tryz.isAgg5
 z5:=Tryz.sizeOf5
 v5:=Tryz.zeroValue5
 t9:=Tryz.underlying9
 a9:=Tryz.isAgg9
 z9:=Tryz.sizeOf9
 v9:=Tryz.zeroValue9
 t22:=Tryz.underlying140
 a22:=Tryz.isAgg140
 z22:=Tryz.sizeOf140
 v22:=Tryz.zeroValue140
 t25:=Tryz.underlying146
 a25:=Tryz.isAgg146
 z25:=Tryz.sizeOf146
 v25:=Tryz.zeroValue146
 t39:=Tryz.underlying139
 a39:=Tryz.isAgg139
 z39:=Tryz.sizeOf139
 v39:=Tryz.zeroValue139
 t45:=Tryz.underlying254
 a45:=Tryz.isAgg254
 z45:=Tryz.sizeOf254
 v45:=Tryz.zeroValue254
 t46:=Tryz.underlying255
 a46:=Tryz.isAgg255
 z46:=Tryz.sizeOf255
 v46:=Tryz.zeroValue255
 t50:=Tryz.underlying157
 a50:=Tryz.isAgg157
 z50:=Tryz.sizeOf157
 v50:=Tryz.zeroValue157
 t53:=Tryz.underlying261
 a53:=Tryz.isAgg261
 z53:=Tryz.sizeOf261
 v53:=Tryz.zeroValue261
 t55:=Tryz.underlying263
 a55:=Tryz.isAgg263
 z55:=Tryz.sizeOf263
 v55:=Tryz.zeroValue263
 t66:=Tryz.underlying302
 a66:=Tryz.isAgg302
 z66:=Tryz.sizeOf302
 v66:=Tryz.zeroValue302
 t70:=Tryz.underlying306
 a70:=Tryz.isAgg306
 z70:=Tryz.sizeOf306
 v70:=Tryz.zeroValue306
 t76:=Tryz.underlying332
 a76:=Tryz.isAgg332
 z76:=Tryz.sizeOf332
 v76:=Tryz.zeroValue332
 t77:=Tryz.underlying284
 a77:=Tryz.isAgg284
 z77:=Tryz.sizeOf284
 v77:=Tryz.zeroValue284 }
open Go.RowKit Go.Lib Go.Sort in
theorem Tryz.slices_SortFunc_Cookie {α:Type}[Inhabited α](k:Nat)(G:∀w,(isAgg 131).run prog w=.ok true w)(Z:∀w,(Go.sizeOf 131).run prog w=.ok k w)(enc:α->List Value)(X:∀x,(enc x).length=k)(h1:∀x,∀v∈enc x,v.oneCell'=true)(q:α->α->Int)(O:SWO (ltOf q))(g:Nat)(D:Array Value)(e off cap:Nat)(d:Array α)(w:World)
 (I:∀args w,(callFunc g args).run prog w=.ok (.enter g args) w) (V:CmpLays prog g D enc k q e off d.size w) (M:HoldsK enc k w e off d) (U:e<w.heap.size) (Y:d.size<4611686018427387904):
 Cf 71 #[.slice (some ⟨e,off,none⟩) d.size cap,.func (.func g) #[] D] w λH w'=>
  H=.returned (.tuple #[])/\∃E n os,PermIn 0 d.size d E/\SortedIn (ltOf q) 0 d.size E/\w'=sortWorldK enc k w e off n E os:=AnyQ.slices_SortFunc Tryz.sortF k G Z enc X h1 q O g D e off cap d w I V M U Y
theorem Tryz.slices_SortFunc_Cookie_none (p:Option Addr)(cap:Nat)(e:Value)(w:World):
 Cf 71 #[.slice p 0 cap,e] w λq w'=>q=.returned (.tuple #[])/\w'=w:=AnyF.slices_SortFunc_none Tryz.sortF p cap e w
end Go.Proofs
namespace Go.Pk
open Go.RowKit (Below)
open Go.Proofs
open Go.Proofs (sortWorldK)
open Go.Sort (Holds HoldsK flatK putRow putRowK grow putCells mapBlock)
structure OpK where
 o:OpR
 ok:o.ok
noncomputable def A9 (rs:List Rul):JS->List OpK->JS
 |s,[]=>s
 |s,o::l=>A9 rs (doV rs s o.o o.ok) l
theorem EG (rs:List Rul)(o:OpK):∀(l:List OpK) (s:JS),A9 rs s (l++[o])=doV rs (A9 rs s l) o.o o.ok
 |[],s=>rfl
 |x::l,s=>EG rs o l _
theorem JI.run {rs:List Rul} :∀(l:List OpK) {s:JS} {m:Nat},JI s m->JI (A9 rs s l) (m+l.length)
 |[],s,m,h=>h
 |o::l,s,m,h=>by
  have:=JI.run (rs:=rs) l (h.do (rs:=rs) o.o o.ok);rw[length_cons,show m+(l.length+1)=m+1+l.length by omega];exact this
theorem fH {α:Type}{l:List α}(h:k<l.length):l.take (k+1)=l.take k++[l[k]]:=take_succ_eq_append_getElem h
def QJ:List lU->Nat
 |[]=>0
 |x::l=>x.length+QJ l
theorem TD {a b:List lU}(h:a.Perm b):QJ a=QJ b:=by
 induction h with
 |nil=>rfl
 |cons x _ q=>rw[QJ,QJ,q]
 |swap x y l=>simp only[QJ];omega
 |trans _ _ h1 e=>rw[h1,e]
theorem Pd:∀l:List lU,(Dh l).length=QJ l+2*(l.length-1)
 |[]=>rfl
 |[x]=>by simp[Dh,QJ]
 |x::y::r=>by
  have e:=Pd (y::r);unfold Dh;rw[length_append,length_append,e];simp[QJ];omega
theorem WU (s:JS)(r:Req):(OK s r).2.length=QJ ((s.L.filter λk=>eQ k.c r s.now).map λk=>me k.c)+2*((s.L.filter λk=>eQ k.c r s.now).length-1):=by
 show(Dh ((z8 s.L r s.now).map λk=>me k.c)).length=_;have e:=oV s.L r s.now;rw[Pd,TD (e.map λk=>me k.c),length_map,e.length_eq]
open Go.Sort (grow SWO)
open Go.Proofs (ltOf)
theorem UV {α:Type}{Q:α->Prop}{xs:List α}(h:∀x∈xs,Q x):∃ys:List {x // Q x},ys.map (·.1)=xs:=⟨xs.attachWith Q h,by simp⟩
theorem UG (w:World)(e q:Obj):(w.alloc e).alloc q=grow (w.drewN 0) #[e,q]:=by
 unfold grow World.alloc;simp only[World.drewN,Nat.add_zero];congr 1
open Go.Proofs (ltOf CmpLays)
theorem Mq {Q:Kpt->Prop}[Inhabited {k:Kpt // Q k}](D: {k:Kpt // Q k} -> {k:Kpt // Q k} ->Int)(ac:SWO (ltOf D))(g:Nat)(Y:∀args w,(callFunc g args).run prog w=.ok (.enter g args) w)
 (ad:∀(W:World) (x y: {k:Kpt // Q k}),Cf g #[x.1.c.v,y.1.c.v] W λq w'=>q=.returned (vI (D x y))/\∃G bk,w'=grow (W.drewN G) bk)
 {W:World} {a:Option Addr} {n c:Nat} {xs:List Kpt} (bc:∀k∈xs,Q k) (e:Ow qD ah W NoB a n c (xs.map Kpt.c)) (aj:xs.length <=1000000):
 Cf dU #[.slice a n c,.func (.func g) #[] #[]] W λq w'=>q=.returned (.tuple #[])/\
  ∃ys:List {k:Kpt // Q k},(ys.map (·.1)).Perm xs/\(ys.Pairwise λa b=>ltOf D b a=false)/\Ow qD ah w' NoB a n c ((ys.map (·.1)).map Kpt.c)/\Chg (eP a).toList W w':=by
 obtain⟨zs,rfl⟩:=UV bc;have an:=e;rcases an.2.2.2 with⟨rfl,rfl,I⟩|⟨b,cur,bs,rfl,b0,_⟩
 ·have E:n=0:=by have:=e.len;rw[I]at this;exact this
  subst E;have bj:zs=[]:=by cases zs with|nil=>rfl|cons _ _=>cases I
  subst bj;refine(Tryz.slices_SortFunc_Cookie_none none 0 _ W).mono ?_;rintro q w' ⟨rfl,rfl⟩;exact⟨rfl,[],List.Perm.refl _,List.Pairwise.nil,e,Chg.refl _ _⟩
 ·have E:n=zs.toArray.size:=by have:=e.len;simpa using this
  subst E;have M:∀w A vs (y: {k:Kpt // Q k}),qD.rep w A vs y.1.c↔vs=y.1.c.cells:=λw A vs y=>⟨λh=>h.1,λh=>⟨h,y.1.ok⟩⟩
  have O:Ow qD ah W NoB (some ⟨b,0,none⟩) zs.toArray.size c (zs.map λy=>y.1.c):=by rw[List.map_map]at e;exact e
  obtain⟨Z,al⟩:=OwK.holds (f:=λy: {k:Kpt // Q k} =>y.1.c) (enc:=λy=>y.1.c.cells) M O;refine(Tryz.slices_SortFunc_Cookie (α:= {k:Kpt // Q k}) 29 (λw=>by kernel_rfl) (λw=>by kernel_rfl) (λy=>y.1.c.cells) (λy=>Cky.len y.1.ok) (λy v bb=>Cky.one y.1.c v bb) D ac g #[] b 0 c zs.toArray W Y (λm X bq V x y=>ad _ x y) Z al (by simp at aj ⊢;omega)).mono ?_;rintro q w' ⟨rfl,H,G,X,a0,V,rfl⟩;obtain⟨a9,U⟩:=Ti a0;have a8:=NW a9 V;obtain⟨ar,ag⟩:=OwK.put (f:=λy: {k:Kpt // Q k} =>y.1.c) (enc:=λy=>y.1.c.cells) M O (ys:=H.toList) (by rw[U.length_eq]) G X;refine⟨rfl,H.toList,U.map _,a8,?_,?_⟩
  ·rw[List.map_map];exact ar
  ·exact Chg.grown ag (by simp[eP])
theorem PH (W:World){x y:Kpt}(V:0 <=x.c.seq/\x.c.seq <=4611686018427387904)(X:0 <=y.c.seq/\y.c.seq <=4611686018427387904):
 Cf ix #[x.c.v,y.c.v] W λD w'=>D=.returned (vI (x.c.seq-y.c.seq))/\∃q os',w'=grow (W.drewN q) os':=by
 refine(rc x.c.v y.c.v (K:=λv w'=>v=vI (x.c.seq-y.c.seq)/\∃q os',w'=grow (W.drewN q) os') ?_).mono ?_
 ·intro G H M E U I O e;have a2:au I G ah x.c.cells:=(au.new M E:au H G ah x.c.cells).below (e▸ao H _);have a3:au I U ah y.c.cells:=au.new O e;refine⟨rfl,_,a2.load1 bC rfl (i:=28) (bi x.ok 8),rfl,_,a3.load1 bC rfl (i:=28) (bi y.ok 8),?_,0,#[.cells (Value.cells x.c.v) ah,.cells (Value.cells y.c.v) ah],?_⟩
  ·rw[wrJ]
  ·subst e E;exact UG _ _ _
 ·rintro D w' ⟨v,rfl,rfl,h⟩;exact⟨rfl,h⟩
def T7 (k:Kpt):Prop:=0 <=k.c.seq/\k.c.seq <=4611686018427387904
instance:Inhabited {k:Kpt // T7 k} :=⟨⟨ky,by decide,by decide⟩⟩
theorem Wn:SWO (ltOf λx y: {k:Kpt // T7 k} =>x.1.c.seq-y.1.c.seq):=by
 constructor<;>intros<;>simp only[ltOf,dTx,dFx]at*<;>omega
theorem Ba {p Z ac:Nat}{last:Int}(h:Shf aZ p Z ac L last w)(E:L.length <=1000000)(aj:last <=4611686018427387904):
 Cf j6 #[.pointer (some ⟨p,0,none⟩)] w (Ret λv w'=>∃(a:Option Addr) (n c:Nat),v=.slice a n c/\Ow qD ah w' NoB a n c (L.map Kpt.c)/\bU w.heap.size a/\bW w w'):=by
 have D:=h.inv;have X:∀k∈L,T7 k:=λk e=>by have:=D.lo k e;exact⟨by omega,by omega⟩
 have hA:=Ml h E (λxs W a n c q U ag ad=>(callsIn_wide (n:=5)).2 ?_)
 ·refine((callsIn_wide (n:=6)).1 hA).mono ?_;rintro H w' ⟨a,n,c,rfl,M⟩;exact⟨_,rfl,a,n,c,rfl,M⟩
 ·refine(Mq (Q:=T7) _ Wn ix (enters_of func136 (by kernel_rfl) rfl) (λW x y=>PH W x.2 y.2) (λk e=>X k (q.mem_iff.1 e)) U (by rw[q.length_eq];exact E)).mono ?_;rintro H w' ⟨rfl,ys,V,Y,G,O⟩;have I:ys.map (·.1)=L:=by
   refine KK (R:=λa b=>decide (a.c.seq<b.c.seq)) (V.trans q) ?_ ?_
   ·rw[List.pairwise_map];refine Y.imp fun{a b} h=>?_;simp only[ltOf,dFx]at h ⊢;omega
   ·exact D.up.imp fun{a b} h=>by simpa using h
  rw[I]at G;exact⟨rfl,G,O⟩
end Go.Pk
