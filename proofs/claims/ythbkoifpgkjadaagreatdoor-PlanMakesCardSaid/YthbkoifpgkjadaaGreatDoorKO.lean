/- What the laws lean on: Ex, Ey, Ez, Fa, Fb, PlnE, PlnM, OpenH, OpenF; what is used. Its conditions: none. -/
import Derived.Test.YthbkoifpgkjadaaGreatDoorKN
import Derived.ChangeArms
import Derived.ChangeSame
import Derived.Deep.Slices
set_option linter.unusedVariables false
set_option linter.unusedSimpArgs false
set_option linter.unusedSectionVars false
set_option maxRecDepth 100000
open List (append_nil)
variable {n m i k:Nat}{w:Go.World}{z:Go.Pe.Dr}{D:Go.Pe.Mp}{E:Nat->Prop}{P:Go.Program}{H:Nat->Option Go.Pe.StE}{I:List Nat}{J:Go.Pe.Tr Go.Value}{K:Array Go.Obj}{Q:Type}
open Go.IntKind (i64)
open Go.Proofs.Tryz
namespace Go.Pk
open Go.RowKit (Below)
open Go.Proofs
end Go.Pk
namespace Go.Pe
open RowKit
noncomputable section
theorem PF {o:Oper}(h:Ht P o=false):nQ o.op=false:=by
 cases y:nQ o.op with
 |false=>rfl
 |true=>
  exfalso;unfold nQ at y;split at y
  ·rename_i c D;unfold Ht YF at h;rw[D]at h;cases h
  ·cases y
theorem Q0.ext {D E:Nat->Option StE}{al:List AlX}{y:StE}{q:Nat}(G:∀p s,D p=some s->E p=some s)(h:Q0 D al y q):Q0 E al y q:=by
 obtain⟨s,h1,F⟩:=h;exact⟨s,G _ _ h1,F⟩
theorem Q0.more {al:List AlX}{F:StE}{q:Nat}{x:AlX}(O:x.seg≠q)(h:Q0 H al F q):Q0 H (al++[x]) F q:=by
 obtain⟨s,h1,G,I,J⟩:=h;refine⟨s,h1,G,λE y D=>?_,λj M=>J j λE y=>M E (List.mem_append_left _ y)⟩;rcases List.mem_append.1 y with y|y
 ·exact I E y D
 ·rw[List.mem_singleton.1 y]at D;exact absurd D O
theorem Fm.float {X:Cx}{O R:Nat->Option Value}{al al':List AlX}{q:Nat}{J pend':List Nat}(hV:∀j u,O j=some u->R j=some u)(hp:∀f∈J,f∈pend')
 (E:al'=al\/∃x,x.seg=q/\x.f≠i/\al'=al++[x]) (h:Fm X O H al q J i):Fm X R H al' q pend' i:=by
 obtain⟨o,be,v,g,bp,h1,ad,af,ag,aj,an,av⟩:=h;refine⟨o,be,v,g,bp,h1,ad,af,hV _ _ ag,aj.mono hV,λj u bb=>hV _ _ (an j u bb),?_⟩;have later:∀{F:Nat},As X q F i J->As X q F i pend':=λ⟨a,b,c⟩=>⟨a,λe=>hp _ (b e),c⟩
 have sub:∀x∈al,x∈al':=λx y=>by
  rcases E with rfl|⟨M,_,_,rfl⟩
  ·exact y
  ·exact List.mem_append_left _ y
 have G:(∀x∈al,x.f≠i)->∀x∈al',x.f≠i:=λV x y=>by
  rcases E with rfl|⟨M,_,I,rfl⟩
  ·exact V x y
  ·rcases List.mem_append.1 y with y|y
   ·exact V x y
   ·rw[List.mem_singleton.1 y];exact I
 cases av with
 |skip a b c D=>exact .skip a b c (G D)
 |pure a b c D=>exact .pure a b c (G D)
 |load a b c t x ac bk bl F d e D=>exact .load a b c t x ac bk bl F d (later e) (G D)
 |alloc a b c x y a8 mk N a0 d e f g=>exact .alloc a b c x (sub x y) a8 mk N a0 d e f (later g)
 |chain a j Z aa b c d e f a9 U g D=>
  refine .chain a j Z aa b c d ?_ f a9 ?_ g (G D)
  ·rcases E with rfl|⟨M,I,_,rfl⟩
   ·exact e
   ·exact e.more (by omega)
  ·rcases E with rfl|⟨M,I,_,rfl⟩
   ·exact U
   ·intro x y Y;rcases List.mem_append.1 y with y|y
    ·exact U x y Y
    ·rw[List.mem_singleton.1 y]at Y;omega
theorem Fm.next {X:Cx}{J M:Nat->Option Value}{H E:Nat->Option StE}{al:List AlX}{q:Nat}{i c G:Nat}(hV:∀j u,J j=some u->M j=some u)(F:∀p s,H p=some s->E p=some s)(aj:X.C[q]? =some c)(a0:X.ms[c]? =some G)
 (ag:∀f∈I,G.testBit f=true) (h:Fm X J H al q I i):Fm X M E al (q+1) [] i:=by
 obtain⟨o,bl,v,g,bt,h1,U,V,Y,Z,aa,ac⟩:=h;refine⟨o,bl,v,g,bt,h1,U,V,hV _ _ Y,Z.mono hV,λj u a9=>hV _ _ (aa j u a9),?_⟩;have later:∀{D:Nat},As X q D i I->As X (q+1) D i []:=fun{D} ⟨a,b,d⟩=>⟨by omega,λe=>by omega,λe=>by
  by_cases an:D=q
  ·subst an;exact⟨c,G,aj,a0,ag _ (b rfl)⟩
  ·exact d (by omega)⟩
 cases ac with
 |skip a b c y=>exact .skip a b c y
 |pure a b c y=>exact .pure a b c y
 |load a b c t x R bq bs D d e y=>exact .load a b c t x R bq bs D (λbp be bk=>let⟨s,hs,hh⟩:=d bp be bk;⟨s,F _ _ hs,hh⟩) (later e) y
 |alloc a b c x bb av mk N ad d e f g=>exact .alloc a b c x bb av mk N ad d e f (later g)
 |chain a j O E b c d e f a8 af g y=>exact .chain a j O E b (by omega) (F _ _ d) (e.ext F) f a8 af g y
theorem Vj {v:Value}{K:Dr->Option Rs}{r:Rs}(h:Vi z i v I K=some r):∃D,K ⟨D,z.st,z.hs,z.q,I⟩=some r/\∀j,D.get j=if j=i then some v else z.vals.get j:=by
 cases z with|mk vals st hs q p0=>
 unfold Vi at h;simp only at h;cases y:Nat.ble (i+2) 16384 with
 |false=>rw[y]at h;cases h
 |true=>
  rw[y,cond_true,nz]at h;exact⟨_,h,λj=>Tr.get_put (some v) 14 vals i (Nat.le_of_ble_eq_true y) j⟩
theorem UF {v:Value}{st':StE}{K:Dr->Option Rs}{r:Rs}(h:V9 z i v st' K=some r):∃D,K ⟨D,st',st'::z.hs,z.q+1,[]⟩=some r/\z.st.nx <=st'.nx/\∀j,D.get j=if j=i then some v else z.vals.get j:=by
 cases z with|mk vals st hs q p0=>
 unfold V9 at h;simp only at h;cases y:(Nat.ble (i+2) 16384&&Nat.ble st.nx st'.nx)with
 |false=>rw[y]at h;cases h
 |true=>
  rw[y,cond_true,nz,cw]at h;simp only[Bool.and_eq_true,Nat.ble_eq]at y;exact⟨_,h,y.2,λj=>Tr.get_put (some v) 14 vals i y.1 j⟩
theorem Od {ops:Array Oper}{rec:Cfq->Option Rs}(ad:oG P rec){env:dX}{o:Oper}{g:Bool}{K:Dr->Option Rs}{r:Rs}(E:ops[i]? =some o)(I:nQ o.op=false)(h:Oc P rec env o z i g K=some r):
 ∃v st',V9 z i v st' K=some r/\ChF P ops env i o g v z.st st':=by
 cases g with
 |false=>
  refine⟨undef,z.st,h,λm n a w b rest k cs H D F=>⟨m,undef,w,m.le_refl,VR.refl rfl,D,Nxt.refl _ _,.one ?_⟩⟩;have:=stepR_op_skip (P:=P) (b:=b) (a:=a) (k:=k) (cs:=cs) (w:=w) (ops:=ops) (i:=i) (rest:=rest) (by rw[E];exact F);rw[E]at this;exact this
 |true=>
  unfold Oc at h;simp only at h;obtain⟨af,s',h1,R⟩:=IX P z.st env o _ r h;cases af with
  |val v=>
   refine⟨v,s',h1,λm n a w b rest k cs H D F=>?_⟩;obtain⟨M,v',w',y,O,ag,aj,an⟩:=R m n a w H D;refine⟨M,v',w',O,ag,aj,an,.one ?_⟩;rcases y with y|⟨y,rfl⟩
   ·exact IZ E F (.inr I) y
   ·exact Tx E F (.inr I) y
  |enter f args=>
   simp only at h1;obtain⟨B,G,bb,ac⟩:=xI h1;cases J:rec ⟨B,[],s'⟩ with
   |none=>rw[J]at G;cases G
   |some vs=>
    obtain⟨v,a0⟩:=vs;rw[J]at G;refine⟨v,a0,G,λm n a w b rest k cs H D F=>?_⟩;obtain⟨rfl,args',O,y⟩:=R m n a w H D;obtain⟨M,v',w',a9,V,Y,e3,Z,e5,a8,aa⟩:=ad _ _ J m _ [] w (ac m args' D.glob O) .nil D (b.atR a (.inRegion ops (i::rest)::k)::cs);refine⟨M,v',w',V,Y,e3,Z,?_⟩;have av:=Tw (P:=P) (b:=b) (k:=k) (cs:=cs) (rest:=rest) E F (.inr I) y;have U:=step_leave_returned (P:=P) (c:=b.atR a (.inRegion ops (i::rest)::k)) (cs:=cs) aa;rw[IY E]at U;exact(Steps.one av).trans (e5.trans (.one U))
  |_=>cases h1
theorem qG.flt {X:Cx}{E:Dr}{al al':List AlX}(F:qG X E al){v:Value}{st':StE}(av:E.vals.get i=none)(ad:∀j,J.get j=if j=i then some v else E.vals.get j)
 (hp:∀f∈E.pend,f∈I) (R:(al'=al/\st'=E.st)\/∃x,x.seg=E.q/\(x.f=i/\i∈I)/\al'=al++[x]/\x.k=2*E.st.nx/\st'.nx=E.st.nx+1/\st'.h.get x.k=some x.ao/\∀j,j≠x.k->st'.h.get j=E.st.h.get j)
 (bb:Fm X (λj=>J.get j) (Hof E.hs) al' E.q I i):qG X ⟨J,st',E.hs,E.q,I⟩ al'/\∀j u,E.vals.get j=some u->J.get j=some u:=by
 have hV:∀j u,E.vals.get j=some u->J.get j=some u:=λj u H=>by
  rw[ad,if_neg (λe=>by rw[e,av]at H;cases H)];exact H
 have a9:∀{j},j≠i->al'=al\/∃x,x.seg=E.q/\x.f≠j/\al'=al++[x]:=fun{j} Z=>R.imp (·.1) (λ⟨x,h1,M,G,_⟩=>⟨x,h1,λe=>Z (e.symm.trans M.1),G⟩);refine⟨⟨F.len,?_,λj u H=>?_,?_,?_,?_,F.mono,?_,?_,λj Z=>?_⟩,hV⟩
 ·rcases R with⟨rfl,rfl⟩|⟨x,h1,G,rfl,M,aa,Y,O⟩
  ·exact F.rel
  ·obtain⟨s,af,bp,ag,r4⟩:=F.rel;refine⟨s,af,by simp only;omega,λD y bk=>?_,λj Z=>?_⟩
   ·rcases List.mem_append.1 y with y|y
    ·obtain⟨a8,aj,bq⟩:=ag D y bk;exact⟨by rw[O _ (by omega)];exact a8,aj,by simp only;omega⟩
    ·rw[List.mem_singleton.1 y];exact⟨Y,by omega,by simp only;omega⟩
   ·show st'.h.get j=_;rw[O j (λe=>Z x (List.mem_append_right _ (List.mem_singleton.2 rfl)) h1 e.symm)];exact r4 j λD y=>Z D (List.mem_append_left _ y)
 ·have H:J.get j=some u:=H;rw[ad]at H;by_cases e:j=i
  ·rw[e];exact bb
  ·rw[if_neg e]at H;exact(F.facts j u H).float hV hp (a9 e)
 ·rcases R with⟨rfl,rfl⟩|⟨x,h1,G,rfl,M,aa,Y,O⟩
  ·exact F.dist
  ·have a0:∀D∈al,¬ (D.k=x.k\/D.f=x.f):=λD y e=>by
    rcases e with e|e
    ·obtain⟨s,af,bp,ag,r4⟩:=F.rel;rcases Nat.lt_or_ge D.seg E.q with ac|bs
     ·obtain⟨bu,V,a8,aj,bq,bw⟩:=F.num D y ac;have be:∀d (V:StE),Hof E.hs (D.seg+1)=some V->∀s,Hof E.hs (D.seg+1+d)=some s->V.nx <=s.nx:=by
       intro d;induction d with
       |zero=>intro V G s h;rw[Nat.add_zero,G]at h;cases h;exact Nat.le_refl _
       |succ d bl=>
        intro V G s h;have bt:=(List.getElem?_eq_some_iff.1 (show E.hs.reverse[D.seg+1+(d+1)]? =some s from h)).1;have an:Hof E.hs (D.seg+1+d)=some (E.hs.reverse[D.seg+1+d]'(by omega)):=List.getElem?_eq_getElem (by omega);exact Nat.le_trans (bl V G _ an) (F.mono _ _ _ an h)
      have:=be (E.q-(D.seg+1)) V aj s (by rw[show D.seg+1+(E.q-(D.seg+1))=E.q by omega];exact af);omega
     ·have:=F.seg D y;have:=(ag D y (by omega)).2.2;omega
    ·obtain⟨u,H⟩:=F.done D y;rw[e,G.1,av]at H;cases H
   intro D y z U e;rcases List.mem_append.1 y with y|y <;> rcases List.mem_append.1 U with U|U
   ·exact F.dist D y z U e
   ·rw[List.mem_singleton.1 U]at e;exact absurd e (a0 D y)
   ·rw[List.mem_singleton.1 y]at e;exact absurd (e.imp Eq.symm Eq.symm) (a0 z U)
   ·rw[List.mem_singleton.1 y,List.mem_singleton.1 U]
 ·rcases R with⟨rfl,rfl⟩|⟨x,h1,G,rfl,M,aa,Y,O⟩
  ·exact F.seg
  ·intro D y;rcases List.mem_append.1 y with y|y
   ·exact F.seg D y
   ·rw[List.mem_singleton.1 y];simp only;omega
 ·rcases R with⟨rfl,rfl⟩|⟨x,h1,G,rfl,M,aa,Y,O⟩
  ·intro D y;obtain⟨u,H⟩:=F.done D y;exact⟨u,hV _ _ H⟩
  ·intro D y;rcases List.mem_append.1 y with y|y
   ·obtain⟨u,H⟩:=F.done D y;exact⟨u,hV _ _ H⟩
   ·rw[List.mem_singleton.1 y];exact⟨v,by simp only;rw[ad,if_pos G.1]⟩
 ·rcases R with⟨rfl,rfl⟩|⟨x,h1,G,rfl,M,aa,Y,O⟩
  ·exact F.num
  ·intro D y ac;rcases List.mem_append.1 y with y|y
   ·exact F.num D y ac
   ·rw[List.mem_singleton.1 y]at ac;simp only at ac;omega
 ·rcases R with⟨rfl,rfl⟩|⟨x,h1,G,rfl,M,aa,Y,O⟩
  ·exact λD y e=>hp _ (F.pd D y e)
  ·intro D y e;rcases List.mem_append.1 y with y|y
   ·exact hp _ (F.pd D y e)
   ·rw[List.mem_singleton.1 y,G.1];exact G.2
 ·obtain⟨c,u,h1,G⟩:=F.chn j Z;exact⟨c,u,h1,hV _ _ G⟩
theorem SK {X:Cx}{rec:Cfq->Option Rs}(dl:oG X.P rec){al:List AlX}(y:qG X z al){K:Dr->Option Rs}{r:Rs}(h:L4 X.P rec X.ops.toList X.ms X.C X.tm0 i z K=some r):
 ∃H al',K H=some r/\qG X H al'/\(∀j u,z.vals.get j=some u->H.vals.get j=some u)/\Hof H.hs 0=Hof z.hs 0:=by
 unfold L4 at h;split at h
 case h_2=>cases h
 rename_i o Y bw bt;split at h
 ·cases h
 rename_i aa;cases an:Y.testBit i with
 |true=>rw[an]at h;cases h
 |false=>
 rw[an,cond_false]at h;have df:X.ops[i]? =some o:=by rw[<- Array.getElem?_toList];exact bw
 split at h
 ·cases h
 rename_i g c4;have b3:=UH c4;have av:∀x∈al,x.f≠i:=λx E e=>by
  obtain⟨u,D⟩:=y.done x E;rw[e,aa]at D;cases D
 cases J:Ht X.P o with
 |true=>
  rw[J,cond_true]at h;cases bp:nQ o.op with
  |true=>rw[bp]at h;cases h
  |false=>
  rw[bp,cond_false]at h;split at h
  case h_2=>cases h
  rename_i c bl;cases I:(Nat.beq c i&&(FC Y z.pend&&Vh Y X.C z.q))with
  |false=>rw[I]at h;cases h
  |true=>
   rw[I,cond_true]at h;simp only[Bool.and_eq_true]at I;obtain⟨cc,b2,bk⟩:=I;have:=Nat.eq_of_beq_eq_true cc;subst this;obtain⟨v,st',h1,ch⟩:=Od (ops:=X.ops) dl df bp h;obtain⟨ag,F,bu,G⟩:=UF h1;have hV:∀j u,z.vals.get j=some u->ag.get j=some u:=λj u D=>by
    rw[G,if_neg (λe=>by rw[e,aa]at D;cases D)];exact D
   obtain⟨s,b7,d8,d1,r4⟩:=y.rel;have R:∀p s,Hof z.hs p=some s->Hof (st'::z.hs) p=some s:=λp s h=>KU h;have a0:Hof (st'::z.hs) (z.q+1)=some st':=NE y.len;have b0:∀p s,p <=z.q->Hof (st'::z.hs) p=some s->Hof z.hs p=some s:=λp s hp h=>by
    have V:p<z.hs.reverse.length:=by rw[List.length_reverse,y.len];omega
    have ad:Hof z.hs p=some (z.hs.reverse[p]'V):=List.getElem?_eq_getElem V;have:=R _ _ ad;rw[this]at h;cases h;exact ad
   refine⟨_,al,F,⟨by simp[y.len],⟨st',a0,Nat.le_refl _,λx E hs=>?_,λj _=>rfl⟩,λj u D=>?_,y.dist,λx E=>Nat.le_succ_of_le (y.seg x E),λx E=>?_,λp b1 a9 O M=>?_,λx E b6=>?_,λx E hs=>?_,λj b5=>?_⟩,hV,?_⟩
   ·have:=y.seg x E;simp only at hs;omega
   ·have D:ag.get j=some u:=D;rw[G]at D;by_cases e:j=c
    ·subst e;rw[if_pos rfl]at D;cases D;refine⟨o,Y,v,g,z.vals,bw,bt,an,by simp only;rw[G,if_pos rfl],b3.mono hV,hV,.chain J z.q z.st st' bl (Nat.lt_succ_self _) a0 (y.rel.ext R) (λp hp=>?_) bu (λx E hs=>EO b2 _ (y.pd x E hs)) ch av⟩;unfold Vh at bk;rw[hp]at bk;exact bk
    ·rw[if_neg e]at D;exact(y.facts j u D).next hV R bl bt (EO b2)
   ·obtain⟨u,D⟩:=y.done x E;exact⟨u,hV _ _ D⟩
   ·rcases Nat.lt_or_ge p z.q with hp|hp
    ·exact y.mono p b1 a9 (b0 _ _ (by omega) O) (b0 _ _ (by omega) M)
    ·have V:=(List.getElem?_eq_some_iff.1 (show(st'::z.hs).reverse[p+1]? =some a9 from M)).1;rw[List.length_reverse,List.length_cons,y.len]at V;have dk:p=z.q:=by omega
     subst dk;rw[a0]at M;cases M;have:=b0 _ _ (Nat.le_refl _) O;rw[b7]at this;cases this;omega
   ·have b6:x.seg<z.q+1:=b6;rcases Nat.lt_or_ge x.seg z.q with hp|hp
    ·obtain⟨b1,a9,bb,af,b8⟩:=y.num x E hp;exact⟨b1,a9,R _ _ bb,R _ _ af,b8⟩
    ·have U:x.seg=z.q:=by omega
     obtain⟨bb,af,b8⟩:=d1 x E U;exact⟨s,st',by rw[U];exact R _ _ b7,by rw[U];exact a0,af,by omega⟩
   ·have:=y.seg x E;have hs:x.seg=z.q+1:=hs;omega
   ·have b5:j<z.q+1:=b5;rcases Nat.lt_or_ge j z.q with hp|hp
    ·obtain⟨c',u,bb,af⟩:=y.chn j hp;exact⟨c',u,bb,hV _ _ af⟩
    ·have U:j=z.q:=by omega
     exact⟨c,v,by rw[U];exact bl,by simp only;rw[G,if_pos rfl]⟩
   ·have V:0<z.hs.reverse.length:=by rw[List.length_reverse,y.len];omega
    have ad:Hof z.hs 0=some (z.hs.reverse[0]'V):=List.getElem?_eq_getElem V;show Hof (st'::z.hs) 0=_;rw[R _ _ ad,ad]
 |false=>
  rw[J,cond_false]at h;have aj:∀{v:Value} {ac:List Nat} {al':List AlX} {st':StE},Vi ⟨z.vals,st',z.hs,z.q,z.pend⟩ i v ac K=some r->(∀f∈z.pend,f∈ac)->
   ((al'=al/\st'=z.st)\/∃x,x.seg=z.q/\(x.f=i/\i∈ac)/\al'=al++[x]/\x.k=2*z.st.nx/\st'.nx=z.st.nx+1/\st'.h.get x.k=some x.ao/\∀j,j≠x.k->st'.h.get j=z.st.h.get j)->
   Kind X (λj=>z.vals.get j) (Hof z.hs) al' z.q ac z.vals i o Y v g->∃H al',K H=some r/\qG X H al'/\(∀j u,z.vals.get j=some u->H.vals.get j=some u)/\Hof H.hs 0=Hof z.hs 0:=fun{v ac al' st'} h hp cp bs=>by
   obtain⟨ag,h1,G⟩:=Vj h;have hV:∀j u,z.vals.get j=some u->ag.get j=some u:=λj u D=>by
    simp only at G;rw[G,if_neg (λe=>by rw[e,aa]at D;cases D)];exact D
   have c3:Fm X (λj=>ag.get j) (Hof z.hs) al' z.q ac i:=by
    refine⟨o,Y,v,g,z.vals,bw,bt,an,by simp only at G ⊢;rw[G,if_pos rfl],b3.mono hV,hV,?_⟩;cases bs with
    |skip a b c Z=>exact .skip a b c Z
    |pure a b c Z=>exact .pure a b c Z
    |load a b c t x be d3 d4 c9 d e Z=>exact .load a b c t x be d3 d4 c9 d e Z
    |alloc a b c x E c2 mk N cl d e f g=>exact .alloc a b c x E c2 mk N cl d e f g
    |chain a j b9 cb b c d e f aa cv g Z=>exact .chain a j b9 cb b c d e f aa cv g Z
   obtain⟨du,dv⟩:=y.flt aa G hp cp c3;exact⟨_,al',h1,du,dv,rfl⟩
  have hid:({ vals:=z.vals,st:=z.st,hs:=z.hs,q:=z.q,pend:=z.pend } :Dr)=z:=rfl;split at h
  ·exact aj (al':=al) (st':=z.st) h (λ_ h=>h) (.inl ⟨rfl,rfl⟩) (.skip J rfl rfl av)
  ·split at h
   ·obtain⟨v,h1,F⟩:=LQ (Sz h);exact aj (al':=al) (st':=z.st) h1 (λ_ h=>h) (.inl ⟨rfl,rfl⟩) (.pure J rfl F av)
   ·split at h
    case h_2=>cases h
    rename_i t x s hs dg bq;obtain⟨be,E,h1⟩:=cu h;obtain⟨v,F,dn⟩:=Ac h1;cases I:Nat.ble (Q6 Y X.C) z.q with
    |false=>rw[I]at F;cases F
    |true=>
     rw[I,cond_true]at F;have I:=Nat.le_of_ble_eq_true I;obtain⟨cd,cf⟩:=L1 F;have dc:=y.len;rw[bq,List.length_cons]at dc;refine aj (al':=al) (st':=z.st) cd (λ_ h=>List.mem_cons_of_mem _ h) (.inl ⟨rfl,rfl⟩) (.load J rfl (PF J) t x be dg E z.q (λa8 d6 d7=>?_) ⟨Nat.le_refl _,λ_=>List.mem_cons_self,λh=>absurd h (Nat.lt_irrefl _)⟩ av);by_cases U:a8=z.q
     ·refine⟨s,?_,IG h1,dn⟩;rw[U,bq];exact NE (by omega)
     ·obtain⟨s',O,M⟩:=cf (z.q-1-a8) (by omega);refine⟨s',?_,M⟩;rw[bq];have:=KU (s:=s) (Wk O);rw[show hs.length-1-(z.q-1-a8)=a8 by omega]at this;exact this
   ·obtain⟨mk,h1,de⟩:=HK h;obtain⟨k,st',F,bs,bu,c8,dm,dj⟩:=Ts h1;obtain⟨ao,b4⟩:=Option.isSome_iff_exists.1 dm;refine aj (al':=al++[⟨i,z.q,k,ao⟩]) (st':=st') F (λ_ h=>List.mem_cons_of_mem _ h) (.inr ⟨⟨i,z.q,k,ao⟩,rfl,⟨rfl,List.mem_cons_self⟩,rfl,bs,bu,b4,c8⟩)
     (.alloc J rfl (PF J) ⟨i,z.q,k,ao⟩ (List.mem_append_right _ (List.mem_singleton.2 rfl)) rfl mk z.st.nx ⟨by show 2*z.st.nx <=k;omega,by show k%2=0;omega⟩ de rfl ?_ ⟨Nat.le_refl _,λ_=>List.mem_cons_self,λh=>absurd h (Nat.lt_irrefl _)⟩)
    intro m dr d2 cn ds dd;obtain⟨d5,O,M⟩:=dj m { heap:=Array.replicate d2 default,tape:=λ_ _=>0,drawn:=0,os:=default,output:= #[] } dr cn;rw[b4]at O;cases O;have:=M ds dd;simpa using this
   ·cases h
theorem Qi {X:Cx}{rec:Cfq->Option Rs}(F:oG X.P rec){r:Rs} :∀{l:List Nat} {y:Dr} {al:List AlX} {K:Dr->Option Rs},qG X y al->Zq X.P rec X.ops.toList X.ms X.C X.tm0 l y K=some r->
 ∃D al',K D=some r/\qG X D al'/\Hof D.hs 0=Hof y.hs 0
 |[],y,al,K,E,h=>⟨y,al,h,E,rfl⟩
 |i::l,y,al,K,E,h=>by
  have h:(L4 X.P rec X.ops.toList X.ms X.C X.tm0 i y λy=>Zq X.P rec X.ops.toList X.ms X.C X.tm0 l y K)=some r:=h;obtain⟨U,V,h1,M,_,I⟩:=SK F E h;obtain⟨G,H,R,O,J⟩:=Qi F M h1;exact⟨G,H,R,O,J.trans I⟩
structure LI (X:Cx)(D:Dr)(al:List AlX)(m0:Mp)(a0:Act)(w0:World)(O0:Nat->Prop)(L:Nat->Prop)(q:Nat)(m:Mp)(a:Act)(w:World):Prop where
 chn:∀j c,X.C[j]? =some c->(L c ↔ j<q)
 vals:∀(i:Nat) (o:Oper) (d:Tmp) (v:Value),X.ops.toList[i]? =some o->L i->o.dst=some d->D.vals.get i=some v->VR m v (a.tmps.getD d undef)
 rest:∀t:Tmp,(∀(i:Nat) (o:Oper),X.ops.toList[i]? =some o->L i->o.dst≠some t)->a.tmps.getD t undef=a0.tmps.getD t undef
 tsz:a.tmps.size=a0.tmps.size
 dfs:a.defers=a0.defers
 le:m0.le m
 wf:Wf m
 sim:∃s,Hof D.hs q=some s/\Sim (nH m s.nx) s w.heap/\(∀b,Own (nH m s.nx) s b->O0 b\/w0.heap.size <=b)/\(∀k p,2*s.nx <=k->m k=some p->∃x∈al,x.k=k/\L x.f/\q <=x.seg)
 pend:∀x∈al,L x.f->q <=x.seg->∃b o N,m x.k=some ⟨b,0,none⟩/\w.heap[b]? =some o/\2*N <=x.k/\(∀m',(nH m N).le m'->OR m' ⟨b,0,none⟩ x.ao o)/\w0.heap.size <=b/\(∀s k p,Hof D.hs q=some s->(s.h.get k).isSome->nH m s.nx k=some p->p.blk≠b)
 pdis:∀x∈al,∀y∈al,L x.f->L y.f->q <=x.seg->q <=y.seg->∀p p',m x.k=some p->m y.k=some p'->p.blk=p'.blk->x=y
 os:w.os=w0.os
 tape:w.tape=w0.tape
 output:w.output=w0.output
 size:w0.heap.size <=w.heap.size
 keep:∀b,b<w0.heap.size-> ¬ O0 b->w.heap[b]? =w0.heap[b]?
theorem Xd {X:Cx}{al:List AlX}(E:qG X z al):∀{p p':Nat} {s s':StE},p <=p'->Hof z.hs p=some s->Hof z.hs p'=some s'->s.nx <=s'.nx:=by
 have key:∀(d p:Nat) (s s':StE),Hof z.hs p=some s->Hof z.hs (p+d)=some s'->s.nx <=s'.nx:=by
  intro d;induction d with
  |zero=>intro p s s' h y;rw[Nat.add_zero,h]at y;cases y;exact Nat.le_refl _
  |succ d F=>
   intro p s s' h y;have G:=(List.getElem?_eq_some_iff.1 (show z.hs.reverse[p+(d+1)]? =some s' from y)).1;have D:Hof z.hs (p+d)=some (z.hs.reverse[p+d]'(by omega)):=List.getElem?_eq_getElem (by omega);exact Nat.le_trans (F p s _ h D) (E.mono _ _ _ D y)
 intro p p' s s' hp h y;exact key (p'-p) p s s' h (by rw[show p+(p'-p)=p' by omega];exact y)
theorem PI {X:Cx}{al:List AlX}(y:qG X z al){x:AlX}(D:x∈al){s:StE}{p:Nat}(hp:p <=x.seg)(F:Hof z.hs p=some s):2*s.nx <=x.k:=by
 rcases Nat.lt_or_ge x.seg z.q with h|h
 ·obtain⟨I,J,h1,G,E,H⟩:=y.num x D h;have:=Xd y hp F h1;omega
 ·have:=y.seg x D;obtain⟨I,h1,G,E,H⟩:=y.rel;have:=(E x D (by omega)).2.1;have:=Xd y (by omega:p <=z.q) F h1;omega
theorem LI.join {X:Cx}{al:List AlX}{bu:Act}{w0:World}{L:Nat->Prop}{q:Nat}{m:Mp}{a:Act}(cf:qG X z al)(I:LI X z al D bu w0 E L q m a w){s0:StE}(bb:Sim D s0 K)(cl:K.size=w0.heap.size)
 {J:StE} (b2:Q0 (Hof z.hs) al J q) (O:∀x∈al,x.seg=q->L x.f):Sim (nH m J.nx) J w.heap/\(∀b,Own (nH m J.nx) J b->E b\/w0.heap.size <=b):=by
 obtain⟨s,a0,V,b5,cd⟩:=I.sim;obtain⟨cn,bp,bq,bs,r4⟩:=b2;rw[a0]at bp;cases bp;have ch:=V.low.1;have a9:∀{k p},nH m s.nx k=some p->nH m J.nx k=some p:=λh=>sD m.le_refl bq _ _ h;have ad:∀k,(J.h.get k).isSome->((s.h.get k).isSome/\J.h.get k=s.h.get k/\k<2*s.nx)\/∃x∈al,x.seg=q/\x.k=k:=λk y=>by
  by_cases e:∃x∈al,x.seg=q/\x.k=k
  ·exact .inr e
  ·left;have:=r4 k λx F G b6=>e ⟨x,F,G,b6⟩;rw[this]at y;exact⟨y,this,V.num y⟩
 have Y:∀{k p},(s.h.get k).isSome->m k=some p->nH m s.nx k=some p:=fun{k p} y hp=>kK hp (V.num y);have b0:∃g,m 1=some g/\D 1=some g/\g.blk <=w0.heap.size:=by
  obtain⟨_,g,h1,ag,_⟩:=bb.low;exact⟨g,I.le _ _ h1,h1,by omega⟩
 refine⟨⟨λk ao y=>?_,λk k' p p' y b4 e bw aj=>?_,λk y=>?_,λk p hp=>I.wf k p (yB _ _ _ _ hp),⟨by omega,?_⟩,λg b3=>kK (I.le _ _ (bb.glob g b3)) (by omega)⟩,?_⟩
 ·rcases ad k (by rw[y];rfl)with⟨h1,ag,be⟩|⟨x,F,G,rfl⟩
  ·rw[ag]at y;obtain⟨p,o,H,M,e3⟩:=V.at_ k ao y;exact⟨p,o,a9 H,M,e3.mono (sD m.le_refl bq)⟩
  ·obtain⟨b,o,N,H,M,e3,ac,e5,U⟩:=I.pend x F (O x F G) (by omega);obtain⟨R,bt,a8⟩:=bs x F G;rw[R]at y;cases y;exact⟨_,o,kK H a8,M,ac _ (sD m.le_refl (by omega))⟩
 ·have Z:=yB _ _ _ _ e;have aa:=yB _ _ _ _ bw;rcases ad k y with⟨h1,ag,be⟩|⟨x,F,G,rfl⟩ <;> rcases ad k' b4 with⟨af,cb,cc⟩|⟨av,an,bk,rfl⟩
  ·exact V.apart k k' p p' h1 af (Y h1 Z) (Y af aa) aj
  ·obtain⟨b,o,N,H,M,e3,ac,e5,U⟩:=I.pend av an (O av an bk) (by omega);rw[H]at aa;cases aa;exact absurd aj (U s k p a0 h1 (Y h1 Z))
  ·obtain⟨b,o,N,H,M,e3,ac,e5,U⟩:=I.pend x F (O x F G) (by omega);rw[H]at Z;cases Z;exact absurd aj.symm (U s k' p' a0 af (Y af aa))
  ·rw[I.pdis x F av an (O x F G) (O av an bk) (by omega) (by omega) p p' Z aa aj]
 ·unfold nH;rw[if_neg (by omega)]
 ·obtain⟨g,h1,ag,be⟩:=b0;obtain⟨_,b9,bl,b7,b8⟩:=V.low;have:=yB _ _ _ _ bl;rw[h1]at this;cases this;refine⟨g,a9 bl,b7,λk p y hp=>?_⟩;have K:=yB _ _ _ _ hp;rcases ad k y with⟨R,bt,a8⟩|⟨x,F,G,rfl⟩
  ·exact b8 k p R (Y R K)
  ·obtain⟨b,o,N,H,M,e3,ac,e5,U⟩:=I.pend x F (O x F G) (by omega);rw[H]at K;cases K;have:=(bs x F G).2.1;exact⟨λh=>by omega,λ_=>by show g.blk <=b;omega⟩
 ·rintro b ⟨k,p,b1,y,hp,rfl⟩;have K:=yB _ _ _ _ hp;rcases ad k y with⟨R,bt,a8⟩|⟨x,F,G,rfl⟩
  ·exact b5 _ ⟨k,p,b1,R,Y R K,rfl⟩
  ·obtain⟨b,o,N,H,M,e3,ac,e5,U⟩:=I.pend x F (O x F G) (by omega);rw[H]at K;cases K;exact .inr e5
theorem LI.env {X:Cx}{al:List AlX}{H:Act}{w0:World}{L:Nat->Prop}{q:Nat}{m:Mp}{a:Act}(F:LI X z al D H w0 E L q m a w)(R:TmR D n X.tm0 H.tmps)(ag:X.ms=MO X.ops.toList)(a0:∀(i:Nat) (o:Oper) (d:Tmp),X.ops.toList[i]? =some o->o.dst=some d->Lv d X.ops.toList 0=some i)(aa:qE X.ops.toList L){i U:Nat}(av: ¬ L i)
 (Z:∀j,U.testBit j=true->j≠i->L j) (aj:U.testBit i=false) (a8:∀j u,J.get j=some u->z.vals.get j=some u):EnR m n (X.env i U J) a:=by
 intro x v y;cases x with
 |tmp t=>
  have y:(match Lv t X.ops.toList 0 with|some j=>bif U.testBit j then J.get j else bif (X.ms.getD j 0).testBit i then X.tm0.get t else none|none=>X.tm0.get t)=some v:=y;cases O:Lv t X.ops.toList 0 with
  |none=>
   rw[O]at y;obtain⟨v',h1,I⟩:=R.at_ t v y;show VR m v (a.tmps.getD t undef);rw[F.rest t λi o Y _=>Bk O i o Y];unfold undef;rw[h1];exact I.mono F.le
  |some j=>
   rw[O]at y;simp only at y;cases M:U.testBit j with
   |false=>
    rw[M,cond_false]at y;cases G:(X.ms.getD j 0).testBit i with
    |false=>rw[G]at y;cases y
    |true=>
     rw[G,cond_true]at y;have an: ¬ L j:=λad=>by
      rw[List.getD_eq_getElem?_getD]at G;cases V:X.ms[j]? with
      |none=>rw[V]at G;simp at G
      |some a9=>
       rw[V,Option.getD_some]at G;rw[ag]at V;exact av (Gi aa V ad G)
     obtain⟨v',h1,I⟩:=R.at_ t v y;show VR m v (a.tmps.getD t undef);rw[F.rest t λk o Y af ac=>by
      have:=a0 k o t Y ac;rw[O]at this;cases this;exact an af]
     unfold undef;rw[h1];exact I.mono F.le
   |true=>
    rw[M,cond_true]at y;obtain⟨_,o,h1,I⟩:=Ix O;exact F.vals j o t v (by simpa using h1) (Z j M λe=>by rw[e,aj]at M;cases M) I (a8 _ _ y)
 |const u=>exact AU (a:=H) (R.mono F.le) (x:=.const u) y
 |global g=>exact AU (a:=H) (R.mono F.le) (x:=.global g) y
 |func f=>exact AU (a:=H) (R.mono F.le) (x:=.func f) y
theorem LI.grd {X:Cx}{al:List AlX}{O:Act}{w0:World}{L:Nat->Prop}{q:Nat}{m:Mp}{a:Act}(V:LI X z al D O w0 E L q m a w){o:Oper}{g:Bool}(Y:∀j,n.testBit j=true->j≠i->L j)(aa:n.testBit i=false)
 (h:GOk X.ops.toList (λj=>z.vals.get j) n o g):Region.wanted o (yielded X.ops a.tmps)=g:=by
 unfold GOk at h;unfold Region.wanted;cases M:o.guard with
 |none=>rw[M]at h;exact h.symm
 |some ad=>
  obtain⟨j,aj⟩:=ad;rw[M]at h;obtain⟨d,ag,h1,H,R,U⟩:=h;have Z:=Y j H λe=>by rw[e,aa]at H;cases H
  cases F:X.ops.toList[j]? with
  |none=>rw[F]at h1;cases h1
  |some oj=>
   rw[F]at h1;have I:=V.vals j oj d ag F Z h1 R;have ac:yielded X.ops a.tmps j=match a.tmps[d]? with|some (.bool b)=>some b|_=>none:=by
    unfold yielded;have:X.ops[j]? =some oj:=by rw[<- Array.getElem?_toList];exact F
    rw[this];simp only[Option.bind_some];have h1:oj.dst=some d:=h1;rw[h1];rfl
   simp only[ac];rw[Array.getD_eq_getD_getElem?]at I;rcases U with⟨b,rfl,rfl⟩|⟨⟨x,rfl⟩,rfl⟩
   ·have:=VR.eq rfl I;cases G:a.tmps[d]? with
    |none=>rw[G]at this;cases this
    |some J=>
     rw[G]at this;have this:J=.bool b:=this;subst this;cases b <;> cases aj <;> rfl
   ·cases x with|mk x=>
    obtain⟨af,y,_⟩:=I.tupleI;cases G:a.tmps[d]? with
    |none=>rfl
    |some J=>
     rw[G]at y;have y:J=.tuple ⟨af⟩:=y;subst y;rfl
theorem Oi:∀{l:List Nat} {q k:Nat},(∀j c,l[j]? =some c->m.testBit c=true->j+k<q)->Q6 m l <=q-k
 |[],q,k,_=>by simp[Q6]
 |c::l,q,k,h=>by
  have E:=Oi (l:=l) (q:=q) (k:=k+1) λj c D y=>by have:=h (j+1) c (by simpa using D) y;omega
  unfold Q6;cases y:m.testBit c with
  |false=>rw[cond_false];omega
  |true=>rw[cond_true];have:=h 0 c rfl y;omega
theorem Sim.push {m:Mp}{s:StE}{hp:Array Obj}(h:Sim m s hp)(o:Obj):Sim m s (hp.push o):=by
 refine⟨λk ao F=>?_,h.apart,h.fresh,h.odd,?_,h.glob⟩
 ·obtain⟨p,G,h1,y,D⟩:=h.at_ k ao F;exact⟨p,G,h1,by rw[Array.getElem?_push,if_neg (by have:=(Array.getElem?_eq_some_iff.1 y).1;omega)];exact y,D⟩
 ·obtain⟨h1,g,y,D,E⟩:=h.low;exact⟨h1,g,y,by rw[Array.size_push];omega,E⟩
structure Stat (X:Cx)(D:Dr):Prop where
 mem:∀j c:Nat,X.C[j]? =some c->∃o,X.ops.toList[c]? =some o/\Ht X.P o=true
 inj:∀j j' c:Nat,X.C[j]? =some c->X.C[j']? =some c->j=j'
 ms:X.ms=MO X.ops.toList
 once:∀(i:Nat) (o:Oper) (d:Tmp),X.ops.toList[i]? =some o->o.dst=some d->Lv d X.ops.toList 0=some i
 all:∀i:Nat,i<X.ops.toList.length->∃v,D.vals.get i=some v
 end_:D.q=X.C.length
 low:∀(i:Nat) (o:Oper),X.ops.toList[i]? =some o->∀e∈o.after.toList,Region.binds .any e=true->e.on<i
theorem EV {a:Act}{d:Option Tmp}{v:Value}{t:Tmp}(h:d≠some t):(a.put d v).tmps.getD t undef=a.tmps.getD t undef:=by
 cases d with
 |none=>rfl
 |some d=>simp only[Act.put,Array.getD_eq_getD_getElem?];rw[Array.getElem?_setIfInBounds_ne (λe=>h (by rw[e]))]
theorem GC (a:Act)(d:Option Tmp)(v:Value):(a.put d v).tmps.size=a.tmps.size:=by cases d <;> simp[Act.put]
section
variable {X:Cx} {D:Dr} {al:List AlX} {m0:Mp} {a0:Act} {w0:World} {O0:Nat->Prop} {L:Nat->Prop} {q:Nat} {m:Mp} {a:Act} {w:World}
theorem Hn (M:Stat X D)(J:LI X D al m0 a0 w0 O0 L q m a w){o:Oper}{v v':Value}{H:Mp}(V:m.le H)(F:X.ops.toList[i]? =some o)(Z:D.vals.get i=some v)(aa:VR H v v')(R:∀d,o.dst=some d->d<a.tmps.size):
 (∀(j:Nat) (p:Oper) (d:Tmp) (u:Value),X.ops.toList[j]? =some p->(L j\/j=i)->p.dst=some d->D.vals.get j=some u->VR H u ((a.put o.dst v').tmps.getD d undef))/\
 (∀t:Tmp,(∀(j:Nat) (p:Oper),X.ops.toList[j]? =some p->(L j\/j=i)->p.dst≠some t)->(a.put o.dst v').tmps.getD t undef=a0.tmps.getD t undef):=by
 refine⟨λj p d u hp E y G=>?_,λt O=>?_⟩
 ·by_cases e:j=i
  ·subst e;rw[F]at hp;cases hp;rw[Z]at G;cases G;rw[y];have:=R d y;simp[Act.put,Array.getD_eq_getD_getElem?,this];exact aa
  ·have E:L j:=E.resolve_right e;have Y:o.dst≠some d:=λh=>by
    have h1:=M.once i o d F h;have I:=M.once j p d hp y;rw[h1]at I;cases I;exact e rfl
   rw[EV Y];exact(J.vals j p d u hp E y G).mono V
 ·rw[EV (O i o F (.inr rfl))];exact J.rest t λj p hp U=>O j p hp (.inl U)
theorem LI.still (O:Stat X D)(y:LI X D al m0 a0 w0 O0 L q m a w){o:Oper}{v v':Value}(bb: ¬ L i)(J:X.ops.toList[i]? =some o)(aa:Ht X.P o=false)(aj:∀x∈al,x.f≠i)(av:D.vals.get i=some v)(a8:VR m v v')(ad:∀d,o.dst=some d->d<a.tmps.size):
 LI X D al m0 a0 w0 O0 (λj=>L j\/j=i) q m (a.put o.dst v') w:=by
 obtain⟨h1,Z⟩:=Hn O y m.le_refl J av a8 ad;have F:∀{x:AlX},x∈al->(L x.f\/x.f=i)->L x.f:=fun{x} E h=>h.resolve_right (aj x E);refine⟨λj c G=>?_,h1,Z,by rw[GC];exact y.tsz,by rw[put_defers];exact y.dfs,y.le,y.wf,?_,λx E H an=>y.pend x E (F E H) an,λx E a9 R H ag=>y.pdis x E a9 R (F E H) (F R ag),y.os,y.tape,y.output,y.size,y.keep⟩
 ·have ac:c≠i:=λe=>by
   obtain⟨be,M,I⟩:=O.mem j c G;rw[e,J]at M;cases M;rw[aa]at I;cases I
  constructor
  ·rintro(h|h)
   ·exact(y.chn j c G).1 h
   ·exact absurd h ac
  ·exact λh=>.inl ((y.chn j c G).2 h)
 ·obtain⟨s,U,V,e3,Y⟩:=y.sim;exact⟨s,U,V,e3,λk p af hp=>let⟨x,E,t1,t2,t3⟩:=Y k p af hp;⟨x,E,t1,.inl t2,t3⟩⟩
theorem LI.soon (I:qG X D al)(U:Stat X D)(E:LI X D al m0 a0 w0 O0 L q m a w)(H:qE X.ops.toList L)(R: ¬ L i)(M:As X D.q n i D.pend):q <=n:=by
 obtain⟨s,F,_⟩:=E.sim;have Y:q <=D.q:=by
  have:=(List.getElem?_eq_some_iff.1 (show D.hs.reverse[q]? =some s from F)).1;rw[List.length_reverse,I.len]at this;omega
 obtain⟨Z,aa,V⟩:=M;rcases Nat.lt_or_ge n D.q with h|h
 ·obtain⟨c,ac,h1,y,G⟩:=V h;rcases Nat.lt_or_ge n q with O|J
  ·exfalso;rw[U.ms]at y;exact R (Gi H y ((E.chn n c h1).2 O) G)
  ·exact J
 ·omega
theorem LI.made (ac:qG X D al)(b6:Stat X D)(F:LI X D al m0 a0 w0 O0 L q m a w){o:Oper}(b4: ¬ L i)(af:X.ops.toList[i]? =some o)(cd:Ht X.P o=false){x:AlX}(V:x∈al)(aj:x.f=i)(ag:q <=x.seg){mk:MkE}{Y:List Value}{N:Nat}(b1:2*N <=x.k/\x.k%2=0)
 (cb:mk.R (nH m N) Y) (cv:D.vals.get i=some (mk.val x.k)) (cc:MkA mk x.ao) (ch:∀d,o.dst=some d->d<a.tmps.size):
 LI X D al m0 a0 w0 O0 (λj=>L j\/j=i) q (m.set x.k ⟨w.heap.size,0,none⟩) (a.put o.dst (mk.val w.heap.size)) (w.alloc (mk.obj Y)):=by
 obtain⟨s,M,bw,e3,b0⟩:=F.sim;have cl:=PI ac V ag M;have bl:m x.k=none:=by
  cases bl:m x.k with
  |none=>rfl
  |some p=>
   obtain⟨y,E,J,I,av⟩:=b0 x.k p cl bl;have:=ac.dist y E x V (.inl J);subst this;rw[aj]at I;exact absurd I b4
 have ad:=Mp.le_set (p:=⟨w.heap.size,0,none⟩) bl;have aa:nH (m.set x.k ⟨w.heap.size,0,none⟩) s.nx=nH m s.nx:=by
  funext k;unfold nH;split
  ·rw[Mp.set_ne _ _ _ _ (by omega)]
  ·rfl
 obtain⟨h1,b9⟩:=Hn b6 F ad af cv (mk.valR (Mp.set_at _ _ _)) ch;have b3:∀b,b<w.heap.size->(w.alloc (mk.obj Y)).heap[b]? =w.heap[b]? :=λb a8=>Below.heap_alloc w _ b a8;have bp:∀{y:AlX},y∈al->(L y.f\/y.f=i)->L y.f\/y=x:=fun{y} E h=>h.imp id (λh=>ac.dist y E x V (.inr (h.trans aj.symm)));have b7:∀{y:AlX},y∈al->L y.f->y.k≠x.k:=fun{y} E G e=>by
  have:=ac.dist y E x V (.inl e);subst this;rw[aj]at G;exact b4 G
 refine⟨λj c bb=>?_,h1,b9,by rw[GC];exact F.tsz,by rw[put_defers];exact F.dfs,F.le.trans ad,λk p hp=>?_,⟨s,M,?_,?_,λk p cn hp=>?_⟩,λy E G cp=>?_,λy E z an G O bq bs p p' hp H a9=>?_,F.os,F.tape,F.output,by rw[World.size_alloc];have:=F.size;omega,λb a8 af=>?_⟩
 ·have cf:c≠i:=λe=>by
   obtain⟨c8,b5,b2⟩:=b6.mem j c bb;rw[e,af]at b5;cases b5;rw[cd]at b2;cases b2
  constructor
  ·rintro(h|h)
   ·exact(F.chn j c bb).1 h
   ·exact absurd h cf
  ·exact λh=>.inl ((F.chn j c bb).2 h)
 ·by_cases e:k=x.k
  ·rw[e,Mp.set_at]at hp;cases hp;exact⟨by rw[e,b1.2];rfl,rfl⟩
  ·rw[Mp.set_ne _ _ _ _ e]at hp;exact F.wf k p hp
 ·rw[aa];exact bw.push _
 ·rw[aa];exact e3
 ·by_cases e:k=x.k
  ·exact⟨x,V,e.symm,.inr aj,ag⟩
  ·rw[Mp.set_ne _ _ _ _ e]at hp;obtain⟨y,E,J,I,av⟩:=b0 k p cn hp;exact⟨y,E,J,.inl I,av⟩
 ·rcases bp E G with G|rfl
  ·obtain⟨b,b8,bu,J,I,av,c2,c3,c4⟩:=F.pend y E G cp;refine⟨b,b8,bu,by rw[Mp.set_ne _ _ _ _ (b7 E G)];exact J,by rw[b3 b (Array.getElem?_eq_some_iff.1 I).1];exact I,av,λbt bk=>c2 bt ((sD ad (Nat.le_refl _)).trans bk),c3,λs' k p U be H=>?_⟩;rw[M]at U;cases U;rw[aa]at H;exact c4 s k p M be H
  ·refine⟨w.heap.size,mk.obj Y,N,Mp.set_at _ _ _,World.alloc_heap_new w _,b1.1,λbt bk=>cc (nH m N) Y w.heap.size cb bt ((sD ad (Nat.le_refl _)).trans bk),F.size,λs' k p U be H=>?_⟩;rw[M]at U;cases U;rw[aa]at H;have:=bw.lt be H;omega
 ·have Z:∀{y:AlX} {p:Pl},y∈al->L y.f->q <=y.seg->(m.set x.k ⟨w.heap.size,0,none⟩) y.k=some p->m y.k=some p/\p.blk<w.heap.size:=fun{y p} E G ag hp=>by
   rw[Mp.set_ne _ _ _ _ (b7 E G)]at hp;obtain⟨b,b8,bu,J,I,_⟩:=F.pend y E G ag;rw[J]at hp;cases hp;exact⟨J,(Array.getElem?_eq_some_iff.1 I).1⟩
  rcases bp E G with G|rfl <;> rcases bp an O with O|rfl
  ·exact F.pdis y E z an G O bq bs p p' (Z E G bq hp).1 (Z an O bs H).1 a9
  ·have:=(Z E G bq hp).2;rw[Mp.set_at]at H;cases H;simp only at a9;omega
  ·have:=(Z an O bs H).2;rw[Mp.set_at]at hp;cases hp;simp only at a9;omega
  ·rfl
 ·rw[b3 b (by have:=F.size;omega)];exact F.keep b a8 af
theorem LI.next (av:qG X D al)(b5:Stat X D)(E:LI X D al m0 a0 w0 O0 L q m a w){s0:StE}(bq:Sim m0 s0 K)(c9:K.size=w0.heap.size){o:Oper}{v v':Value}(du: ¬ L i)(c3:X.ops.toList[i]? =some o)(bs:X.C[q]? =some i)(c2:∀x∈al,x.f≠i){H G:StE}(bt:Q0 (Hof D.hs) al H q)
 (ac:Hof D.hs (q+1)=some G) (ds:H.nx <=G.nx) (bu:∀x∈al,x.seg=q->L x.f) {m1:Mp} {w':World} (bw:(nH m H.nx).le m1) (dd:VR m1 v v') (V:Sim m1 G w'.heap) (O:Nxt w (Own (nH m H.nx) H) w' (Own m1 G)) (dc:D.vals.get i=some v) (cf:∀d,o.dst=some d->d<a.tmps.size):
 ∃m',LI X D al m0 a0 w0 O0 (λj=>L j\/j=i) (q+1) m' (a.put o.dst v') w':=by
 obtain⟨dv,b6⟩:=E.join av bq c9 bt bu;obtain⟨s,bk,bl,e3,bp⟩:=E.sim;obtain⟨d4,b8,d3,b9,r4⟩:=bt;rw[bk]at b8;cases b8;let m':Mp:=λk=>if k<2*G.nx then m1 k else m k;have ad:∀k,k<2*G.nx->m' k=m1 k:=λk y=>if_pos y;have af:∀k,¬ k<2*G.nx->m' k=m k:=λk y=>if_neg y;have an:nH m' G.nx=m1:=by
  funext k;by_cases y:k<2*G.nx
  ·unfold nH;rw[if_pos y,ad k y]
  ·unfold nH;rw[if_neg y,V.fresh k (by omega)]
 have cn:m1.le m':=λk p hp=>by
  rcases Nat.lt_or_ge k (2*G.nx)with y|y
  ·rw[ad k y];exact hp
  ·rw[V.fresh k y]at hp;cases hp
 have a8:m.le m':=λk p hp=>by
  rcases Nat.lt_or_ge k (2*G.nx)with y|y
  ·rcases Nat.lt_or_ge k (2*H.nx)with hk2|hk2
   ·rw[ad k y];exact bw _ _ (kK hp hk2)
   ·exfalso;obtain⟨x,F,Y,Z,be⟩:=bp k p (by omega) hp;rcases Nat.lt_or_ge q x.seg with h|h
    ·have:=PI av F (show q+1 <=x.seg by omega) ac;omega
    ·have:=(b9 x F (by omega)).2.2;omega
  ·rw[af k (by omega)];exact hp
 have aj:∀{x:AlX},x∈al->(L x.f\/x.f=i)->L x.f:=fun{x} F h=>h.resolve_right (c2 x F);have a9:∀{x:AlX},x∈al->q+1 <=x.seg->m' x.k=m x.k:=fun{x} F b2=>af _ (by have:=PI av F b2 ac;omega);obtain⟨h1,cb⟩:=Hn b5 E a8 c3 dc (dd.mono cn) cf;have dg:∀{x:AlX} {b:Nat},x∈al->L x.f->q+1 <=x.seg->m x.k=some ⟨b,0,none⟩->(∀s k p,Hof D.hs q=some s->(s.h.get k).isSome->nH m s.nx k=some p->p.blk≠b)-> ¬ Own (nH m H.nx) H b:=fun{x b} F M b2 cv cc=>by
  rintro⟨k,p,aa,y,hp,I⟩;have K:=yB _ _ _ _ hp;by_cases e:∃J∈al,J.seg=q/\J.k=k
  ·obtain⟨J,R,bb,rfl⟩:=e;have:=E.pdis J R x F (bu J R bb) M (by omega) (by omega) p _ K cv I;subst this;omega
  ·have:=r4 k λJ R bb de=>e ⟨J,R,bb,de⟩;rw[this]at y;exact cc s k p bk y (kK K (bl.num y)) I
 refine⟨m',λj c U=>?_,h1,cb,by rw[GC];exact E.tsz,by rw[put_defers];exact E.dfs,E.le.trans a8,λk p hp=>?_,⟨G,ac,by rw[an];exact V,λb I=>?_,λk p y hp=>?_⟩,λx F M b3=>?_,λx F J R M cl c4 c8 p p' hp b1 ch=>?_,O.os.trans E.os,O.tape.trans E.tape,O.output.trans E.output,Nat.le_trans E.size O.size,λb I b0=>?_⟩
 ·constructor
  ·rintro(h|h)
   ·have:=(E.chn j c U).1 h;omega
   ·subst h;have:=b5.inj j q c U bs;omega
  ·intro h;by_cases e:j=q
   ·subst e;rw[bs]at U;cases U;exact .inr rfl
   ·exact .inl ((E.chn j c U).2 (by omega))
 ·rcases Nat.lt_or_ge k (2*G.nx)with y|y
  ·rw[ad k y]at hp;exact V.odd k p hp
  ·rw[af k (by omega)]at hp;exact E.wf k p hp
 ·rw[an]at I;rcases O.own b I with h|h
  ·exact b6 b h
  ·right;have:=E.size;omega
 ·rw[af k (by omega)]at hp;obtain⟨x,F,Y,Z,be⟩:=bp k p (by omega) hp;refine⟨x,F,Y,.inl Z,?_⟩;rcases Nat.lt_or_ge q x.seg with h|h
  ·exact h
  ·have:=(b9 x F (by omega)).2.2;omega
 ·have M:=aj F M;obtain⟨b,dj,N,Y,Z,be,dm,dn,dr⟩:=E.pend x F M (by omega);have ag:=dg F M b3 Y dr;have cd:=(Array.getElem?_eq_some_iff.1 Z).1;refine⟨b,dj,N,by rw[a9 F b3];exact Y,by rw[O.keep b cd ag];exact Z,be,λdf cp=>dm df ((sD a8 (Nat.le_refl _)).trans cp),dn,λs' k p b4 y hp I=>?_⟩;rw[ac]at b4;cases b4;rw[an]at hp;rcases Nat.lt_or_ge k 64 with aa|aa
  ·obtain⟨_,g,b7,d1,dl⟩:=V.low;obtain⟨_,g',dk,d2,_⟩:=bq.low;have:m1 1=some g':=bw _ _ (kK (E.le _ _ dk) (by have:=bl.low.1;omega));rw[this]at b7;cases b7;have:=(dl k p y hp).1 aa;omega
  ·rcases O.own b ⟨k,p,aa,y,hp,I⟩ with h|h
   ·exact ag h
   ·omega
 ·rw[a9 F c4]at hp;rw[a9 R c8]at b1;exact E.pdis x F J R (aj F M) (aj R cl) (by omega) (by omega) p p' hp b1 ch
 ·have ag: ¬ Own (nH m H.nx) H b:=λh=>by
   rcases b6 b h with h|h
   ·exact b0 h
   ·omega
  rw[O.keep b (by have:=E.size;omega) ag];exact E.keep b I b0
end
theorem ur:∀{l:List Oper} {k:Nat} {j c:Nat},(kW P l k)[j]? =some c->k <=c/\∃o,l[c-k]? =some o/\Ht P o=true
 |[],k,j,c,h=>by simp[kW]at h
 |o::l,k,j,c,h=>by
  unfold kW at h;have next:∀j,(kW P l (k+1))[j]? =some c->k <=c/\∃y,(o::l)[c-k]? =some y/\Ht P y=true:=λj h=>by
   obtain⟨h1,y,E,F⟩:=ur h;exact⟨by omega,y,by rw[show c-k=(c-(k+1))+1 by omega];exact E,F⟩
  cases D:Ht P o with
  |true=>
   rw[D,cond_true]at h;cases j with
   |zero=>simp at h;subst h;exact⟨Nat.le_refl _,o,by simp,D⟩
   |succ j=>exact next j (by simpa using h)
  |false=>rw[D,cond_false]at h;exact next j h
theorem vv:∀{l:List Oper} {k:Nat} {i j c d:Nat},(kW P l k)[i]? =some c->(kW P l k)[j]? =some d->i<j->c<d
 |[],k,i,j,c,d,h,_,_=>by simp[kW]at h
 |o::l,k,i,j,c,d,h,y,E=>by
  unfold kW at h y;cases D:Ht P o with
  |true=>
   rw[D,cond_true]at h y;cases j with
   |zero=>omega
   |succ j=>
    have y:(kW P l (k+1))[j]? =some d:=by simpa using y
    cases i with
    |zero=>simp at h;subst h;have:=(ur y).1;omega
    |succ i=>exact vv (by simpa using h) y (by omega)
  |false=>rw[D,cond_false]at h y;exact vv h y E
def UV (i:Nat):List Edge->Bool
 |[]=>true
 |e::es=>bif Region.binds .any e then(bif Nat.ble (Nat.succ e.on) i then UV i es else false)else UV i es
theorem Kh:∀{E:List Edge},UV i E=true->∀e∈E,Region.binds .any e=true->e.on<i
 |[],_,e,y,_=>absurd y (by simp)
 |x::E,h,e,y,F=>by
  unfold UV at h;rcases List.mem_cons.1 y with rfl|y
  ·rw[F,cond_true]at h;cases D:Nat.ble (Nat.succ e.on) i with
   |true=>exact Nat.le_of_ble_eq_true D
   |false=>rw[D]at h;cases h
  ·cases G:Region.binds .any x with
   |false=>rw[G,cond_false]at h;exact Kh h e y F
   |true=>
    rw[G,cond_true]at h;cases D:Nat.ble (Nat.succ x.on) i with
    |true=>rw[D,cond_true]at h;exact Kh h e y F
    |false=>rw[D]at h;cases h
def Xb:List Oper->Nat->Bool
 |[],_=>true
 |o::l,k=>bif UV k o.after.toList then Xb l (k+1)else false
theorem Ps:∀{l:List Oper} {k:Nat},Xb l k=true->∀(i:Nat) (o:Oper),l[i]? =some o->UV (k+i) o.after.toList=true
 |[],k,_,i,o,y=>by simp at y
 |x::l,k,h,i,o,y=>by
  unfold Xb at h;cases D:UV k x.after.toList with
  |false=>rw[D]at h;cases h
  |true=>
   rw[D,cond_true]at h;cases i with
   |zero=>simp at y;subst y;exact D
   |succ i=>have:=Ps h i o (by simpa using y);rw[show k+(i+1)=k+1+i by omega];exact this
def Ri (vals:Tr Value):Nat->Bool:=Nat.rec true λk ih=>match vals.get k with
 |some _=>ih
 |none=>false
theorem KZ:∀{n:Nat},Ri J n=true->∀i,i<n->∃v,J.get i=some v
 |0,_,i,D=>by omega
 |n+1,h,i,D=>by
  have h:(match J.get n with|some _=>Ri J n|none=>false)=true:=h;cases y:J.get n with
  |none=>rw[y]at h;cases h
  |some v=>
   rw[y]at h;by_cases e:i=n
   ·exact⟨v,e▸y⟩
   ·exact KZ h i (by omega)
def Vk (n:Nat)(vals:Tr Value)(ol:List Oper):Nat->Tr Value->(Tr Value->Option Rs)->Option Rs:=List.rec (motive:=λ_=>Nat->Tr Value->(Tr Value->Option Rs)->Option Rs) (λ_ tm K=>K tm) (λo _ ih k tm K=>match vals.get k with
 |some v=>yC n tm o.dst v λtm=>ih (Nat.succ k) tm K
 |none=>none) ol
theorem RJ {d:Option Tmp}{v:Value}{K:Tr Value->Option Rs}{r:Rs}(y:yC n J d v K=some r):∃E,K E=some r/\(∀t,E.get t=if d=some t then some v else J.get t)/\(∀t,d=some t->t<n):=by
 cases d with
 |none=>exact⟨J,y,λt=>by simp,λt h=>nomatch h⟩
 |some d=>
  have y:(bif Nat.ble (Nat.succ d) n&&Nat.ble (d+2) 16384 then uR (some v) 14 J d K else none)=some r:=y;cases D:(Nat.ble (Nat.succ d) n&&Nat.ble (d+2) 16384)with
  |false=>rw[D]at y;cases y
  |true=>
   rw[D,cond_true,nz]at y;simp only[Bool.and_eq_true,Nat.ble_eq]at D;refine⟨_,y,λt=>?_,λt h=>by cases h;exact D.1⟩;rw[Tr.get_put (some v) 14 J d D.2];by_cases e:t=d
   ·subst e;simp
   ·have: ¬ (some d=some t):=λh=>e (by cases h;rfl);rw[if_neg e,if_neg this]
theorem LV {r:Rs} :∀{ol:List Oper} {k:Nat} {D:Tr Value} {K:Tr Value->Option Rs},Vk n J ol k D K=some r->∃G,K G=some r/\(∀(i:Nat) (o:Oper) (t:Tmp),ol[i]? =some o->o.dst=some t->t<n)/\
 ∀t v,G.get t=some v->(∃(i:Nat) (o:Oper),ol[i]? =some o/\o.dst=some t/\J.get (k+i)=some v)\/((∀(i:Nat) (o:Oper),ol[i]? =some o->o.dst≠some t)/\D.get t=some v)
 |[],k,D,K,h=>⟨D,h,λi o t y=>by simp at y,λt v F=>.inr ⟨λi o y=>by simp at y,F⟩⟩
 |x::ol,k,D,K,h=>by
  have h:(match J.get k with|some v=>yC n D x.dst v λD=>Vk n J ol (k+1) D K|none=>none)=some r:=h;cases F:J.get k with
  |none=>rw[F]at h;cases h
  |some ac=>
   rw[F]at h;obtain⟨aa,h1,M,O⟩:=RJ h;obtain⟨G,R,U,V⟩:=LV h1;refine⟨G,R,λi o t y I=>?_,λt v Y=>?_⟩
   ·cases i with
    |zero=>simp at y;subst y;exact O t I
    |succ i=>exact U i o t (by simpa using y) I
   ·rcases V t v Y with⟨i,o,H,E,Z⟩|⟨H,E⟩
    ·exact .inl ⟨i+1,o,by simpa using H,E,by rw[show k+(i+1)=k+1+i by omega];exact Z⟩
    ·rw[M]at E;by_cases e:x.dst=some t
     ·rw[if_pos e]at E;cases E;exact .inl ⟨0,x,by simp,e,by simpa using F⟩
     ·rw[if_neg e]at E;refine .inr ⟨λi o y=>?_,E⟩;cases i with
      |zero=>simp at y;subst y;exact e
      |succ i=>exact H i o (by simpa using y)
def drA (P:Program)(rec:Cfq->Option Rs)(s:StE)(n:Nat)(tm:Tr Value)(ops:Array Oper)(K:Tr Value->StE->Option Rs):Option Rs:=
 bif MV ops.toList ops.toList 0&&(Xb ops.toList 0&&P.follows .mixedOrders)then
  Zq P rec ops.toList (MO ops.toList) (kW P ops.toList 0) tm (TH (MO ops.toList) (kW P ops.toList 0) (ON P ops.toList 0)) ⟨.nil,s,[s],0,[]⟩ λD=>
   bif Nat.beq D.q (kW P ops.toList 0).length&&Ri D.vals ops.toList.length then Vk n D.vals ops.toList 0 tm λtm=>K tm D.st else none
 else none
theorem LI.step {X:Cx}{al:List AlX}{av:Act}{w0:World}{L:Nat->Prop}{q:Nat}{m:Mp}{a:Act}(V:qG X z al)(G:Stat X z)(y:LI X z al D av w0 E L q m a w){s0:StE}(bp:Sim D s0 K)(b0:K.size=w0.heap.size)(b1:TmR D n X.tm0 av.tmps)
 (dd:∀(i:Nat) (o:Oper) (t:Tmp),X.ops.toList[i]? =some o->o.dst=some t->t<n) (aj:qE X.ops.toList L) (I: ¬ L i) (de:i<X.ops.toList.length) (ds:∀o,X.ops.toList[i]? =some o->∀e∈o.after.toList,Region.binds .any e=true->L e.on) (b:Frame) (rest:List Nat) (k:List Item) (cs:List Frame):
 ∃d7 bb be w',LI X z al D av w0 E (λj=>L j\/j=i) d7 bb be w'/\Steps X.P (lone (b.atR a (.inRegion X.ops (i::rest)::k)) cs w) (lone (b.atR be (.inRegion X.ops rest::k)) cs w'):=by
 obtain⟨u,dv⟩:=G.all i de;obtain⟨o,b2,v,g,en,R,bw,ag,U,cf,d1,dg⟩:=V.facts i u dv;have U:z.vals.get i=some v:=U;have c9:qE X.ops.toList λj=>L j\/j=i:=λj p hp J e bu F=>by
  rcases J with J|rfl
  ·exact .inl (aj j p hp J e bu F)
  ·exact .inl (ds p hp e bu F)
 have Z:∀j,b2.testBit j=true->j≠i->L j:=λj J a9=>by
  rw[G.ms]at bw;exact(Gi c9 bw (.inr rfl) J).resolve_right a9
 have af:X.ops[i]? =some o:=by rw[<- Array.getElem?_toList];exact R
 have an:=y.env b1 G.ms G.once aj I Z ag d1;have ad:=y.grd Z ag cf;have ac:∀d,o.dst=some d->d<a.tmps.size:=λd aa=>by rw[y.tsz,b1.size];exact dd i o d R aa
 cases dg with
 |skip H O d4 M=>
  subst O d4;refine⟨q,m,_,w,y.still G I R H M U (VR.refl rfl) ac,.one ?_⟩;have:=stepR_op_skip (P:=X.P) (b:=b) (a:=a) (k:=k) (cs:=cs) (w:=w) (ops:=X.ops) (i:=i) (rest:=rest) (by rw[af];exact ad);rw[af]at this;exact this
 |pure H O hp M=>
  subst O;obtain⟨v',h1,cd⟩:=hp m n a an y.wf;exact⟨q,m,_,w,y.still G I R H M U h1 ac,.one (IZ af ad (.inr (PF H)) (cd w))⟩
 |load H O aa t x eb dn Y ef dj a8 M=>
  subst O;obtain⟨s,b8,bk,e3,ed⟩:=y.sim;have dc:Q6 b2 X.C <=q:=Oi (q:=q) (k:=0) λj c J F=>by
   have c8:c≠i:=λe=>by rw[e,ag]at F;cases F
   simpa using(y.chn j c J).1 (Z c F c8)
  obtain⟨s',bl,⟨b4,off,rfl,dk⟩,b9⟩:=dj q dc (y.soon V G aj I a8);rw[b8]at bl;cases bl;have c2:=an x _ Y;obtain⟨p,hp,_,d2⟩:=c2.ptrI;have c3:VR (nH m s.nx) (.pointer (some ⟨b4,off,none⟩)) (a.eval x):=by
   rw[d2];exact VR.ptr (kK hp (bk.num dk))
  obtain⟨v',cb,cc⟩:=b9 _ w _ bk c3;refine⟨q,m,_,w,y.still G I R H M U (cb.mono (yB _ _)) ac,.one (IZ af ad (.inr aa) ?_)⟩;unfold execOp;rw[dn];exact cg cc
 |alloc H O aa x Y d5 mk N cn dl d3 cp a8=>
  subst O d3;obtain⟨ek,d8,d9⟩:=dl (nH m N) n a an.cut;exact⟨q,_,_,_,y.made V G I R H Y d5 (y.soon V G aj I a8) cn d8 U cp ac,.one (IZ af ad (.inr aa) (d9 w))⟩
 |chain H j b3 ea a0 J ch bq dr dm cv c4 M=>
  have df:j=q:=by
   have h1: ¬ j<q:=λh=>I ((y.chn j i a0).2 h);cases j with
   |zero=>omega
   |succ p=>
    have F:=dr p rfl;have eg:=(List.getElem?_eq_some_iff.1 a0).1;have bt:X.C[p]? =some (X.C[p]'(by omega)):=List.getElem?_eq_getElem (by omega);rw[List.getD_eq_getElem?_getD,bt,Option.getD_some]at F;have a9:X.C[p]'(by omega)≠i:=λe=>by rw[e,ag]at F;cases F
    have:=(y.chn p _ bt).1 (Z _ F a9);omega
  subst df;have bs:∀x∈al,x.seg=j->L x.f:=λx Y du=>Z _ (cv x Y du) (M x Y);obtain⟨d6,ei⟩:=y.join V bp b0 bq bs;obtain⟨em,v',w',c1,b5,b6,b7,c5⟩:=c4 (nH m b3.nx) n a w b rest k cs an.cut d6 ad;obtain⟨bb,cl⟩:=y.next V G bp b0 I R a0 M bq ch dm bs c1 b5 b6 b7 U ac;exact⟨_,bb,_,w',cl,c5⟩
def Lst (listed:Array Bool)(i:Nat):Prop:=listed.getD i false=true
def Lf (listed:Array Bool):Nat->Nat
 |0=>0
 |k+1=>Lf listed k+(if listed.getD k true=true then 0 else 1)
theorem Lg {listed:Array Bool}:∀{n:Nat},n <=listed.size->listed.getD i true=false->Lf (listed.setIfInBounds i true) n+(if i<n then 1 else 0)=Lf listed n
 |0,_,_=>by simp[Lf]
 |n+1,F,E=>by
  have y:=Lg (n:=n) (by omega) E;unfold Lf;by_cases e:n=i
  ·subst e;have h1:(listed.setIfInBounds n true).getD n true=true:=by simp[Array.getD_eq_getD_getElem?,Array.getElem?_setIfInBounds,show n<listed.size by omega]
   rw[h1,E,if_pos rfl,if_pos (Nat.lt_succ_self _)];rw[if_neg (Nat.lt_irrefl _)]at y;simp;omega
  ·have h1:(listed.setIfInBounds i true).getD n true=listed.getD n true:=by simp only[Array.getD_eq_getD_getElem?];rw[Array.getElem?_setIfInBounds_ne (Ne.symm e)]
   rw[h1];by_cases D:i<n
   ·rw[if_pos D]at y;rw[if_pos (show i<n+1 by omega)];omega
   ·rw[if_neg D]at y;rw[if_neg (show ¬ i<n+1 by omega)];omega
theorem H5 {listed:Array Bool} :∀{n:Nat},Lf listed n=0->∀i,i<n->listed.getD i true=true
 |0,_,i,D=>by omega
 |n+1,h,i,D=>by
  unfold Lf at h;by_cases e:i=n
  ·subst e;cases y:listed.getD i true with
   |true=>rfl
   |false=>rw[y]at h;simp at h
  ·exact H5 (n:=n) (by omega) i (by omega)
theorem Pp {X:Cx}{al:List AlX}{V:Act}{w0:World}(b4:qG X z al)(bk:Stat X z){s0:StE}(bt:Sim D s0 K)(cf:K.size=w0.heap.size)(ch:TmR D n X.tm0 V.tmps)
 (b2:∀(i:Nat) (o:Oper) (t:Tmp),X.ops.toList[i]? =some o->o.dst=some t->t<n) (b:Frame) (k:List Item) (cs:List Frame):∀(fuel t:Nat) (listed:Array Bool) (q:Nat) (m:Mp) (a:Act) (w:World),listed.size=X.ops.size->Lf listed X.ops.size <=fuel->qE X.ops.toList (Lst listed)->
 LI X z al D V w0 E (Lst listed) q m a w->∃(L:Nat->Prop) (aj:Nat) (af:Mp) (M:Act) (w':World),(∀i,i<X.ops.size->L i)/\LI X z al D V w0 E L aj af M w'/\
  Steps X.P (lone (b.atR a (.inRegion X.ops (Region.linearise.go .any X.ops fuel t listed [])::k)) cs w) (lone (b.atR M (.inRegion X.ops []::k)) cs w'):=by
 have done:∀(listed:Array Bool),listed.size=X.ops.size->Lf listed X.ops.size=0->(∀i,i<X.ops.size->Lst listed i)/\Region.ready .any X.ops listed=[]:=λlisted H Z=>by
  have h1:=H5 Z;refine⟨λi y=>?_,?_⟩
  ·have:=h1 i y;unfold Lst;simp only[Array.getD_eq_getD_getElem?]at this ⊢;rw[Array.getElem?_eq_getElem (by omega)]at this ⊢;exact this
  ·cases J:Region.ready .any X.ops listed with
   |nil=>rfl
   |cons i l=>
    have R:i∈Region.ready .any X.ops listed:=by rw[J];exact List.mem_cons_self
    obtain⟨a0,o,bu,_⟩:=mem_ready.1 R;have y:=(Array.getElem?_eq_some_iff.1 bu).1;rw[h1 i y]at a0;cases a0
 intro fuel;induction fuel with
 |zero=>
  intro t listed q m a w H Z aa O;obtain⟨Y,an⟩:=done listed H (by omega);exact⟨_,q,m,a,w,Y,O,.refl _ _⟩
 |succ fuel cl=>
  intro t listed q m a w H Z aa O;by_cases av:Lf listed X.ops.size=0
  ·obtain⟨Y,an⟩:=done listed H av;refine⟨_,q,m,a,w,Y,O,?_⟩;have:Region.linearise.go .any X.ops (fuel+1) t listed []=[]:=by
    show(match(Region.ready .any X.ops listed)[t%(Region.ready .any X.ops listed).length]? with
     |some i=>Region.linearise.go .any X.ops fuel (t/(Region.ready .any X.ops listed).length) (listed.setIfInBounds i true) [i]
     |none=>[].reverse)=[]
    rw[an];rfl
   rw[this];exact .refl _ _
  ·have b9:Region.ready .any X.ops listed≠[]:=λJ=>by
    have all:∀i,i<X.ops.size->listed.getD i true=true:=by
     intro i;induction i using Nat.strongRecOn with
     |_ i cn=>
      intro y;cases F:listed.getD i true with
      |true=>rfl
      |false=>
       exfalso;have a9:X.ops[i]? =some X.ops[i]:=Array.getElem?_eq_getElem y;have R:i∈Region.ready .any X.ops listed:=mem_ready.2 ⟨F,_,a9,λe G bw=>by
        have b7:=bk.low i _ (by rw[Array.getElem?_toList];exact a9) e (Array.mem_toList_iff.2 G) bw;have:=cn e.on b7 (by omega);simp only[Array.getD_eq_getD_getElem?]at this ⊢;rw[Array.getElem?_eq_getElem (by omega)]at this ⊢;exact this⟩
       rw[J]at R;exact absurd R (by simp)
    have:∀n,n <=X.ops.size->Lf listed n=0:=by
     intro n;induction n with
     |zero=>intro _;rfl
     |succ n cp=>intro c9;unfold Lf;rw[cp (by omega),all n (by omega)];rfl
    exact av (this _ (Nat.le_refl _))
   have cc:0<(Region.ready .any X.ops listed).length:=by
    cases J:Region.ready .any X.ops listed with
    |nil=>exact absurd J b9
    |cons x l=>simp
   have b6:=Nat.mod_lt t cc;have y:(Region.ready .any X.ops listed)[t%(Region.ready .any X.ops listed).length]? =some ((Region.ready .any X.ops listed)[t%(Region.ready .any X.ops listed).length]):=List.getElem?_eq_getElem b6;generalize c8:(Region.ready .any X.ops listed)[t%(Region.ready .any X.ops listed).length]=i at y;have b8:i∈Region.ready .any X.ops listed:=List.mem_of_getElem? y;obtain⟨I,o,bl,c3⟩:=mem_ready.1 b8;have ac:=(Array.getElem?_eq_some_iff.1 bl).1;have b5:Region.linearise.go .any X.ops (fuel+1) t listed []=i::Region.linearise.go .any X.ops fuel (t/(Region.ready .any X.ops listed).length) (listed.setIfInBounds i true) []:=by
    show(match(Region.ready .any X.ops listed)[t%(Region.ready .any X.ops listed).length]? with
     |some i=>Region.linearise.go .any X.ops fuel (t/(Region.ready .any X.ops listed).length) (listed.setIfInBounds i true) [i]
     |none=>[].reverse)=_
    rw[y];simp only;rw[linearise_go_acc,List.reverse_singleton,List.singleton_append]
   have cb: ¬ Lst listed i:=λh=>by
    unfold Lst at h;simp only[Array.getD_eq_getD_getElem?]at h I;rw[Array.getElem?_eq_getElem (by omega)]at h I;simp only[Option.getD_some]at h I;rw[h]at I;cases I
   have U:∀j,Lst (listed.setIfInBounds i true) j ↔ (Lst listed j\/j=i):=λj=>by
    unfold Lst;by_cases e:j=i
    ·subst e;simp[Array.getD_eq_getD_getElem?,Array.getElem?_setIfInBounds,H,ac]
    ·simp only[Array.getD_eq_getD_getElem?];rw[Array.getElem?_setIfInBounds_ne (Ne.symm e)];simp[e]
   have be:∀ag,X.ops.toList[i]? =some ag->∀e∈ag.after.toList,Region.binds .any e=true->Lst listed e.on:=λag bb e G F=>by
    rw[Array.getElem?_toList,bl]at bb;cases bb;exact c3 e (Array.mem_toList_iff.1 G) F
   obtain⟨aj,af,M,w',a8,cd⟩:=O.step b4 bk bt cf ch b2 aa cb (by rw[Array.length_toList];exact ac) be b (Region.linearise.go .any X.ops fuel (t/(Region.ready .any X.ops listed).length) (listed.setIfInBounds i true) []) k cs;have b3:(λj=>Lst listed j\/j=i)=Lst (listed.setIfInBounds i true):=by funext j;exact propext (U j).symm
   rw[b3]at a8;have b0:qE X.ops.toList (Lst (listed.setIfInBounds i true)):=λj p hp ad e G F=>by
    rcases(U j).1 ad with ad|rfl
    ·exact(U _).2 (.inl (aa j p hp ad e G F))
    ·exact(U _).2 (.inl (be p hp e G F))
   have b1:=Lg (n:=X.ops.size) (by omega) I;rw[if_pos ac]at b1;obtain⟨L,c2,cv,a2,c4,bp,bq,bs⟩:=cl (t/(Region.ready .any X.ops listed).length) (listed.setIfInBounds i true) aj af M w' (by rw[Array.size_setIfInBounds];exact H) (by omega) b0 a8;refine⟨L,c2,cv,a2,c4,bp,bq,?_⟩;rw[b5];exact cd.trans bs
theorem Oj (listed:Array Bool):∀n,Lf listed n <=n
 |0=>Nat.le_refl _
 |n+1=>by unfold Lf;have:=Oj listed n;split <;> omega
theorem Oy (P:Program):Aq P (drA P):=by
 intro rec cd s n c3 ops K r h;unfold drA at h;cases I:(MV ops.toList ops.toList 0&&(Xb ops.toList 0&&P.follows .mixedOrders))with
 |false=>rw[I]at h;cases h
 |true=>
 rw[I,cond_true]at h;simp only[Bool.and_eq_true]at I;obtain⟨bs,bt,bu⟩:=I;let X:Cx:=⟨P,ops,MO ops.toList,kW P ops.toList 0,c3⟩
 have b7:qG X ⟨.nil,s,[s],0,[]⟩ []:=by
  refine⟨rfl,⟨s,rfl,Nat.le_refl _,λx y=>absurd y (by simp),λj _=>rfl⟩,λi v Y=>(nomatch (show(none:Option Value)=some v from Y)),λx y=>absurd y (by simp),λx y=>absurd y (by simp),λx y=>absurd y (by simp),λp Z cv h1 aa=>?_,
   λx y=>absurd y (by simp),λx y=>absurd y (by simp),λj H=>absurd H (Nat.not_lt_zero _)⟩
  have:=(List.getElem?_eq_some_iff.1 (show[s].reverse[p+1]? =some cv from aa)).1;simp at this
 obtain⟨D,al,h1,G,ac⟩:=Qi (X:=X) cd b7 h;have ac:Hof D.hs 0=some s:=ac;cases O:(Nat.beq D.q (kW P ops.toList 0).length&&Ri D.vals ops.toList.length)with
 |false=>rw[O]at h1;cases h1
 |true=>
 rw[O,cond_true]at h1;simp only[Bool.and_eq_true]at O;have cb:=Nat.eq_of_beq_eq_true O.1;obtain⟨c4,aa,b4,cl⟩:=LV h1;have af:Stat X D:=by
  refine⟨λj c H=>?_,λj cn c H bb=>?_,rfl,λi o d U b3=>Gu (l:=ops.toList) (k:=0) (λi=>by rw[Nat.zero_add]) bs i o d (Nat.zero_le _) U b3,KZ O.2,cb,λi o U e b5 b1=>?_⟩
  ·obtain⟨_,o,F,M⟩:=ur (k:=0) H;exact⟨o,by simpa using F,M⟩
  ·rcases Nat.lt_trichotomy j cn with R|R|R
   ·have:=vv (k:=0) H bb R;omega
   ·exact R
   ·have:=vv (k:=0) bb H R;omega
  ·have:=Ps bt i o U;rw[Nat.zero_add]at this;exact Kh this e b5 b1
 have b6:∀x∈al,x.f<ops.size:=λx y=>by
  obtain⟨v,Y⟩:=G.done x y;obtain⟨o,dk,v',g,dm,F,_⟩:=G.facts x.f v Y;have:=(List.getElem?_eq_some_iff.1 F).1;rw[Array.length_toList]at this;exact this
 refine⟨c4,D.st,aa,λm a w b k cs id ag J=>?_⟩;have a8:nH m s.nx=m:=by
  funext j;unfold nH;split
  ·rfl
  ·exact(J.fresh j (by omega)).symm
 have V:∀i,¬ Lst (Array.replicate ops.size false) i:=λi=>by
  unfold Lst;simp only[Array.getD_eq_getD_getElem?,Array.getElem?_replicate];split <;> simp
 have b0:LI X D al m a { w with drawn:=w.drawn+1 } (Own m s) (Lst (Array.replicate ops.size false)) 0 m a { w with drawn:=w.drawn+1 } :=by
  refine⟨λj c H=>⟨λh=>absurd h (V c),λh=>absurd h (Nat.not_lt_zero _)⟩,λi o d v _ h=>absurd h (V i),λ_ _=>rfl,rfl,rfl,m.le_refl,J.odd,⟨s,ac,by rw[a8];exact J,λb I=>by rw[a8]at I;exact .inl I,λk p b8 hp=>?_⟩,
   λx y h=>absurd h (V x.f),λx y dn dj h=>absurd h (V x.f),rfl,rfl,rfl,Nat.le_refl _,λ_ _ _=>rfl⟩
  rw[J.fresh k b8]at hp;cases hp
 obtain⟨L,q,m',bq,w',ad,E,ch⟩:=Pp G af J (w0:= { w with drawn:=w.drawn+1 }) rfl ag b4 b k cs ops.size (w.tape w.drawn (.order b.fn id)) (Array.replicate ops.size false) 0 m a { w with drawn:=w.drawn+1 } (by simp;rfl) (Oj _ _) (λi o _ h=>absurd h (V i)) b0;obtain⟨c2,av,dc,dd,bw⟩:=E.sim;have cc:q=D.q:=by
  have df:q <=D.q:=by
   have:=(List.getElem?_eq_some_iff.1 (show D.hs.reverse[q]? =some c2 from av)).1;rw[List.length_reverse,G.len]at this;omega
  rcases Nat.lt_or_ge q D.q with dg|de
  ·exfalso;have be:q<X.C.length:=by have:=af.end_;omega
   have a0:X.C[q]? =some (X.C[q]'be):=List.getElem?_eq_getElem be;obtain⟨o,F,_⟩:=af.mem q _ a0;have bk:=(List.getElem?_eq_some_iff.1 F).1;rw[Array.length_toList]at bk;have:=(E.chn q _ a0).1 (ad _ bk);omega
  ·omega
 subst cc;obtain⟨aj,bl⟩:=E.join G J rfl G.rel (λx y _=>ad _ (b6 x y));obtain⟨Z,bp,dl,cp,r4⟩:=G.rel;rw[av]at bp;cases bp;have b2:nH m' D.st.nx=m':=by
  funext j;unfold nH;split
  ·rfl
  ·rename_i H;cases b9:m' j with
   |none=>rfl
   |some p=>
    exfalso;obtain⟨x,y,F,M,an⟩:=bw j p (by omega) b9;have:=G.seg x y;have:=(cp x y (by omega)).2.2;omega
 rw[b2]at aj bl;refine⟨m',bq,w',E.le,E.dfs,⟨by rw[E.tsz];exact ag.size,λt v Y=>?_,aj.glob⟩,aj,⟨E.os,E.tape,E.output,E.size,bl,E.keep⟩,?_⟩
 ·rcases cl t v Y with⟨i,o,F,M,an⟩|⟨F,M⟩
  ·have a9:=(List.getElem?_eq_some_iff.1 F).1;rw[Array.length_toList]at a9;rw[Nat.zero_add]at an;exact⟨_,rfl,E.vals i o t v F (ad i a9) M an⟩
  ·obtain⟨v',c8,c9⟩:=ag.at_ t v M;refine⟨v',?_,c9.mono E.le⟩;have:=E.rest t λi o U _=>F i o U;unfold undef at this;rw[this];exact c8
 ·have Z:=stepR_region_draw (P:=P) (b:=b) (a:=a) (k:=k) (cs:=cs) (w:=w) (ops:=ops) (id:=id);rw[bu]at Z;have cf:Region.schedule true ops (w.tape w.drawn (.order b.fn id))=Region.linearise.go .any ops ops.size (w.tape w.drawn (.order b.fn id)) (Array.replicate ops.size false) []:=by
   simp[Region.schedule,Region.linearise]
  rw[cf]at Z;exact(Steps.one Z).trans (ch.trans (.one stepR_region_end))
def Yn (P:Program)(k:Nat)(f:FuncId)(h:Tr AO):Option Rs:=Ny P f [] .normal λA=>Vy P (opF P) (drA P) k ⟨A,[],⟨h,32⟩⟩
def Aj (r:Option Rs):Bool:=match r with
 |some (.bool true,_)=>true
 |_=>false
def mp0 (g:Nat):Mp:=λk=>if k=1 then some ⟨g,0,some 0⟩ else if k<64/\k%2=0 then some ⟨k/2,0,none⟩ else none
theorem EP {f:FuncId}{h:Tr AO}(E:Aj (Yn P k f h)=true){g:Nat}(ad:g <=w.heap.size)(G:∀j ao,h.get j=some ao->j<64/\j%2=0/\j/2<g/\∃o,w.heap[j/2]? =some o/\OR (mp0 g) ⟨j/2,0,none⟩ ao o):
 Calls P f #[] w λe w'=>e=.returned (.bool true)/\Below w.heap.size w w':=by
 cases M:Yn P k f h with
 |none=>rw[M]at E;cases E
 |some r=>
  rw[M]at E;obtain⟨v,st⟩:=r;have an:v=.bool true:=by
   unfold Aj at E;split at E
   ·rename_i e;cases e;rfl
   ·cases E
  subst an;have H:∀j,j<64->j%2=0->mp0 g j=some ⟨j/2,0,none⟩:=λj h1 D=>by
   unfold mp0;rw[if_neg (by omega),if_pos ⟨h1,D⟩]
  have aj:Sim (mp0 g) ⟨h,32⟩ w.heap:=by
   refine⟨λj ao y=>?_,λj U p p' y af e O ac=>?_,λj y=>?_,λj p hp=>?_,⟨Nat.le_refl _,_,if_pos rfl,ad,λj p y hp=>?_⟩,λq a0=>?_⟩
   ·obtain⟨h1,D,I,o,R,J⟩:=G j ao y;exact⟨_,o,H j h1 D,R,J⟩
   ·obtain⟨ao,F⟩:=Option.isSome_iff_exists.1 y;obtain⟨V,aa⟩:=Option.isSome_iff_exists.1 af;obtain⟨h1,D,_⟩:=G j ao F;obtain⟨Y,Z,_⟩:=G U V aa;rw[H j h1 D]at e;cases e;rw[H U Y Z]at O;cases O;simp only at ac;omega
   ·have y:64 <=j:=y;unfold mp0;rw[if_neg (by omega),if_neg (by omega)]
   ·unfold mp0 at hp;split at hp
    ·rename_i e;cases hp;subst e;exact⟨rfl,rfl⟩
    ·split at hp
     ·rename_i e;cases hp;exact⟨by rw[e.2];rfl,rfl⟩
     ·cases hp
   ·obtain⟨ao,F⟩:=Option.isSome_iff_exists.1 y;obtain⟨h1,D,I,_⟩:=G j ao F;rw[H j h1 D]at hp;cases hp;exact⟨λ_=>I,λh=>by omega⟩
   ·rw[H _ (by omega) (by omega),show 2*q/2=q by omega]
  have ag:∀b,Own (mp0 g) ⟨h,32⟩ b->w.heap.size <=b:=by
   rintro b ⟨j,p,av,y,hp,_⟩;obtain⟨ao,F⟩:=Option.isSome_iff_exists.1 y;have:=(G j ao F).1;omega
  have:=HY (IX P) (Oy P) (args:=[]) (args':=[]) M (m:=mp0 g) (w:=w) .nil aj;refine Calls.mono this λe w' ⟨a8,v',h1,D,I,R,J⟩=>⟨?_,J.below ag (Nat.le_refl _)⟩
  rw[h1,VR.eq rfl I]
theorem VRL.flats (m:Mp):∀l:List Value,(∀v∈l,flat v=true)->VRL m l l
 |[],_=>.nil
 |v::l,h=>.cons (.same (h v List.mem_cons_self)) (VRL.flats m l λx y=>h x (List.mem_cons_of_mem _ y))
end
end Go.Pe
namespace Go.Pk
open Go.RowKit (Below)
open Go.Proofs
open Go.Pk (Ret)
open Go.Pe (Tr AO BJ Aj Yn EP mp0 VRL CR)
def XM:List Value:=Lib.pow10Tab.map λz=>.int .u64 z
noncomputable def ZP:Tr AO:=Tr.put (some (.cells (BJ XM .nil 0) 20 0 nl 1)) 14 .nil (2*3)
theorem NR:Aj (Yn prog 100000 ir ZP)=true:=by kernel_rfl
def V0 (w:World):Prop:=w.heap[3]? =some (.cells XM.toArray nl)
theorem V0.below {w w':World}(h:V0 w)(y:bW w w'):V0 w':=(y.block _ (Array.getElem?_eq_some_iff.1 (show w.heap[3]? =_ from h)).1).trans h
theorem qak (h:w.ShapedOpen prog)(y:Lib.TabIs prog w "internal/strconv.uint64pow10" .u64 Lib.pow10Tab):V0 w:=by
 obtain⟨cs,D,_⟩:=h.1 3 (Array.replicate 20 (.int .u64 0)) nl (of_decide_eq_true (by kernel_rfl)) (by kernel_rfl);have y:(w.var? prog "internal/strconv.uint64pow10")=some XM.toArray:=y;unfold World.var? at y;have E:prog.globalNamed "internal/strconv.uint64pow10" =some 3:=by kernel_rfl
 rw[E,Option.bind_some,D]at y;have y:some cs=some XM.toArray:=y;cases y;exact D
theorem Kq (w:World)(h:V0 w):Cf ir #[] w (Ret λv w'=>v=.bool true/\bW w w'):=by
 have E:=(Array.getElem?_eq_some_iff.1 (show w.heap[3]? =_ from h)).1;refine Calls.mono (EP NR (g:=3+1) (w:=w) E λj ao y=>?_) λe w' ⟨h1,D⟩=>⟨_,h1,rfl,D⟩
 unfold ZP at y;rw[Tr.get_put _ _ _ _ (by decide)]at y;split at y
 ·rename_i e;subst e;cases y;refine⟨by decide,by decide,by decide,_,h,_,0,0,rfl,?_,λi _ _ _ c=>Nat.not_lt_zero _ c.2,λr F=>(by cases F),λ_=>by kernel_rfl⟩;have:=CR.ofList (n:=20) (VRL.flats (mp0 (3+1)) XM (by decide)) (by decide) (by decide) [];rw[append_nil]at this;exact this
 ·cases y
theorem Hy (a b c:lU)(w:World)(D:Env w)(y:V0 w):Cf jU #[.agg #[vS a,vS b,vS c]] w (Ret λv w'=>v=.bool true/\bW w w'):=
 De a b c w D λu E=>Kq u (y.below E)
section
open Go.ChangeShapes Go.WideShapes
theorem OJ {enc:TypeId×Value->Q}{fuel:Nat}{t:TypeId}{D:Array Field}{cs:List Value}{x:DataW Q×List MemPlace}(J:P.underlying t=some (.struct D))
 (h:DataW.trod enc P w 0 (λ_=>true) true fuel t cs=some x):
 ∃n,cs.length=P.cellsOf t/\∀(i:Nat) (u:TypeId) (o k:Nat),(∃f:Field,D[i]? =some f/\f.type=u/\f.offset=o)->P.cellsOf u=k->∃y,DataW.trod enc P w 0 (λ_=>true) true n u ((cs.drop o).take k)=some y:=by
 obtain⟨xs,n,_,_,G,H,F⟩:=DataW.trod_struct J h;refine⟨n,G,?_⟩;rintro i _ _ _ ⟨f,E,rfl,rfl⟩ rfl;have I:i<xs.length:=by rw[H];exact(Array.getElem?_eq_some_iff.1 E).1
 exact⟨xs[i],by rw[F i f E,List.getElem?_eq_getElem I]⟩
theorem Qp (cs:List Q)(a b:Nat):cs.drop a=(cs.drop a).take b++cs.drop (a+b):=by
 rw[<- List.drop_drop,List.take_append_drop]
theorem VC (cs:List Q)(n:Nat)(h:cs.length=n):cs.drop n=[]:=List.drop_of_length_le (by omega)
end
structure Fls where
 a:lU
 b:lU
 c:lU
def Fls.cells (u:Fls):List Value:=[vS u.a,vS u.b,vS u.c]
section
open Go.ChangeShapes Go.WideShapes
theorem Km {enc:TypeId×Value->Q}{fuel:Nat}{cs:List Value}{x:DataW Q×List MemPlace}(h:DataW.trod enc prog w 0 (λ_=>true) true fuel ci cs=some x):∃u:Fls,cs=u.cells:=by
 obtain⟨n,M,y⟩:=OJ Tryz.underlying39 h;have O:cs.length=3:=M.trans (by kernel_rfl);obtain⟨Y,I⟩:=y 0 ai 0 1 ⟨_,rfl,rfl,rfl⟩ (by kernel_rfl);obtain⟨Z,h1⟩:=y 1 ai 1 1 ⟨_,rfl,rfl,rfl⟩ (by kernel_rfl);obtain⟨aa,J⟩:=y 2 ai 2 1 ⟨_,rfl,rfl,rfl⟩ (by kernel_rfl);obtain⟨R,F,_⟩:=BG aI Q enc w n _ _ I;obtain⟨U,G,_⟩:=BG aI Q enc w n _ _ h1;obtain⟨V,H,_⟩:=BG aI Q enc w n _ _ J;refine⟨⟨R,U,V⟩,?_⟩;have s0:=Qp cs 0 1;have D:=Qp cs 1 1;have E:=Qp cs 2 1;rw[F,List.drop_zero]at s0;rw[G]at D;rw[H,VC cs (2+1) O,append_nil]at E;rw[s0,D,E];rfl
end
end Go.Pk
