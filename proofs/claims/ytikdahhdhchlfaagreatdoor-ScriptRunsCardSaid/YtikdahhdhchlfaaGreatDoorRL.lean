/- What the laws lean on: HdrG, HdrH, DateU, DateV, DateX, HdrI, HdrJ, HdrN, AdmA, AdmB, AdmC, ShS; what is used. Its conditions: none. -/
import Derived.Test.YtikdahhdhchlfaaGreatDoorRK
set_option linter.unusedVariables false
set_option linter.unusedSimpArgs false
set_option linter.unusedSectionVars false
set_option maxRecDepth 100000
open List (append_assoc append_nil cons_append dropWhile_cons foldl_append foldl_cons length length_append length_cons length_map length_nil length_take map_append mem_cons_of_mem mem_cons_self mem_singleton nil_append)
variable {n m i j k:Nat}{s r:List UInt8}{w:Go.World}{a:Int}{t:Go.TypeId}{c:Go.Pk.Cky}{L:List Go.Pk.Kpt}
open Go.IntKind (i64)
open Go.Proofs.Tryz
namespace Go.Pk
open Go.RowKit (Below)
open Go.Proofs
def wI (s:lU):lU:=if trimB s=s/\s.head?≠some 46 then s else 46::s
def pE:lU:=[69,120,112,105,114,101,115,61]
def pA:lU:=[77,97,120,45,65,103,101,61]
def pD:lU:=[68,111,109,97,105,110,61]
def pP:lU:=[80,97,116,104,61]
def pS:lU:=[83,101,99,117,114,101]
def pH:lU:=[72,116,116,112,79,110,108,121]
def pM:lU:=[83,97,109,101,83,105,116,101,61]
def opt (b:Bool)(x:lU):List lU:=if b then[x]else[]
noncomputable def tV (h:Hdr):List lU:=
 [h.name++[61]++h.value]++opt h.hasE (pE++iY h.exp)++opt h.hasA (pA++Lib.itoa h.age)++opt (!(h.domain==[])) (pD++wI h.domain)++opt (!(h.path==[])) (pP++h.path)++opt h.sec pS++opt h.http pH++
  opt (decide (0<h.same)&&decide (h.same <=3)) (pM++nmL[h.same.toNat]?.getD [])
noncomputable def eh (h:Hdr):lU:=Lib.join (tV h) [59,32]
structure Du (h:Hdr):Prop where
 name:h.name.length <=20000
 value:h.value.length <=20000
 domain:h.domain.length <=20000
 path:h.path.length <=20000
 exp: -9223372036854775808 <=h.exp/\h.exp <=9223372036854775807
 age: -9223372036854775808 <=h.age/\h.age <=9223372036854775807
theorem Jg (s:lU):(wI s).length <=s.length+1:=by unfold wI;split<;>simp
theorem yJ (t:Int):(iY t).length <=29:=by
 by_cases H:t/86400 < -134774\/2932896<t/86400
 ·rw[AF H];simp
 ·obtain⟨y,m,d,e,G⟩:=Q8 (n:=t/86400) (by omega) (by omega);rw[Dk e G];have h1:∀k:Nat,k<7->(tQ (k:Int)).length=3:=by decide
  have E:∀k:Nat,k<12->(GJ ((k:Int)+1)).length=3:=by decide
  have q:=h1 (t/86400%7).toNat (by omega);have D:=E (m-1).toNat (by have:=e.2.2.1;have:=e.2.2.2.1;omega);rw[show(((t/86400%7).toNat:Nat):Int)=t/86400%7 by omega]at q;rw[show(((m-1).toNat:Nat):Int)+1=m by have:=e.2.2.1;omega]at D;unfold AE mr;simp only[length_append,bD,q,D,length_cons,length_nil];omega
def PY (h g:Hdr):Bool:=(h.name==g.name)&&((h.value==g.value)&&((h.domain==g.domain)&&((h.path==g.path)&&((h.hasE==g.hasE)&&((h.exp==g.exp)&&((h.hasA==g.hasA)&&((h.age==g.age)&&((h.sec==g.sec)&&((h.http==g.http)&&((h.same==g.same)&&true))))))))))
theorem xX (h g:Hdr):PY h g=true↔h=g:=by
 unfold PY;simp only[Bool.and_eq_true,beq_iff_eq,and_true];constructor
 ·rintro⟨h1,h2,h3,h4,h5,h6,h7,h8,h9,h10,h11⟩;cases h;cases g;simp_all
 ·rintro rfl;simp
structure Gk (w0:World)(tl ts th:TypeId)(k1 k3:Nat)(h:Hdr)(xs:List lU)(w:World):Prop where
 slot:∃a l c,au w k3 tl [.slice a l c]/\Ow tS ts w NoB a l c xs/\bU w0.heap.size a/\∀g,eP a=some g->g≠k3/\g≠k1
 hdr:au w k1 th h.cells
 hb:bW w0 w
 hk1:w0.heap.size <=k1
 hk3:w0.heap.size <=k3
 hne:k1≠k3
theorem Gk.below {w0:World}{D E q:TypeId}{h:Hdr}{xs:List lU}{w w':World}(S:Gk w0 D E q n m h xs w)(e:bW w w'):Gk w0 D E q n m h xs w':=by
 obtain⟨a,l,c,h1,G,H,I⟩:=S.slot;exact⟨⟨a,l,c,h1.below e,G.below e,H,I⟩,S.hdr.below e,ae S.hb e S.hb.size,S.hk1,S.hk3,S.hne⟩
theorem Gk.get {P:Program}{u:TypeId}{d:TypeDesc}(q:P.underlying u=some d)(e:CX d=false){w0:World}{G H E:TypeId}{h:Hdr}{xs:List lU}(S:Gk w0 G H E n m h xs w)
 {v:Value} (D:h.cells[i]? =some v):(Instr.loadAt u (.pointer (some ⟨n,i,none⟩))).run P w=.ok v w:=S.hdr.load1 q e D
abbrev MQ (w0:World)(k1 k3:Nat)(h:Hdr)(xs:List lU)(w:World):Prop:=Gk w0 aO ak aq k1 k3 h xs w
theorem fN {w0:World}{h:Hdr}{xs:List lU}(S:MQ w0 n m h xs w)(b0:xs.length <=1000)(b:Bool)(s:lU):
 Cf bn #[.bool b,vS s,.pointer (some ⟨m,0,none⟩)] w (Ret λv w'=>v=.tuple #[]/\MQ w0 n m h (xs++opt b s) w'):=by
 apply sF;refine af.of (λU=>?_) (λU=>?_)
 ·subst U;obtain⟨a,l,c,h1,aj,M,O⟩:=S.slot;refine⟨a,l,c,h1.load1 dW rfl rfl,?_⟩;intro bc ad ar ac;have D:=(ac▸ao w _:bW w ad)
  have a9:Src tS ad NoB (some ⟨bc,0,none⟩) 1 [s]:=Src.new1F (ec _) ar ac (gB trivial);obtain⟨bj,G,X,I,a8,a0,H,Z⟩:=eU (ty:=aO) dW cK (by decide) (aj.below D) (λ_ _ h=>h) (cm:=1) a9 (by simp;omega);have bq:=S.hdr.lt;have bs:=h1.lt;have ag:=(h1.below D).grown H (λe=>(O m e.symm).1 rfl);have an:=(S.hdr.below D).grown H (λe=>(O n e.symm).2 rfl);have E:=ae S.hb D S.hb.size;have Y:∀g,eP G=some g->g≠m/\g≠n:=λg q=>by
   rcases Z g q with e|e
   ·exact O g e
   ·have:=D.size;exact⟨by omega,by omega⟩
  refine⟨bj,G,X,I,a8,?_⟩;obtain⟨bk,bb,al,V⟩:=ag.put (P:=prog) Bc (i:=0) (v:=.slice G X I) (by simp) rfl rfl;refine⟨bk,bb,rfl,⟨G,X,I,al,a0.keep (eD V λg q e=>?_),?_,Y⟩,an.grown V (λe=>S.hne (Option.some.inj e)),(E.grown H E.size M).grown V ?_ ?_,S.hk1,S.hk3,S.hne⟩
  ·rcases q with q|q
   ·exact q
   ·exact(Y g q.symm).1 (Option.some.inj e)
  ·exact M.app E.size Z
  ·exact(E.grown H E.size M).size
  ·intro x e;cases e;exact S.hk3
 ·subst U;refine⟨rfl,?_⟩;show MQ w0 n m h (xs++[]) w;rw[append_nil];exact S
theorem BZ (s:lU)(I:s.length <=1000000)(w:World):Cf gU #[vS s] w (Ret λv w'=>v=vS (wI s)/\bW w w'):=by
 apply Ao;refine aA (lY s (by omega) w) ?_;rintro _ H ⟨rfl,q⟩;refine⟨_,rfl,?_⟩;refine af.of (λh=>?_) (λh=>?_)
 ·refine⟨fits (by simp;omega),?_⟩;rintro _ rfl;refine⟨?_,q⟩;unfold wI;rw[if_neg (λD=>by rw[D.1]at h;simp at h)];rfl
 ·have G:trimB s=s:=by simpa using h
  refine(Tryz.strings_HasPrefix (mkS s) (mkS [46]) H).mono ?_;rintro _ _ ⟨rfl,rfl⟩;have E:Lib.hasPrefix (mkS s).data.toList (mkS [46]).data.toList=decide (s.head?=some 46):=(ym s 46).1;rw[E];refine⟨_,rfl,?_⟩;refine af.of (λe=>?_) (λe=>?_)<;>simp only[dTx,dFx]at e
  ·refine⟨fits (by simp;omega),?_⟩;rintro _ rfl;refine⟨?_,q⟩;unfold wI;rw[if_neg (λD=>D.2 e)];rfl
  ·refine⟨?_,q⟩;unfold wI;rw[if_pos ⟨G,e⟩]
theorem Nm (n:Int)(e: -9223372036854775808 <=n)(h1:n <=9223372036854775807)(w:World)(q:PC prog w):Cf eI #[vI n,vI 10] w (Ret λv w'=>v=vS (Lib.itoa n)/\bW w w'):=by
 apply sK;refine(Tryz.internal_strconv_FormatInt_10 n e h1 w q).mono ?_;rintro _ _ ⟨rfl,k,D,rfl⟩;exact⟨Lib.itoa n,rfl,rfl,wG w k D⟩
theorem El (xs:List lU){w0:World}{h:Hdr}(S:MQ w0 n m h xs w)(e:xs.length <=1000)(ag:(Lib.join xs [59,32]).length <=1000000)(K:Value->World->Prop)(G:∀w',bW w0 w'->K (vS (Lib.join xs [59,32])) w'):
 ∃(a:Option Addr) (l c:Nat),(Instr.loadAt aO (.pointer (some ⟨m,0,none⟩))).run prog w=.ok (.slice a l c) w/\
  Cf dq #[.slice a l c,vS [59,32]] w λq w'=>∃(s:lU),q=.returned (vS s)/\K (vS s) w':=by
 obtain⟨a,l,c,h1,M,_,_⟩:=S.slot;refine⟨a,l,c,h1.load1 dW rfl rfl,?_⟩;obtain⟨Z,ac,ad,E⟩:=M.all;subst Z;rcases E with E|⟨b,off,rfl,U,_,cs,X,V⟩
 ·subst E;refine(Tryz.strings_Join_none a c (mkS [59,32]) w).mono ?_;rintro _ _ ⟨rfl,rfl⟩;exact⟨[],rfl,G _ S.hb⟩
 ·have H:=j0 X;have I:=Tryz.strings_Join b off c (xs.map mkS) (mkS [59,32]) w (λj x e=>by
   rw[List.getElem?_map]at e;cases D:xs[j]? with
   |none=>rw[D]at e;cases e
   |some y=>
    rw[D]at e;cases e;have Y:=(List.getElem?_eq_some_iff.1 D).1;rw[V j (by rw[H];simpa using Y),H,List.getElem?_map,D];rfl) U (by rw[length_map];omega) (by rw[length_map];exact ac) (by
    have q:(xs.map mkS).map (λs=>s.data.toList)=xs:=by rw[List.map_map];exact List.map_id xs
    rw[q];show(Lib.join xs [59,32]).length <=_;omega)
  rw[length_map]at I;refine I.mono ?_;rintro _ w' ⟨rfl,O⟩;have q:(xs.map mkS).map (λs=>s.data.toList)=xs:=by rw[List.map_map];exact List.map_id xs
  rw[q];exact⟨_,rfl,G _ (ae S.hb O S.hb.size)⟩
theorem UO (xs:List lU)(e:Nat)(h:∀x∈xs,x.length <=e):(Lib.join xs [59,32]).length <=xs.length*(e+2):=by
 cases xs with
 |nil=>simp[Lib.join_nil]
 |cons x r=>
  rw[Lib.join_cons];have:∀r:List lU,(∀x∈r,x.length <=e)->(Lib.joinTail [59,32] r).length <=r.length*(e+2):=by
   intro r;induction r with
   |nil=>intro _;simp[Lib.joinTail]
   |cons y r I=>
    intro q;have h1:=I λx G=>q x (mem_cons_of_mem _ G);have E:=q y mem_cons_self;have D:Lib.joinTail [59,32] (y::r)=[59,32]++y++Lib.joinTail [59,32] r:=by simp[Lib.joinTail]
    rw[D];simp only[length_append,length_cons,length_nil,Nat.add_mul];omega
  have h1:=this r λy H=>h y (mem_cons_of_mem _ H);have E:=h x mem_cons_self;simp only[length_append,length_cons,Nat.add_mul];omega
theorem Tb (b:Bool)(x:lU):(opt b x).length <=1:=by unfold opt;split<;>simp
theorem xi {b:Bool}{x y:lU}(h:y∈opt b x):y=x:=by unfold opt at h;split at h<;>simp_all
theorem ZK (h:Hdr)(D:Du h):(Lib.join (tV h) [59,32]).length <=1000000:=by
 have M:=D.name;have O:=D.value;have U:=D.domain;have V:=D.path;have Y:=yJ h.exp;have X:=Lib.itoa_length_le h.age D.age.1 D.age.2;have H:=Jg h.domain;have q:=Tb;have h1:(tV h).length <=8:=by
  unfold tV;simp only[length_append];exact Nat.add_le_add (Nat.add_le_add (Nat.add_le_add (Nat.add_le_add (Nat.add_le_add (Nat.add_le_add (Nat.add_le_add (Nat.le_refl 1) (q _ _)) (q _ _)) (q _ _)) (q _ _)) (q _ _)) (q _ _)) (q _ _)
 have I:=UO (tV h) 41000 λx e=>by
  unfold tV at e;simp only[List.mem_append]at e;rcases e with((((((e|e)|e)|e)|e)|e)|e)|e
  ·rw[List.mem_singleton.1 e];simp;omega
  ·rw[xi e];simp[pE];omega
  ·rw[xi e];simp[pA];omega
  ·rw[xi e];simp[pD];omega
  ·rw[xi e];simp[pP];omega
  ·rw[xi e];simp[pS]
  ·rw[xi e];simp[pH]
  ·rw[xi e];have G:∀k:Nat,(nmL[k]?.getD []).length <=6:=λk=>by
    by_cases E:k<4
    ·have:∀k:Nat,k<4->(nmL[k]?.getD []).length <=6:=by decide
     exact this k E
    ·rw[List.getElem?_eq_none (by simp[nmL];omega)];simp
   have:=G h.same.toNat;simp only[length_append];simp only[pM,length_cons,length_nil];omega
 have:(tV h).length*(41000+2) <=8*(41000+2):=Nat.mul_le_mul_right _ h1;omega
theorem Ab (h:Hdr)(G:Du h)(w:World)(c3:Env w):Cf kX #[h.v] w (Ret λv w'=>v=vS (eh h)/\bW w w'):=by
 refine yx h.name h.value h.domain h.path h.hasE h.exp h.hasA h.age h.sec h.http h.same ?_;have dn:=G.name;have dp:=G.value;have dr:=G.domain;have ds:=G.path;intro q V c4 bc;have ag:=(bc▸ao w _:bW w V)
 have bb:au V q aq h.cells:=au.new c4 bc;refine⟨rfl,_,bb.load1 ax rfl rfl,fits (by simp;omega),?_⟩;rintro _ rfl;refine⟨rfl,_,bb.load1 ax rfl rfl,fits (by simp;omega),?_⟩;rintro _ rfl;intro k11 al c5 bj D c1 c6 cb;have a0:=(bj▸ao V _:bW V al)
 have a8:=(cb▸ao al _:bW al c1)
 have ct:Ow tS ak al NoB (some ⟨k11,0,none⟩) 1 1 [h.name++[61]++h.value]:=Ow.newF (l:=[_]) (ec _) c5 bj (gy.one (gB trivial)) (show 1 <=maxLen by decide);have ck:au c1 D aO [.slice none 0 0]:=au.new c6 cb;have dw:V.heap.size=w.heap.size+1:=by rw[bc];simp
 have dx:al.heap.size=V.heap.size+1:=by rw[bj];simp
 obtain⟨wx,cu,cl,a9⟩:=ck.put (P:=prog) Bc (i:=0) (v:=.slice (some ⟨k11,0,none⟩) 1 1) (by simp) rfl rfl;refine⟨wx,cu,?_⟩;have b8:=ae (ae ag a0 ag.size) a8 (ae ag a0 ag.size).size;have S0:MQ w q D h [h.name++[61]++h.value] wx:=by
  refine⟨⟨_,_,_,cl,(ct.below a8).keep (eD a9 λg I ad=>?_),λg I=>?_,λg I=>?_⟩,((bb.below a0).below a8).grown a9 (λad=>by cases ad;omega),b8.grown a9 b8.size (λx ad=>by cases ad;omega),by omega,by omega,by omega⟩
  ·rcases I with I|I
   ·exact I
   ·have cp:g=k11:=by simpa[eP]using I
    cases ad;omega
  ·have cp:g=k11:=by simpa[eP]using I.symm
   omega
  ·have cp:g=k11:=by simpa[eP]using I.symm
   exact⟨by omega,by omega⟩
 have c0:∀{u:World} {xs:List lU},MQ w q D h xs u->PC prog u:=λS=>(c3.step S.hb).tab;have ca:true=true:=rfl;clear cl a9 cu ck ct bb b8 a8 a0 ag cb bj bc;have O:=Tb;have d3:=yJ h.exp;have d0:=Lib.itoa_length_le h.age G.age.1 G.age.2;have dk:=Jg h.domain;obtain⟨cc,b1⟩:∃x,x=[h.name++[61]++h.value]:=⟨_,rfl⟩
 rw[<- b1]at S0;have c8:cc.length <=1:=by rw[b1];simp
 refine eC (λw'=>MQ w q D h (cc++opt h.hasE (pE++iY h.exp)) w') ?_ ?_
 ·have U:=S0.below (cy _)
  repeat' (first
   |exact ca
   |refine Exists.intro _ (And.intro (Gk.get bK rfl (by assumption) rfl) ?_)
   |refine Exists.intro _ (And.intro (Gk.get bB rfl (by assumption) rfl) ?_)
   |(refine aA (Lb _ G.exp.1 G.exp.2 _ (c0 (by assumption))) ?_;rintro _ u ⟨rfl,H⟩;have e:=Gk.below (by assumption) H;refine Exists.intro _ (And.intro rfl ?_);refine And.intro (fits (by simp only[length_cons,length_nil];omega)) ?_;rintro _ rfl)
   |(refine aA (fN (by assumption) (by omega) _ _) ?_;rintro _ u ⟨rfl,e⟩;exact And.intro rfl e)
   |refine And.intro ?_ ?_)
 intro d4 bq;clear S0;obtain⟨ce,b2⟩:∃x,x=cc++opt h.hasE (pE++iY h.exp):=⟨_,rfl⟩
 have c9:ce.length <=2:=by rw[b2,length_append];exact Nat.add_le_add c8 (O _ _)
 rw[<- b2]at bq;refine eC (λw'=>MQ w q D h (ce++opt h.hasA (pA++Lib.itoa h.age)) w') ?_ ?_
 ·have U:=bq.below (cy _)
  repeat' (first
   |exact ca
   |refine Exists.intro _ (And.intro (Gk.get bK rfl (by assumption) rfl) ?_)
   |refine Exists.intro _ (And.intro (Gk.get bB rfl (by assumption) rfl) ?_)
   |(refine aA (Nm _ G.age.1 G.age.2 _ (c0 (by assumption))) ?_;rintro _ u ⟨rfl,H⟩;have e:=Gk.below (by assumption) H;refine Exists.intro _ (And.intro rfl ?_);refine And.intro (fits (by simp only[length_cons,length_nil];omega)) ?_;rintro _ rfl)
   |(refine aA (fN (by assumption) (by omega) _ _) ?_;rintro _ u ⟨rfl,e⟩;exact And.intro rfl e)
   |refine And.intro ?_ ?_)
 intro d5 bs;clear bq;obtain⟨cf,b3⟩:∃x,x=ce++opt h.hasA (pA++Lib.itoa h.age):=⟨_,rfl⟩
 have da:cf.length <=3:=by rw[b3,length_append];exact Nat.add_le_add c9 (O _ _)
 rw[<- b3]at bs;refine eC (λw'=>MQ w q D h (cf++opt (!(h.domain==[])) (pD++wI h.domain)) w') ?_ ?_
 ·have U:=bs.below (cy _)
  repeat' (first
   |exact ca
   |refine Exists.intro _ (And.intro (Gk.get ax rfl (by assumption) rfl) ?_)
   |(refine aA (BZ _ (by omega) _) ?_;rintro _ u ⟨rfl,H⟩;have e:=Gk.below (by assumption) H;refine Exists.intro _ (And.intro rfl ?_);refine And.intro (fits (by simp only[length_cons,length_nil];omega)) ?_;rintro _ rfl)
   |(refine aA (fN (by assumption) (by omega) _ _) ?_;rintro _ u ⟨rfl,e⟩;exact And.intro rfl e)
   |refine And.intro ?_ ?_)
 intro d6 X;clear bs;obtain⟨c2,b4⟩:∃x,x=cf++opt (!(h.domain==[])) (pD++wI h.domain):=⟨_,rfl⟩
 have dc:c2.length <=4:=by rw[b4,length_append];exact Nat.add_le_add da (O _ _)
 rw[<- b4]at X;refine⟨rfl,_,Gk.get ax rfl X rfl,?_⟩;refine⟨rfl,_,Gk.get ax rfl X rfl,fits (by simp only[length_cons,length_nil];omega),?_⟩;rintro _ rfl;refine aA (fN X (by omega) _ _) ?_;rintro _ w7 ⟨rfl,Y⟩;refine⟨rfl,?_⟩;obtain⟨ch,b5⟩:∃x,x=c2++opt (!(h.path==[])) (pP++h.path):=⟨_,rfl⟩
 have dd:ch.length <=5:=by rw[b5,length_append];exact Nat.add_le_add dc (O _ _)
 replace Y:MQ w q D h ch w7:=by rw[b5];exact Y
 clear X;refine⟨rfl,_,Gk.get bK rfl Y rfl,?_⟩;refine aA (fN Y (by omega) _ _) ?_;rintro _ w8 ⟨rfl,Z⟩;refine⟨rfl,?_⟩;obtain⟨cj,b6⟩:∃x,x=ch++opt h.sec pS:=⟨_,rfl⟩
 have de:cj.length <=6:=by rw[b6,length_append];exact Nat.add_le_add dd (O _ _)
 replace Z:MQ w q D h cj w8:=by rw[b6];exact Z
 clear Y;refine⟨rfl,_,Gk.get bK rfl Z rfl,?_⟩;refine aA (fN Z (by omega) _ _) ?_;rintro _ w9 ⟨rfl,M⟩;refine⟨rfl,?_⟩;obtain⟨x6,b7⟩:∃x,x=cj++opt h.http pH:=⟨_,rfl⟩
 have dg:x6.length <=7:=by rw[b7,length_append];exact Nat.add_le_add de (O _ _)
 replace M:MQ w q D h x6 w9:=by rw[b7];exact M
 clear Z;obtain⟨x7,an⟩:∃x,x=x6++opt (decide (0<h.same)&&decide (h.same <=3)) (pM++nmL[h.same.toNat]?.getD []):=⟨_,rfl⟩
 have d1:x7.length <=8:=by rw[an,length_append];exact Nat.add_le_add dg (O _ _)
 have ar:tV h=x7:=by subst an;subst b7;subst b6;subst b5;subst b4;subst b3;subst b2;subst b1;rfl
 have b9:(Lib.join x7 [59,32]).length <=1000000:=by rw[<- ar];exact ZK h G
 refine rv (λb w'=>b=(decide (0<h.same)&&decide (h.same <=3))/\MQ w q D h x6 w') ?_ ?_
 ·refine⟨rfl,_,Gk.get bC rfl M rfl,?_⟩;refine af.of (λE=>?_) (λE=>?_)<;>simp only[dTx,dFx,gt_iff_lt]at E
  ·exact⟨rfl,_,Gk.get bC rfl M rfl,by rw[decide_eq_true E];rfl,M⟩
  ·exact⟨by rw[decide_eq_false E];rfl,M⟩
 rintro b w10 ⟨cn,S⟩;refine af.of (λE=>?_) (λE=>?_)
 ·rw[cn]at E;have dl:0<h.same/\h.same <=3:=by simpa using E
  have bk:x7=x6++opt true (pM++nmL[h.same.toNat]?.getD []):=by rw[an,E]
  have c7:((h.same.toNat:Nat):Int)=h.same:=by omega
  have cr:∀u,(Instr.index cX nmV (vI h.same)).run prog u=.ok (vS (nmL[h.same.toNat]?.getD [])) u:=λu=>by
   have:=OR u h.same.toNat (by omega)
   rwa [c7]at this
  have d2:(nmL[h.same.toNat]?.getD []).length <=6:=by
   have:∀k:Nat,k<4->(nmL[k]?.getD []).length <=6:=by decide
   exact this _ (by omega)
  have U:=S.below (cy _);clear M;refine⟨rfl,?_,?_⟩
  ·refine aA (mH _) ?_;rintro _ u ⟨rfl,H⟩;have e:=U.below H;refine⟨_,_,_,_,rfl,_,Gk.get bC rfl e rfl,_,cr u,fits (by simp only[length_cons,length_nil];omega),?_⟩;rintro _ rfl;refine aA (fN e (by omega) _ _) ?_;rintro _ u2 ⟨rfl,b0⟩;have ac:MQ w q D h x7 u2:=by rw[bk];exact b0
   refine⟨rfl,?_⟩;exact El x7 ac (by omega) b9 (λv w'=>v=vS (eh h)/\bW w w') λw' aj=>⟨by rw[eh,ar],aj⟩
  ·refine⟨_,Gk.get bC rfl U rfl,?_⟩;refine aA (mH _) ?_;rintro _ u ⟨rfl,H⟩;have e:=U.below H;refine⟨_,_,_,_,rfl,_,cr u,fits (by simp only[length_cons,length_nil];omega),?_⟩;rintro _ rfl;refine aA (fN e (by omega) _ _) ?_;rintro _ u2 ⟨rfl,b0⟩;have ac:MQ w q D h x7 u2:=by rw[bk];exact b0
   refine⟨rfl,?_⟩;exact El x7 ac (by omega) b9 (λv w'=>v=vS (eh h)/\bW w w') λw' aj=>⟨by rw[eh,ar],aj⟩
 ·rw[cn]at E;have bk:x7=x6:=by rw[an,E];exact append_nil _
  have ac:MQ w q D h x7 w10:=by rw[bk];exact S
  exact El x7 ac (by omega) b9 (λv w'=>v=vS (eh h)/\bW w w') λw' aj=>⟨by rw[eh,ar],aj⟩
noncomputable def nM (h:Hdr):Bool:=decide ((bI (eh h)).2=0)&&PY (bI (eh h)).1 h
theorem Jo (h:Hdr)(w:World){R:Nat->World->Prop}(E:∀k wx,k=w.heap.size->au wx k aq h.cells->bW w wx->R k wx):
 ∀(k:Nat) (e:World),k=w.heap.size->e=w.alloc (.cells #[vS [],vS [],vS [],vS [],.bool false,vI 0,.bool false,vI 0,.bool false,.bool false,vI 0] aq)->
  ∃(wx:World),(Instr.storeAt aq (.pointer (some ⟨k,0,none⟩)) h.v).run prog e=.ok () wx/\R k wx:=by
 intro k e q D;have hB:=(D▸ao w _:bW w e)
 obtain⟨wx,M,H,I⟩:=Eg h (au.new q D:au e k aq lS.cells) rfl;exact⟨wx,M,E k wx q H (hB.grown I hB.size λx G=>by cases G;omega)⟩
theorem xb (h:Hdr)(w:World){w1:World}(q:k=w.heap.size)(e:w1=w.alloc (.cells h.cells.toArray aq)):au w1 k aq h.cells/\bW w w1:=
 ⟨au.new q e,e▸ao w _⟩
theorem Rt (h g:Hdr):eqV prog 10000 aq h.v g.v=some (PY h g):=by kernel_rfl
theorem Lt:prog.eqGuardType prog.depth aq=false:=by kernel_rfl
theorem Yq (h g:Hdr){x y:Operand}(w:World):((do eqGuard .eql aq x y h.v g.v;binOp .eql aq h.v g.v:Sem Value)).run prog w=.ok (.bool (PY h g)) w:=
 Iw Lt (Rt h g) w
theorem Yr (h g:Hdr){x y:Operand}(w:World):((do eqGuard .neq aq x y h.v g.v;binOp .neq aq h.v g.v:Sem Value)).run prog w=.ok (.bool (!PY h g)) w:=
 VX Lt (Rt h g) w
theorem Eh (h:Hdr)(V:Du h)(w:World)(O:Env w):Cf nZ #[h.v] w (Ret λv w'=>v=.bool (nM h)/\bW w w'):=by
 refine Cr h.name h.value h.domain h.path h.hasE h.exp h.hasA h.age h.sec h.http h.same ?_;intro a0 aj ad ag;obtain⟨U,q⟩:=xb h w ad ag;refine⟨h.name,h.value,h.domain,h.path,h.hasE,h.exp,h.hasA,h.age,h.sec,h.http,h.same,fY h U,?_⟩;refine aA (Ab h V aj (O.step q)) ?_;rintro _ al ⟨rfl,H⟩;have D:=ae q H q.size;have Y:=U.below H;refine⟨_,rfl,?_⟩;refine aA (sd (eh h) (by have:=ZK h V;unfold eh;omega) al (O.step D)) ?_;rintro _ an ⟨rfl,I⟩;have E:=ae D I D.size;have Z:=Y.below I;refine⟨_,_,_,_,_,_,_,_,_,_,_,_,rfl,?_⟩;refine Jo (bI (eh h)).1 an λa8 a9 ar X M=>?_;have G:=ae E M E.size;have ac:=Z.below M;refine af.of (λe=>?_) (λe=>?_)
 ·rw[beq_iff_eq]at e;refine⟨_,_,_,_,_,_,_,_,_,_,_,fY _ X,_,_,_,_,_,_,_,_,_,_,_,fY _ ac,_,Yq _ _ _,?_,G⟩;rw[nM,decide_eq_true e];rfl
 ·rw[beq_eq_false_iff_ne]at e;refine⟨?_,G⟩;rw[nM,decide_eq_false e];rfl
theorem TU {k:Int}(e:0 <=k)(h1:k<7):Vw[k.toNat]'(by show k.toNat<7;omega)=tQ k:=by
 unfold tQ;rw[List.getElem?_eq_getElem (by show k.toNat<7;omega)];rfl
theorem SG {k:Int}(e:1 <=k)(h1:k <=12):U2[(k-1).toNat]'(by show(k-1).toNat<12;omega)=GJ k:=by
 unfold GJ;rw[List.getElem?_eq_getElem (by show(k-1).toNat<12;omega)];rfl
set_option maxHeartbeats 2000000 in
theorem J0 (t:Int)(bs: -9223372036854775808 <=t)(h1:t <=9223372036854775807)(w:World):Cf rQ #[vI t] w (Ret λv w'=>v=vS (iY t)/\bW w w'):=by
 apply Ht;obtain⟨G,H⟩:=yN (t:=t) (b:=86400) (by decide);refine⟨by decide,?_⟩;rintro _ rfl;refine UL (w:=w) (t%86400) ?_ ?_
 ·refine af.of (λh=>?_) (λh=>?_)<;>simp only[dTx,dFx]at h
  ·have b3:t<0:=by
    by_cases c:0 <=t
    ·have:=(G c).2;omega
    ·omega
   obtain⟨ad,O⟩:=H b3;rw[O]at h;rw[O,wrJ];exact⟨rfl,by omega⟩
  ·by_cases c:0 <=t
   ·rw[(G c).2];exact⟨rfl,rfl⟩
   ·obtain⟨ad,O⟩:=H (by omega);rw[O]at h ⊢;exact⟨rfl,by omega⟩
 refine⟨by decide,?_⟩;rintro _ rfl;refine UL (w:=w) (t/86400) ?_ ?_
 ·refine af.of (λh=>?_) (λh=>?_)<;>simp only[dTx,dFx]at h
  ·obtain⟨ad,O⟩:=H h;refine⟨by decide,?_⟩;rintro _ rfl;rw[ad,O,wrJ (n:= -(-t/86400))];refine af.of (λag=>?_) (λag=>?_)
   ·rw[bne_iff_ne]at ag;rw[wrJ];exact⟨rfl,by omega⟩
   ·have b7: -(-t%86400)=0:=by simpa using ag
    exact⟨rfl,by omega⟩
  ·rw[(G (by omega)).1,wrJ];exact⟨rfl,rfl⟩
 clear G H;refine aA (GT _ w (by omega)) ?_;rintro _ w ⟨rfl,rfl⟩;by_cases ar:t/86400 < -134774\/2932896<t/86400
 ·rw[oP ar];refine⟨_,_,_,_,rfl,af.yes rfl ⟨by rw[AF ar],Below.refl _ _⟩⟩
 obtain⟨y,m,d,aj,Y⟩:=Q8 (n:=t/86400) (by omega) (by omega);rw[Dk aj Y,<- Y,DN aj,Y];refine⟨y,m,d,true,rfl,af.no rfl ?_⟩;have b1:=aj;obtain⟨cc,ce,bc,bj,b8,b9⟩:=b1;have ca:=si y m;generalize b2:t/86400=n at*;generalize b4:t%86400=s at*;have E:0 <=s/\s<86400:=by omega
 have cb: -134774 <=n/\n <=2932896:=by omega
 clear bs h1 b2 b4 Y ar;obtain⟨G,H⟩:=yN (t:=n) (b:=7) (by decide);refine⟨by decide,?_⟩;rintro _ rfl;refine UL (w:=w) (n%7) ?_ ?_
 ·refine af.of (λh=>?_) (λh=>?_)<;>simp only[dTx,dFx]at h
  ·by_cases c:0 <=n
   ·rw[(G c).2]at h;omega
   ·rw[(H (by omega)).2]at h ⊢;rw[wrJ];exact⟨rfl,by omega⟩
  ·by_cases c:0 <=n
   ·rw[(G c).2];exact⟨rfl,rfl⟩
   ·rw[(H (by omega)).2]at h ⊢;exact⟨rfl,by omega⟩
 clear G H;have Z:0 <=n%7/\n%7<7:=by omega
 have q:=MN Z.1 Z.2;have e:=OY bc bj;have bb:∀{k:Nat} {M w2 w3:World},k=M.heap.size->w2=M.alloc (.cells #[vS [84,104,117],vS [70,114,105],vS [83,97,116],vS [83,117,110],vS [77,111,110],vS [84,117,101],vS [87,101,100]] ak)->
  bW w2 w3->(Instr.loadAt ak (.pointer (av (some ⟨k,0,none⟩) (n%7) 1))).run prog w3=.ok (vS (tQ (n%7))) w3:=by
  intro k M w2 w3 al a8 b0;have an:Ow tS ak w2 NoB (some ⟨k,0,none⟩) 7 7 Vw:=Ow.newF (l:=Vw.map λs=>vS s) (ec _) al a8 (nq λ_ _=>trivial) (by decide);obtain⟨v,X,a0⟩:=(an.below b0).all.load1 (i:=n%7) ax rfl rfl (by show _<7;omega);obtain⟨rfl,-⟩:=iX a0;rw[TU Z.1 Z.2]at X;exact X
 have a9:∀{k:Nat} {M w2:World},k=M.heap.size->w2=M.alloc (.cells #[vS [74,97,110],vS [70,101,98],vS [77,97,114],vS [65,112,114],vS [77,97,121],vS [74,117,110],vS [74,117,108],vS [65,117,103],vS [83,101,112],vS [79,99,116],vS [78,111,118],vS [68,101,99]] ak)->
  (Instr.loadAt ak (.pointer (av (some ⟨k,0,none⟩) (m-1) 1))).run prog w2=.ok (vS (GJ m)) w2:=by
  intro k M w2 al a8;have an:Ow tS ak w2 NoB (some ⟨k,0,none⟩) 12 12 U2:=Ow.newF (l:=U2.map λs=>vS s) (ec _) al a8 (nq λ_ _=>trivial) (by decide);obtain⟨v,X,a0⟩:=an.all.load1 (i:=m-1) ax rfl rfl (by show _<12;omega);obtain⟨rfl,-⟩:=iX a0;rw[SG bc bj]at X;exact X
 have hB:=cy w;refine⟨?_,?_⟩
 ·intro b5 b6 ac U;replace hB:=ae hB (U▸ao _ _) hB.size;refine⟨⟨⟨by omega,by omega⟩,rfl⟩,?_,?_⟩
  ·
   refine⟨tQ (n%7),bb ac U (Below.refl _ _),?_⟩;refine⟨fits (by simp only[length_append,bD,q,e,length_cons,length_nil];omega),?_⟩;rintro _ rfl;refine aA (co d (by omega) (by omega) _) ?_;rintro _ w3 ⟨rfl,D⟩;replace hB:=ae hB D hB.size;refine⟨fy d,rfl,?_⟩;refine⟨fits (by simp only[length_append,bD,q,e,length_cons,length_nil];omega),?_⟩;rintro _ rfl;refine⟨fits (by simp only[length_append,bD,q,e,length_cons,length_nil];omega),?_⟩;rintro _ rfl;intro bk bq V I;replace hB:=ae hB (I▸ao _ _) hB.size;rw[wrJ (n:=m-1)];refine⟨⟨⟨by omega,by omega⟩,rfl⟩,GJ m,a9 V I,?_⟩;refine⟨fits (by simp only[length_append,bD,q,e,length_cons,length_nil];omega),?_⟩;rintro _ rfl;refine⟨fits (by simp only[length_append,bD,q,e,length_cons,length_nil];omega),?_⟩;rintro _ rfl;refine⟨by decide,?_⟩;rintro _ rfl;rw[cD (by omega),wrJ (n:=y/100)];refine aA (co (y/100) (by omega) (by omega) _) ?_;rintro _ w3 ⟨rfl,D⟩;replace hB:=ae hB D hB.size;refine⟨fy (y/100),rfl,?_⟩;refine⟨fits (by simp only[length_append,bD,q,e,length_cons,length_nil];omega),?_⟩;rintro _ rfl;refine⟨by decide,?_⟩;rintro _ rfl;rw[cY (a:=y) (by omega)];refine aA (co (y%100) (by omega) (by omega) _) ?_;rintro _ w3 ⟨rfl,D⟩;replace hB:=ae hB D hB.size;refine⟨fy (y%100),rfl,?_⟩;refine⟨fits (by simp only[length_append,bD,q,e,length_cons,length_nil];omega),?_⟩;rintro _ rfl;refine⟨fits (by simp only[length_append,bD,q,e,length_cons,length_nil];omega),?_⟩;rintro _ rfl;refine⟨by decide,?_⟩;rintro _ rfl;rw[cD E.1,wrJ (n:=s/3600)];refine aA (co (s/3600) (by omega) (by omega) _) ?_;rintro _ w3 ⟨rfl,D⟩;replace hB:=ae hB D hB.size;refine⟨fy (s/3600),rfl,?_⟩;refine⟨fits (by simp only[length_append,bD,q,e,length_cons,length_nil];omega),?_⟩;rintro _ rfl;refine⟨fits (by simp only[length_append,bD,q,e,length_cons,length_nil];omega),?_⟩;rintro _ rfl;refine⟨by decide,?_⟩;rintro _ rfl;refine⟨by decide,?_⟩;rintro _ rfl;rw[cD E.1,wrJ (n:=s/60),cY (a:=s/60) (by omega)];refine aA (co (s/60%60) (by omega) (by omega) _) ?_;rintro _ w3 ⟨rfl,D⟩;replace hB:=ae hB D hB.size;refine⟨fy (s/60%60),rfl,?_⟩;refine⟨fits (by simp only[length_append,bD,q,e,length_cons,length_nil];omega),?_⟩;rintro _ rfl;refine⟨fits (by simp only[length_append,bD,q,e,length_cons,length_nil];omega),?_⟩;rintro _ rfl;refine⟨by decide,?_⟩;rintro _ rfl;rw[cY (a:=s) E.1];refine aA (co (s%60) (by omega) (by omega) _) ?_;rintro _ w3 ⟨rfl,D⟩;replace hB:=ae hB D hB.size;refine⟨fy (s%60),rfl,?_⟩;refine⟨fits (by simp only[length_append,bD,q,e,length_cons,length_nil];omega),?_⟩;rintro _ rfl;refine⟨fits (by simp only[length_append,bD,q,e,length_cons,length_nil];omega),?_⟩;rintro _ rfl;refine⟨?_,hB⟩;congr 2;simp[AE,mr,append_assoc]
  ·
   refine aA (co d (by omega) (by omega) _) ?_;rintro _ w3 ⟨rfl,D⟩;replace hB:=ae hB D hB.size;refine⟨fy d,rfl,?_⟩;refine⟨tQ (n%7),bb ac U D,?_⟩;refine⟨fits (by simp only[length_append,bD,q,e,length_cons,length_nil];omega),?_⟩;rintro _ rfl;refine⟨fits (by simp only[length_append,bD,q,e,length_cons,length_nil];omega),?_⟩;rintro _ rfl;refine⟨fits (by simp only[length_append,bD,q,e,length_cons,length_nil];omega),?_⟩;rintro _ rfl;intro bk bq V I;replace hB:=ae hB (I▸ao _ _) hB.size;rw[wrJ (n:=m-1)];refine⟨⟨⟨by omega,by omega⟩,rfl⟩,GJ m,a9 V I,?_⟩;refine⟨fits (by simp only[length_append,bD,q,e,length_cons,length_nil];omega),?_⟩;rintro _ rfl;refine⟨fits (by simp only[length_append,bD,q,e,length_cons,length_nil];omega),?_⟩;rintro _ rfl;refine⟨by decide,?_⟩;rintro _ rfl;rw[cD (by omega),wrJ (n:=y/100)];refine aA (co (y/100) (by omega) (by omega) _) ?_;rintro _ w3 ⟨rfl,D⟩;replace hB:=ae hB D hB.size;refine⟨fy (y/100),rfl,?_⟩;refine⟨fits (by simp only[length_append,bD,q,e,length_cons,length_nil];omega),?_⟩;rintro _ rfl;refine⟨by decide,?_⟩;rintro _ rfl;rw[cY (a:=y) (by omega)];refine aA (co (y%100) (by omega) (by omega) _) ?_;rintro _ w3 ⟨rfl,D⟩;replace hB:=ae hB D hB.size;refine⟨fy (y%100),rfl,?_⟩;refine⟨fits (by simp only[length_append,bD,q,e,length_cons,length_nil];omega),?_⟩;rintro _ rfl;refine⟨fits (by simp only[length_append,bD,q,e,length_cons,length_nil];omega),?_⟩;rintro _ rfl;refine⟨by decide,?_⟩;rintro _ rfl;rw[cD E.1,wrJ (n:=s/3600)];refine aA (co (s/3600) (by omega) (by omega) _) ?_;rintro _ w3 ⟨rfl,D⟩;replace hB:=ae hB D hB.size;refine⟨fy (s/3600),rfl,?_⟩;refine⟨fits (by simp only[length_append,bD,q,e,length_cons,length_nil];omega),?_⟩;rintro _ rfl;refine⟨fits (by simp only[length_append,bD,q,e,length_cons,length_nil];omega),?_⟩;rintro _ rfl;refine⟨by decide,?_⟩;rintro _ rfl;refine⟨by decide,?_⟩;rintro _ rfl;rw[cD E.1,wrJ (n:=s/60),cY (a:=s/60) (by omega)];refine aA (co (s/60%60) (by omega) (by omega) _) ?_;rintro _ w3 ⟨rfl,D⟩;replace hB:=ae hB D hB.size;refine⟨fy (s/60%60),rfl,?_⟩;refine⟨fits (by simp only[length_append,bD,q,e,length_cons,length_nil];omega),?_⟩;rintro _ rfl;refine⟨fits (by simp only[length_append,bD,q,e,length_cons,length_nil];omega),?_⟩;rintro _ rfl;refine⟨by decide,?_⟩;rintro _ rfl;rw[cY (a:=s) E.1];refine aA (co (s%60) (by omega) (by omega) _) ?_;rintro _ w3 ⟨rfl,D⟩;replace hB:=ae hB D hB.size;refine⟨fy (s%60),rfl,?_⟩;refine⟨fits (by simp only[length_append,bD,q,e,length_cons,length_nil];omega),?_⟩;rintro _ rfl;refine⟨fits (by simp only[length_append,bD,q,e,length_cons,length_nil];omega),?_⟩;rintro _ rfl;refine⟨?_,hB⟩;congr 2;simp[AE,mr,append_assoc]
 ·
  refine aA (co d (by omega) (by omega) _) ?_;rintro _ w3 ⟨rfl,D⟩;replace hB:=ae hB D hB.size;refine⟨fy d,rfl,?_⟩;intro b5 b6 ac U;replace hB:=ae hB (U▸ao _ _) hB.size;refine⟨⟨⟨by omega,by omega⟩,rfl⟩,?_⟩;refine⟨tQ (n%7),bb ac U (Below.refl _ _),?_⟩;refine⟨fits (by simp only[length_append,bD,q,e,length_cons,length_nil];omega),?_⟩;rintro _ rfl;refine⟨fits (by simp only[length_append,bD,q,e,length_cons,length_nil];omega),?_⟩;rintro _ rfl;refine⟨fits (by simp only[length_append,bD,q,e,length_cons,length_nil];omega),?_⟩;rintro _ rfl;intro bk bq V I;replace hB:=ae hB (I▸ao _ _) hB.size;rw[wrJ (n:=m-1)];refine⟨⟨⟨by omega,by omega⟩,rfl⟩,GJ m,a9 V I,?_⟩;refine⟨fits (by simp only[length_append,bD,q,e,length_cons,length_nil];omega),?_⟩;rintro _ rfl;refine⟨fits (by simp only[length_append,bD,q,e,length_cons,length_nil];omega),?_⟩;rintro _ rfl;refine⟨by decide,?_⟩;rintro _ rfl;rw[cD (by omega),wrJ (n:=y/100)];refine aA (co (y/100) (by omega) (by omega) _) ?_;rintro _ w3 ⟨rfl,D⟩;replace hB:=ae hB D hB.size;refine⟨fy (y/100),rfl,?_⟩;refine⟨fits (by simp only[length_append,bD,q,e,length_cons,length_nil];omega),?_⟩;rintro _ rfl;refine⟨by decide,?_⟩;rintro _ rfl;rw[cY (a:=y) (by omega)];refine aA (co (y%100) (by omega) (by omega) _) ?_;rintro _ w3 ⟨rfl,D⟩;replace hB:=ae hB D hB.size;refine⟨fy (y%100),rfl,?_⟩;refine⟨fits (by simp only[length_append,bD,q,e,length_cons,length_nil];omega),?_⟩;rintro _ rfl;refine⟨fits (by simp only[length_append,bD,q,e,length_cons,length_nil];omega),?_⟩;rintro _ rfl;refine⟨by decide,?_⟩;rintro _ rfl;rw[cD E.1,wrJ (n:=s/3600)];refine aA (co (s/3600) (by omega) (by omega) _) ?_;rintro _ w3 ⟨rfl,D⟩;replace hB:=ae hB D hB.size;refine⟨fy (s/3600),rfl,?_⟩;refine⟨fits (by simp only[length_append,bD,q,e,length_cons,length_nil];omega),?_⟩;rintro _ rfl;refine⟨fits (by simp only[length_append,bD,q,e,length_cons,length_nil];omega),?_⟩;rintro _ rfl;refine⟨by decide,?_⟩;rintro _ rfl;refine⟨by decide,?_⟩;rintro _ rfl;rw[cD E.1,wrJ (n:=s/60),cY (a:=s/60) (by omega)];refine aA (co (s/60%60) (by omega) (by omega) _) ?_;rintro _ w3 ⟨rfl,D⟩;replace hB:=ae hB D hB.size;refine⟨fy (s/60%60),rfl,?_⟩;refine⟨fits (by simp only[length_append,bD,q,e,length_cons,length_nil];omega),?_⟩;rintro _ rfl;refine⟨fits (by simp only[length_append,bD,q,e,length_cons,length_nil];omega),?_⟩;rintro _ rfl;refine⟨by decide,?_⟩;rintro _ rfl;rw[cY (a:=s) E.1];refine aA (co (s%60) (by omega) (by omega) _) ?_;rintro _ w3 ⟨rfl,D⟩;replace hB:=ae hB D hB.size;refine⟨fy (s%60),rfl,?_⟩;refine⟨fits (by simp only[length_append,bD,q,e,length_cons,length_nil];omega),?_⟩;rintro _ rfl;refine⟨fits (by simp only[length_append,bD,q,e,length_cons,length_nil];omega),?_⟩;rintro _ rfl;refine⟨?_,hB⟩;congr 2;simp[AE,mr,append_assoc]
abbrev ZO (w:World)(v:Value)(w':World):Prop:=v=.bool true/\bW w w'
theorem uc:∀(a cur r:lU) (c:UInt8),(∀x∈a,jF x=false)->jF c=true->CZ cur (a++c::r)=(cur++a)::CZ [] r
 |[],cur,r,c,_,e=>by
  show(if jF c=true then _ else _)=_;rw[if_pos e,append_nil]
 |x::a,cur,r,c,q,e=>by
  have D:=q x mem_cons_self;show(if jF x=true then _ else _)=_;rw[if_neg (by rw[D];decide)];exact(uc a (cur++[x]) r c (λy E=>q y (mem_cons_of_mem _ E)) e).trans (by simp)
theorem OD:∀(a r:lU),(∀x∈a,eO x=true)->eN (a++r)=a++eN r
 |[],r,_=>rfl
 |x::a,r,h=>by
  unfold eN;rw[cons_append,List.takeWhile_cons,if_pos (h x mem_cons_self)];show x::eN (a++r)=_;rw[OD a r λy e=>h y (mem_cons_of_mem _ e)];rfl
theorem mV (n:Int):∀x∈fy n,eO x=true:=by
 intro x e;simp only[fy,List.mem_cons,List.mem_nil_iff,or_false]at e;rcases e with rfl|rfl
 ·exact(nU _).1
 ·exact(nU _).1
theorem Lh:∀n,n<256->eO (UInt8.ofNat n)=true->jF (UInt8.ofNat n)=false:=by decide+kernel
theorem xP {x:UInt8}(h:eO x=true):jF x=false:=by
 have:=Lh x.toNat (by have:=x.toNat_lt;omega);rw[UInt8.ofNat_toNat]at this;exact this h
theorem ZF {n:Int}(e:0 <=n)(h1:n<100):fg (fy n)=n:=by
 have h:=(nU (n/10)).2;have q:=(nU n).2;show(0*10+(((Nd (n/10)).toNat:Int)-48))*10+(((Nd n).toNat:Int)-48)=n;omega
theorem ZS {n:Int}(e:0 <=n)(h1:n<10000):fg (fy (n/100)++fy (n%100))=n:=by
 have h:=(nU (n/100/10)).2;have q:=(nU (n/100)).2;have D:=(nU (n%100/10)).2;have E:=(nU (n%100)).2;show(((0*10+(((Nd (n/100/10)).toNat:Int)-48))*10+(((Nd (n/100)).toNat:Int)-48))*10+(((Nd (n%100/10)).toNat:Int)-48))*10+(((Nd (n%100)).toNat:Int)-48)=n;omega
theorem FK {s u:lU}(D:xL i s=some u){n:Int}(e:u=fy n++r)(G:eN r=[])(q:0 <=n)(h1:n<100):CT i s=some (n,r):=by
 unfold CT;have E:eN u=fy n:=by rw[e,OD _ _ (mV n),G,append_nil]
 rw[D,Option.bind_some,E,if_pos ⟨by rw[bD];decide,by rw[bD];decide⟩,ZF q h1,e];rfl
theorem PO {s:Int}(q:0 <=s)(h1:s<86400):gg (mr s)=some [s/3600,s/60%60,s%60]:=by
 have e:mr s=fy (s/3600)++(58::(fy (s/60%60)++(58::fy (s%60)))):=by simp[mr]
 unfold gg;rw[e];unfold df;rw[FK (u:=_) (n:=s/3600) rfl rfl rfl (by omega) (by omega),Option.bind_some];unfold df;rw[FK (i:=1) (u:=fy (s/60%60)++(58::fy (s%60))) rfl rfl rfl (by omega) (by omega),Option.bind_some];unfold df;rw[FK (i:=2) (u:=fy (s%60)) (r:=[]) rfl (append_nil _).symm rfl (by omega) (by omega),Option.bind_some];rfl
theorem H7 (h:∀c r,s.drop (eN s).length=c::r->c≠58):gg s=none:=by
 unfold gg df;have e:CT 0 s=HT s:=rfl;rw[e];unfold HT;split
 ·rw[Option.bind_some];have:df 2 (0+1) (s.drop (eN s).length)=none:=by
   rw[nS];have q:xL (0+1) (s.drop (eN s).length)=none:=by
    unfold xL;rw[if_neg (by decide)];cases D:s.drop (eN s).length with
    |nil=>rfl
    |cons c r=>rw[if_neg (by have:=h c r D;simpa using this)]
   rw[q];rfl
  show(df 2 (0+1) (s.drop (eN s).length)).map _=none;rw[this];rfl
 ·rfl
theorem Xv {f:Fnd}{d:Int}(D:0 <=d)(h1:d<100)(G:f.day=false):xu f (fy d)= { f with d:=d,day:=true } :=by
 have q:eN (fy d)=fy d:=by have:=OD (fy d) [] (mV d);rw[append_nil]at this;rw[this];exact append_nil _
 have E:gg (fy d)=none:=H7 λc r h=>by rw[q,List.drop_length]at h;cases h
 rcases mj f (fy d)with⟨_,_,_,h,_⟩|⟨_,e⟩
 ·rw[E]at h;cases h
 ·rw[e,if_pos ⟨by unfold gZ;rw[q];rfl,G⟩,q,ZF D h1]
theorem LM:∀k:Nat,k<12->gg (GJ ((k:Int)+1))=none/\gZ (GJ ((k:Int)+1)) 1 2=false/\jj (GJ ((k:Int)+1))=(k:Int)+1/\(GJ ((k:Int)+1)).all (λx=> !jF x)=true:=by decide+kernel
theorem Xw {f:Fnd}{m:Int}(H:1 <=m)(h1:m <=12)(G:f.month=false):xu f (GJ m)= { f with m:=m,month:=true } :=by
 have h:=LM (m-1).toNat (by omega);rw[show(((m-1).toNat:Nat):Int)+1=m by omega]at h;obtain⟨q,D,E,_⟩:=h;rcases mj f (GJ m)with⟨_,_,_,h,_⟩|⟨_,e⟩
 ·rw[q]at h;cases h
 ·rw[e,if_neg (λh=>by rw[D]at h;cases h.1),if_pos ⟨by omega,G⟩,E]
theorem Vl {f:Fnd}{y:Int}(D:0 <=y)(h1:y<10000)(I:f.month=true)(H:f.year=false):xu f (fy (y/100)++fy (y%100))= { f with y:=y,year:=true } :=by
 have E:∀x∈fy (y/100)++fy (y%100),eO x=true:=λx U=>(List.mem_append.1 U).elim (mV _ x) (mV _ x);have q:eN (fy (y/100)++fy (y%100))=fy (y/100)++fy (y%100):=by have:=OD _ [] E;rw[append_nil]at this;rw[this];exact append_nil _
 have G:gg (fy (y/100)++fy (y%100))=none:=H7 λc r h=>by rw[q,List.drop_length]at h;cases h
 rcases mj f (fy (y/100)++fy (y%100))with⟨_,_,_,h,_⟩|⟨_,e⟩
 ·rw[G]at h;cases h
 ·have M:gZ (fy (y/100)++fy (y%100)) 1 2=false:=by unfold gZ;rw[q];rfl
  have O:gZ (fy (y/100)++fy (y%100)) 2 4=true:=by unfold gZ;rw[q];rfl
  rw[e,if_neg (λh=>by rw[M]at h;cases h.1),if_neg (λh=>by rw[I]at h;cases h.2),if_pos ⟨O,H⟩,q,ZS D h1]
theorem TN {f:Fnd}{s:Int}(e:0 <=s)(h1:s<86400)(q:f.time=false):xu f (mr s)= { f with s0:=s/3600,s1:=s/60%60,s2:=s%60,time:=true } :=FV (PO e h1) q
theorem Vk {f:Fnd}(h1:f.day=true)(q:f.month=true)(D:f.year=true)(E:f.time=true):xu f s=f:=by
 rcases mj f s with⟨_,_,_,_,h,_⟩|⟨_,e⟩
 ·rw[E]at h;cases h
 ·rw[e,if_neg (λh=>by rw[h1]at h;cases h.2),if_neg (λh=>by rw[q]at h;cases h.2),if_neg (λh=>by rw[D]at h;cases h.2)]
theorem QA:∀k:Nat,k<7->(tQ (k:Int)).all (λx=> !jF x)=true:=by decide
theorem Vz:∀k:Nat,k<7->xu QH (tQ (k:Int))=QH
 |0,_=>by kernel_rfl
 |1,_=>by kernel_rfl
 |2,_=>by kernel_rfl
 |3,_=>by kernel_rfl
 |4,_=>by kernel_rfl
 |5,_=>by kernel_rfl
 |6,_=>by kernel_rfl
 |n+7,h=>by omega
def N0 (c:UInt8)(y m d s:Int):lU:=fy d++c::(GJ m++c::((fy (y/100)++fy (y%100))++c::(mr s++c::[71,77,84])))
def Nn (y m d s:Int):Fnd:=⟨true,true,true,true,s/3600,s/60%60,s%60,y,m,d⟩
theorem PN {s:Int}(x:UInt8)(h:x∈mr s):jF x=false:=by
 unfold mr at h;simp only[List.mem_append,mem_singleton]at h;rcases h with(((h|h)|h)|h)|h
 ·exact xP (mV _ x h)
 ·subst h;decide
 ·exact xP (mV _ x h)
 ·subst h;decide
 ·exact xP (mV _ x h)
theorem TH {c:UInt8}(q:jF c=true){y m d s:Int}(h:cQ y m d)(M:0 <=s)(h1:s<86400)(r:lU)(ag:r=[]\/∃V,r=c::V):
 (CZ [] (N0 c y m d s++r)).foldl xu QH=Nn y m d s:=by
 obtain⟨X,Y,H,I,Z,ac⟩:=h;have ad:=si y m;have D:=LM (m-1).toNat (by omega);rw[show(((m-1).toNat:Nat):Int)+1=m by omega]at D;have O:∀x∈GJ m,jF x=false:=λx e=>by have:=List.all_eq_true.1 D.2.2.2 x e;simpa using this
 have E:N0 c y m d s++r=fy d++c::(GJ m++c::((fy (y/100)++fy (y%100))++c::(mr s++c::([71,77,84]++r)))):=by simp[N0]
 rw[E,uc _ _ _ _ (λx e=>xP (mV _ x e)) q,uc _ _ _ _ O q,
  uc _ _ _ _ (λx e=>xP ((List.mem_append.1 e).elim (mV _ x) (mV _ x))) q,uc _ _ _ _ PN q]
 simp only[nil_append,foldl_cons];rw[Xv (by omega) (by omega) rfl,Xw H I rfl,Vl (by omega) (by omega) rfl rfl,TN M h1 rfl];have G:∀l:List lU,l.foldl xu (Nn y m d s)=Nn y m d s:=by
  intro l;induction l with
  |nil=>rfl
  |cons x l U=>rw[foldl_cons,Vk rfl rfl rfl rfl,U]
 exact G _
theorem RK {t y m d:Int}(h:cQ y m d)(D:cZ y m d=t/86400):zV (Nn y m d (t%86400))=.tuple #[vI t,.bool true]:=by
 have h1:=h.1;have e:jC y=y:=by unfold jC;rw[if_neg (by omega),if_neg (by omega)]
 have q:uy (Nn y m d (t%86400)):=by
  refine⟨?_,rfl,rfl,?_,?_,?_⟩
  ·show cQ (jC y) m d;rw[e];exact h
  ·show t%86400/3600 <=23;omega
  ·show t%86400/60%60 <=59;omega
  ·show t%86400%60 <=59;omega
 unfold zV;rw[if_pos q];have:iv (Nn y m d (t%86400))=t:=by
  show cZ (jC y) m d*86400+t%86400/3600*3600+t%86400/60%60*60+t%86400%60=t;rw[e,D];omega
 rw[this]
theorem Qu (n y m d s:Int):AE n y m d s=tQ (n%7)++44::32::N0 32 y m d s:=by simp[AE,N0]
theorem TK {n y m d s:Int}(h:cQ y m d)(E:0 <=s)(h1:s<86400):kN (AE n y m d s)=Nn y m d s:=by
 have e:=QA (n%7).toNat (by omega);have q:=Vz (n%7).toNat (by omega);rw[show(((n%7).toNat:Nat):Int)=n%7 by omega]at e q;unfold kN;rw[Qu,uc _ _ _ _ (λx G=>by have:=List.all_eq_true.1 e x G;simpa using this) (by decide)];have D:CZ [] (32::N0 32 y m d s)=[]::CZ [] (N0 32 y m d s):=rfl;rw[D,foldl_cons,foldl_cons,nil_append,q,Pq];have:=TH (c:=32) (by decide) h E h1 [] (.inl rfl)
 rwa [append_nil]at this
def Lok (s:lU):Prop:=stripR mJ s=s
def Hok (s:lU):Prop:=s.dropWhile mJ=s
theorem Nh (p:UInt8->Bool):∀s:lU,(s.dropWhile p).dropWhile p=s.dropWhile p
 |[]=>rfl
 |x::s=>by
  by_cases h:p x=true
  ·rw[dropWhile_cons,if_pos h];exact Nh p s
  ·rw[dropWhile_cons,if_neg h,dropWhile_cons,if_neg h]
theorem Pt (s:lU):Hok (trimB s):=by unfold Hok trimB;rw[<- ut];exact Nh _ _
theorem Pu (s:lU):Lok (trimB s):=by unfold Lok trimB jU stripR;rw[List.reverse_reverse,Nh]
theorem FX (h:Hok s)(l:Lok s):trimB s=s:=by
 unfold trimB jU;rw[show s.dropWhile mJ=s from h];exact l
theorem Dm:trimB s=s↔Hok s/\Lok s:=⟨λh=>⟨h▸Pt s,h▸Pu s⟩,λh=>FX h.1 h.2⟩
theorem Da {c:UInt8}(h:mJ c=false):Hok (c::s):=by unfold Hok;rw[dropWhile_cons,if_neg (by rw[h];decide)]
theorem JL {c:UInt8}(h:Lok s)(q:s≠[]\/mJ c=false):Lok (c::s):=by
 unfold Lok;rw[mR,show stripR mJ s=s from h];by_cases e:s=[]
 ·subst e;have:mJ c=false:=q.resolve_left λh=>h rfl;rw[this];rfl
 ·rw[if_neg e]
theorem Sx:∀(a:lU) {s:lU},Lok s->s≠[]->Lok (a++s)
 |[],_,h,_=>h
 |c::a,s,h,e=>JL (Sx a h e) (.inl λq=>e (List.append_eq_nil_iff.1 q).2)
theorem UX {c:UInt8}(h:Lok (c::s)):Lok s:=by
 unfold Lok at h ⊢;rw[mR]at h;split at h
 ·rename_i h1;split at h
  ·cases h
  ·injection h with _ h2;rw[h1];exact h2
 ·injection h
theorem Qd:∀n,n<256->mJ (zP (UInt8.ofNat n))=mJ (UInt8.ofNat n):=by decide+kernel
theorem Yv (c:UInt8):mJ (zP c)=mJ c:=by
 have:=Qd c.toNat (by have:=c.toNat_lt;omega)
 rwa [UInt8.ofNat_toNat]at this
theorem Nz:∀n,n<256->zP (zP (UInt8.ofNat n))=zP (UInt8.ofNat n):=by decide+kernel
theorem W5 (s:lU):cv (cv s)=cv s:=by
 unfold cv;rw[List.map_map];refine List.map_congr_left λc _=>?_;have:=Nz c.toNat (by have:=c.toNat_lt;omega);rw[UInt8.ofNat_toNat]at this;exact this
theorem Rr:∀s:lU,(cv s).dropWhile mJ=cv (s.dropWhile mJ)
 |[]=>rfl
 |c::s=>by
  show(zP c::cv s).dropWhile mJ=_;rw[dropWhile_cons,dropWhile_cons,Yv];split
  ·exact Rr s
  ·rfl
theorem SB (s:lU):(cv s).reverse=cv s.reverse:=by unfold cv;rw[List.map_reverse]
theorem Sy (h:Lok s):Lok (cv s):=by
 unfold Lok stripR at*;rw[SB,Rr,SB,h]
def Clean (s:lU):Prop:=∀c∈s,jE c=false/\c≠59
def okB (c:UInt8):Bool:= !jE c && !(c==59)
theorem Ey {c:UInt8} :okB c=true↔jE c=false/\c≠59:=by simp[okB]
theorem fZ (h:s.all okB=true):Clean s:=λc e=>Ey.1 (List.all_eq_true.1 h c e)
theorem xI:Clean []:=λ_ h=>by cases h
theorem dQ {a b:lU}(h:Clean a)(k:Clean b):Clean (a++b):=λc e=>(List.mem_append.1 e).elim (h c) (k c)
theorem xJ {a b:lU}(h:Clean b)(k:∀c∈a,c∈b):Clean a:=λc e=>h c (k c e)
theorem H6 (h:Clean s):Clean (trimB s):=xJ h (Iz _ _)
theorem JN:∀n,n<256->okB (UInt8.ofNat n)=true->okB (zP (UInt8.ofNat n))=true:=by decide+kernel
theorem Rb (h:Clean s):Clean (cv s):=by
 intro c e;obtain⟨d,q,rfl⟩:=List.mem_map.1 e;have:=JN d.toNat (by have:=d.toNat_lt;omega);rw[UInt8.ofNat_toNat]at this;exact Ey.1 (this (Ey.2 (h d q)))
theorem Jf:∀n,n<256->eO (UInt8.ofNat n)=true->okB (UInt8.ofNat n)=true/\mJ (UInt8.ofNat n)=false:=by decide+kernel
theorem xO {c:UInt8}(h:eO c=true):(jE c=false/\c≠59)/\mJ c=false:=by
 have:=Jf c.toNat (by have:=c.toNat_lt;omega);rw[UInt8.ofNat_toNat]at this;exact⟨Ey.1 (this h).1,(this h).2⟩
theorem DP (h:Clean s):Clean (iB s):=H6 (xJ h λc e=>(List.takeWhile_sublist _).subset e)
theorem DO (h:Clean s):Clean (gQ s):=H6 (xJ h λc e=>(List.dropWhile_sublist _).subset (List.mem_of_mem_drop e))
theorem ZJ {k:lU}(v:lU)(h:∀c∈k,c≠61):(k++61::v).takeWhile (· !=61)=k/\(k++61::v).dropWhile (· !=61)=61::v:=by
 induction k with
 |nil=>exact⟨rfl,rfl⟩
 |cons c k G=>
  have e:(c !=61)=true:=by simpa using h c mem_cons_self
  obtain⟨q,D⟩:=G λx E=>h x (mem_cons_of_mem _ E);rw[cons_append,List.takeWhile_cons,dropWhile_cons,if_pos e,if_pos e,q,D];exact⟨rfl,rfl⟩
theorem Oj {k:lU}(v:lU)(h:∀c∈k,c≠61):iB (k++61::v)=trimB k/\gQ (k++61::v)=trimB v/\Jn (k++61::v)=true:=by
 unfold iB gQ Jn;rw[(ZJ v h).1,(ZJ v h).2];exact⟨rfl,rfl,by simp⟩
theorem Oz (u:Nat):(∀c∈Lib.decDigits u,eO c=true)/\Lib.decDigits u≠[]/\fg (Lib.decDigits u)=(u:Int):=by
 induction u using Nat.strongRecOn with
 |_ u H=>
  have q:∀k,k<10->eO (UInt8.ofNat (48+k))=true/\((UInt8.ofNat (48+k)).toNat:Int)-48=(k:Int):=by decide
  rw[Lib.decDigits];split
  ·rename_i h;refine⟨λc e=>?_,by simp,?_⟩
   ·rw[List.mem_singleton.1 e];exact(q u h).1
   ·show(0*10+(((UInt8.ofNat (48+u)).toNat:Int)-48))=u;rw[(q u h).2];omega
  ·rename_i h;obtain⟨G,I,E⟩:=H (u/10) (by omega);have D:=q (u%10) (by omega);refine⟨λc e=>?_,by simp,?_⟩
   ·rcases List.mem_append.1 e with e|e
    ·exact G c e
    ·rw[List.mem_singleton.1 e];exact D.1
   ·unfold fg at E ⊢;rw[foldl_append,E];show(u/10:Nat)*10+(((UInt8.ofNat (48+u%10)).toNat:Int)-48)=u;rw[D.2];omega
theorem JC {n:Int}(h:0 <=n):Lib.itoa n=Lib.decDigits n.toNat:=by unfold Lib.itoa;rw[if_neg (by omega)]
theorem OC (h:∀c∈s,eO c=true):trimB s=s:=by
 refine FX ?_ ?_
 ·cases s with
  |nil=>rfl
  |cons c s=>exact Da (xO (h c mem_cons_self)).2
 ·induction s with
  |nil=>rfl
  |cons c s q=>exact JL (q λx e=>h x (mem_cons_of_mem _ e)) (.inr (xO (h c mem_cons_self)).2)
theorem Ua {n:Int}(G:0 <=n)(h1:n <=34560000):Oi (Lib.itoa n)=some n:=by
 rw[JC G];obtain⟨D,E,M⟩:=Oz n.toNat;have I:(Lib.decDigits n.toNat).head?≠some 45:=by
  cases q:Lib.decDigits n.toNat with
  |nil=>exact absurd q E
  |cons c r=>
   intro e;rw[List.head?_cons]at e;have:=D c (by rw[q];exact mem_cons_self);rw[Option.some.inj e]at this;exact absurd this (by decide)
 have H:dG (Lib.decDigits n.toNat)=true:=by
  unfold dG;rw[Bool.and_eq_true,List.all_eq_true];exact⟨by simpa using E,D⟩
 unfold Oi;rw[if_neg I,if_pos H,M];congr 1;rw[Int.min_eq_left (by omega)];omega
theorem XK:∀k:Nat,k<7->(tQ (k:Int)).all (λc=>okB c && !mJ c)=true/\tQ (k:Int)≠[]:=by decide
theorem Yx:∀k:Nat,k<12->(GJ ((k:Int)+1)).all okB=true:=by decide
theorem Qv {f:Fnd}(E:Gn f)(e:uy f):kN (iY (iv f))=kN (iY (iv f))/\uy (kN (iY (iv f)))/\iv (kN (iY (iv f)))=iv f/\trimB (iY (iv f))=iY (iv f)/\Clean (iY (iv f))/\(-9223372036854775808 <=iv f/\iv f <=9223372036854775807):=by
 obtain⟨D,-,-,Y,Z,ac⟩:=e;have ad:=DT D;have O:iv f/86400=cZ (jC f.y) f.m f.d:=by
  unfold iv;have:=E.s0;have:=E.s1;have:=E.s2;omega
 have M:=Dk D O.symm;have V:=TK (n:=iv f/86400) (s:=iv f%86400) D (by omega) (by omega);have q:=RK D O.symm;rw[<- M]at V;rw[<- V]at q;unfold zV at q;by_cases I:uy (kN (iY (iv f)))
 ·rw[if_pos I]at q;injection q with q
  have X:iv (kN (iY (iv f)))=iv f:=by
   have:=congrArg (λa:Array Value=>a[0]?) q;simpa using this
  have H:=XK (iv f/86400%7).toNat (by omega);rw[show(((iv f/86400%7).toNat:Nat):Int)=iv f/86400%7 by omega]at H;have U:=Yx (f.m-1).toNat (by have:=D.2.2.1;have:=D.2.2.2.1;omega);rw[show(((f.m-1).toNat:Nat):Int)+1=f.m by have:=D.2.2.1;omega]at U;refine⟨rfl,I,X,?_,?_,?_⟩
  ·rw[M];refine FX ?_ ?_
   ·unfold AE;cases e:tQ (iv f/86400%7)with
    |nil=>exact absurd e H.2
    |cons c r=>
     have:=List.all_eq_true.1 H.1 c (by rw[e];exact mem_cons_self);simp only[cons_append];exact Da (by rw[Bool.and_eq_true]at this;simpa using this.2)
   ·unfold AE;exact Sx _ (show Lok [32,71,77,84] from rfl) (by simp)
  ·rw[M];have G:∀n,Clean (fy n):=λn c e=>(xO (mV n c e)).1;unfold AE mr;refine dQ (dQ (dQ (dQ (dQ (dQ (dQ (dQ (dQ ?_ ?_) (G _)) ?_) ?_) ?_) (dQ (G _) (G _))) ?_) (dQ (dQ (dQ (dQ (G _) ?_) (G _)) ?_) (G _))) ?_
   ·intro c e;have:=List.all_eq_true.1 H.1 c e;rw[Bool.and_eq_true]at this;exact Ey.1 this.1
   ·exact fZ (by decide)
   ·exact fZ (by decide)
   ·exact fZ U
   ·exact fZ (by decide)
   ·exact fZ (by decide)
   ·exact fZ (by decide)
   ·exact fZ (by decide)
   ·exact fZ (by decide)
  ·have:=E.s0;have:=E.s1;have:=E.s2;unfold iv;omega
 ·rw[if_neg I]at q;have:=congrArg (λv:Value=>match v with|.tuple a=>a[1]?|_=>none) q;simp at this
structure Good (h:Hdr):Prop where
 nc:Clean h.name
 vc:Clean h.value
 nt:trimB h.name=h.name
 vt:trimB h.value=h.value
 ne:∀c∈h.name,c≠61
 nz:h.name++h.value≠[]
 nl:h.name.length+h.value.length <=4096
 dc:Clean h.domain
 de:Lok h.domain
 dl:cv h.domain=h.domain
 dn:(wI h.domain).length <=1024
 pc:Clean h.path
 pt:trimB h.path=h.path
 ph:h.path=[]\/h.path.head?=some 47
 pl:h.path.length <=1024
 ex:if h.hasE=true then uy (kN (iY h.exp))/\iv (kN (iY h.exp))=h.exp/\trimB (iY h.exp)=iY h.exp/\Clean (iY h.exp)/\(-9223372036854775808 <=h.exp/\h.exp <=9223372036854775807)else h.exp=0
 ag:0 <=h.age/\h.age <=34560000/\(h.hasA=false->h.age=0)
 sm:0 <=h.same/\h.same <=3
theorem PF {n:Int}(h:Oi s=some n):0 <=n/\n <=34560000:=by
 unfold Oi at h;split at h
 ·split at h
  ·cases h;decide
  ·cases h
 ·split at h
  ·rename_i e;have:=(ib s 0 (by decide) (λc q=>by
    unfold dG at e;rw[Bool.and_eq_true]at e;exact List.all_eq_true.1 e.2 c q)).1
   have D:min (fg s) 34560000=n:=Option.some.inj h;have E:0 <=fg s:=this;omega
  ·cases h
theorem NV (v:lU):0 <=KH v/\KH v <=3:=by unfold KH;split;decide;split;decide;split<;>decide
theorem Uw {v:lU}(H:trimB v=v)(G:v.length <=1024):(wI (cv (if v.head?=some 46 then v.drop 1 else v))).length <=1024:=by
 split
 ·rename_i h;have h1:=Jg (cv (v.drop 1));have q:(cv (v.drop 1)).length=v.length-1:=by unfold cv;simp
  have I:0<v.length:=by cases v with
   |nil=>cases h
   |cons=>simp
  omega
 ·rename_i h;have h1:trimB (cv v)=cv v:=by
   obtain⟨a,b⟩:=Dm.1 H;refine FX ?_ (Sy b);unfold Hok;rw[Rr,show v.dropWhile mJ=v from a]
  have q:(cv v).head?≠some 46:=by
   intro e;cases v with
   |nil=>cases e
   |cons c v=>
    have D:zP c=46:=Option.some.inj e;have E:∀n,n<256->zP (UInt8.ofNat n)=46->UInt8.ofNat n=46:=by decide+kernel
    have:=E c.toNat (by have:=c.toNat_lt;omega);rw[UInt8.ofNat_toNat]at this;exact h (by rw[this D];rfl)
  unfold wI;rw[if_pos ⟨h1,q⟩];unfold cv;simpa using G
theorem QV {h:Hdr}(g:Good h)(key:lU){v:lU}(D:trimB v=v)(e:Clean v)(E:v.length <=1024):Good (mn h key v):=by
 unfold mn;split
 ·split
  ·rename_i U;have O:Gn (kN v):=N6 _ Nl;obtain⟨-,h1,G,H,I,M⟩:=Qv O U;exact{ g with ex:=by show if true=true then _ else _;rw[if_pos rfl];exact⟨h1,G,H,I,M⟩ }
  ·exact g
 split
 ·split
  ·rename_i n V;have:=PF V;exact{ g with ag:=⟨this.1,this.2,λh=>by cases h⟩ }
  ·exact g
 split
 ·refine{ g with dc:=Rb ?_,de:=Sy ?_,dl:=W5 _,dn:=Uw D E }
  ·split
   ·exact xJ e λc e=>List.mem_of_mem_drop e
   ·exact e
  ·have:=(Dm.1 D).2;split
   ·cases v with
    |nil=>exact this
    |cons c v=>exact UX this
   ·exact this
 split
 ·by_cases q:v.head?=some 47
  ·rw[if_pos q];exact{ g with pc:=e,pt:=D,ph:=.inr q,pl:=E }
  ·rw[if_neg q];exact{ g with pc:=xI,pt:=rfl,ph:=.inl rfl,pl:=(show([]:lU).length <=1024 by decide) }
 split
 ·exact{ g with }
 split
 ·exact{ g with }
 split
 ·exact{ g with sm:=NV v }
 ·exact g
theorem yM (s:lU):trimB (trimB s)=trimB s:=Dm.2 ⟨Pt s,Pu s⟩
theorem TB {h:Hdr}(g:Good h){x:lU}(e:Clean x):Good (gP h x):=by
 unfold gP;split
 ·rename_i q;exact QV g _ (yM _) (DO e) q
 ·exact g
theorem Lo:∀(l:List lU) {h:Hdr},Good h->(∀x∈l,Clean x)->Good (l.foldl gP h)
 |[],_,g,_=>g
 |x::l,_,g,e=>Lo l (TB g (e x mem_cons_self)) λy q=>e y (mem_cons_of_mem _ q)
theorem Af {h:Hdr}(e:bI s=(h,0)):Good h:=by
 unfold bI at e;split at e
 ·cases e
 split at e
 ·cases e
 split at e
 ·cases e
 rename_i h1 O V;obtain⟨rfl,-⟩:=Prod.mk.inj e;have M:∀x∈bR 59 [] s,Clean x:=λx H c q=>by
  obtain⟨E,U⟩:=I6 59 s [] x H (λ_ h=>by cases h) c q;refine⟨?_,U⟩;rcases E with E|E
  ·cases E
  ·cases G:jE c
   ·rfl
   ·exact absurd (List.any_eq_true.2 ⟨c,E,G⟩) h1
 have I:Clean ((bR 59 [] s).headD []):=by
  have:=gT 59 s [];cases G:bR 59 [] s with
  |nil=>exact absurd G this
  |cons x l=>exact M x (by rw[G];exact mem_cons_self)
 refine Lo _ ?_ λx H=>M x (List.mem_of_mem_drop H);generalize (bR 59 [] s).headD []=x at*;have D:Clean (nameOf x).1/\Clean (nameOf x).2/\trimB (nameOf x).1=(nameOf x).1/\trimB (nameOf x).2=(nameOf x).2/\∀c∈(nameOf x).1,c≠61:=by
  unfold nameOf;split
  ·refine⟨DP I,DO I,yM _,yM _,λc q=>?_⟩;have h1:c∈x.takeWhile (· !=61):=Iz _ _ c q;have:=List.all_eq_true.1 (List.all_takeWhile (p:=(· !=(61:UInt8))) (l:=x)) c h1;simpa using this
  ·exact⟨xI,DP I,rfl,yM _,λc q=>by cases q⟩
 exact{ nc:=D.1,vc:=D.2.1,nt:=D.2.2.1,vt:=D.2.2.2.1,ne:=D.2.2.2.2,nz:=O,nl:=by show(nameOf x).1.length+(nameOf x).2.length <=4096;omega,dc:=xI,de:=rfl,dl:=rfl,dn:=by show(wI []).length <=1024;decide,pc:=xI,pt:=rfl,ph:=.inl rfl,pl:=(show([]:lU).length <=1024 by decide),ex:=rfl,ag:=⟨Int.le_refl 0,(show(0:Int) <=34560000 by decide),λ_=>rfl⟩,sm:=⟨Int.le_refl 0,(show(0:Int) <=3 by decide)⟩ }
theorem Ov:∀(r:List lU) (x:lU),(∀c∈x,c≠59)->(∀y∈r,∀c∈y,c≠59)->bR 59 [] (x++Lib.joinTail [59,32] r)=x::r.map (32:: ·)
 |[],x,q,_=>by
  have:Lib.joinTail [59,32] []=[]:=rfl;rw[this,append_nil,DR 59 x [] q];rfl
 |y::r,x,q,D=>by
  have E:Lib.joinTail [59,32] (y::r)=59::((32::y)++Lib.joinTail [59,32] r):=by simp[Lib.joinTail]
  rw[E,I7 59 x [] _ q,Ov r (32::y) (λc e=>by
   rcases List.mem_cons.1 e with rfl|e
   ·decide
   ·exact D y mem_cons_self c e) λz G=>D z (mem_cons_of_mem _ G)]
  rfl
theorem Il:∀(r:List lU) (x:lU),(∀c∈x,jE c=false)->(∀y∈r,∀c∈y,jE c=false)->∀c∈x++Lib.joinTail [59,32] r,jE c=false
 |[],x,q,_=>by
  have:Lib.joinTail [59,32] []=[]:=rfl;rw[this,append_nil];exact q
 |y::r,x,q,D=>by
  have E:Lib.joinTail [59,32] (y::r)=[59,32]++(y++Lib.joinTail [59,32] r):=by simp[Lib.joinTail]
  intro c e;rw[E]at e;rcases List.mem_append.1 e with e|e
  ·exact q c e
  rcases List.mem_append.1 e with e|e
  ·have G:∀c∈([59,32]:lU),jE c=false:=by decide
   exact G c e
  ·exact Il r y (D y mem_cons_self) (λz H=>D z (mem_cons_of_mem _ H)) c e
theorem YA {b:Bool}{x y:lU}(h:y∈opt b x):y=x:=by unfold opt at h;split at h<;>simp_all
theorem UE (b:Bool)(x:lU)(g:Hdr):((opt b x).map (32:: ·)).foldl gP g=if b=true then gP g (32::x)else g:=by
 cases b<;>rfl
theorem yG {k:lU}(v:lU)(h:∀c∈k,c≠61)(g:Hdr){key:lU}(D:cv (trimB k)=key)(E:(trimB v).length <=1024):gP g (k++61::v)=mn g key (trimB v):=by
 obtain⟨e,q,-⟩:=Oj v h;unfold gP;rw[e,q,if_pos E,D]
theorem Ms {k:lU}(h:∀c∈k,c≠61)(g:Hdr){key:lU}(E:cv (trimB k)=key):gP g k=mn g key []:=by
 have G:(61:UInt8)∉k:=λD=>h 61 D rfl;obtain⟨e,q⟩:=Qe G;unfold gP iB gQ;rw[e,q,E];rfl
theorem Pr (h:Lok s):trimB (wI s)=wI s:=by
 unfold wI;split
 ·rename_i h1;exact h1.1
 ·exact FX (Da rfl) (JL h (.inr rfl))
theorem Ux (e:s≠[]):(if(wI s).head?=some 46 then(wI s).drop 1 else wI s)=s:=by
 unfold wI;split
 ·rename_i h;rw[if_neg h.2]
 ·exact if_pos rfl
theorem Ra (h:Clean s):Clean (wI s):=by
 unfold wI;split
 ·exact h
 ·intro c e;rcases List.mem_cons.1 e with rfl|e
  ·decide
  ·exact h c e
theorem Q9 (h:∀c∈s,eO c=true):Clean s:=λc e=>(xO (h c e)).1
theorem Tr:∀k:Nat,k<4->trimB (nmL[k]?.getD [])=nmL[k]?.getD []/\KH (nmL[k]?.getD [])=(k:Int)/\(nmL[k]?.getD []).all okB=true/\(nmL[k]?.getD []).length <=1024:=by decide
theorem Ls {h:Hdr}(g:Good h):bI (eh h)=(h,0):=by
 have U:=g.ag;have V:=Oz h.age.toNat;rw[<- JC U.1]at V;have M:=Tr h.same.toNat (by have:=g.sm;omega);rw[show((h.same.toNat:Nat):Int)=h.same by have:=g.sm;omega]at M;have a8:h.hasE=true->Clean (iY h.exp):=λD=>by have:=g.ex;rw[if_pos D]at this;exact this.2.2.2.1
 obtain⟨r,hr⟩:∃r,r=opt h.hasE (pE++iY h.exp)++opt h.hasA (pA++Lib.itoa h.age)++opt (!(h.domain==[])) (pD++wI h.domain)++opt (!(h.path==[])) (pP++h.path)++opt h.sec pS++opt h.http pH++
  opt (decide (0<h.same)&&decide (h.same <=3)) (pM++nmL[h.same.toNat]?.getD []):=⟨_,rfl⟩
 have bs:tV h=(h.name++[61]++h.value)::r:=by rw[hr];unfold tV;simp only[append_assoc];rfl
 have aj:eh h=(h.name++[61]++h.value)++Lib.joinTail [59,32] r:=by unfold eh;rw[bs,Lib.join_cons]
 have Y:Clean (h.name++[61]++h.value):=dQ (dQ g.nc (fZ (by decide))) g.vc;have O:∀(b:Bool) (p v:lU),p.all okB=true->(b=true->Clean v)->∀y∈opt b (p++v),Clean y:=by
  intro b p v X bq y q;cases b with
  |false=>cases q
  |true=>
   rw[List.mem_singleton.1 q];exact dQ (fZ X) (bq rfl)
 have al:∀(b:Bool) (p:lU),p.all okB=true->∀y∈opt b p,Clean y:=λb p X y q=>by rw[YA q];exact fZ X
 have ac:∀y∈r,Clean y:=by
  intro y q;rw[hr]at q;simp only[List.mem_append]at q;rcases q with(((((q|q)|q)|q)|q)|q)|q
  ·exact O _ pE _ (by decide) a8 y q
  ·exact O _ pA _ (by decide) (λ_=>Q9 V.1) y q
  ·exact O _ pD _ (by decide) (λ_=>Ra g.dc) y q
  ·exact O _ pP _ (by decide) (λ_=>g.pc) y q
  ·exact al _ pS (by decide) y q
  ·exact al _ pH (by decide) y q
  ·exact O _ pM _ (by decide) (λ_=>fZ M.2.2.1) y q
 have bc:bR 59 [] (eh h)=(h.name++[61]++h.value)::r.map (32:: ·):=by
  rw[aj];exact Ov r _ (λc E=>(Y c E).2) λy q c E=>(ac y q c E).2
 have bb: ¬ (eh h).any jE=true:=by
  intro I;obtain⟨c,E,Z⟩:=List.any_eq_true.1 I;rw[aj]at E;have:=Il r _ (λc E=>(Y c E).1) (λy q c E=>(ac y q c E).1) c E;rw[this]at Z;cases Z
 have bj:nameOf (h.name++[61]++h.value)=(h.name,h.value):=by
  have D:h.name++[61]++h.value=h.name++61::h.value:=by simp
  obtain⟨an,ar,a0⟩:=Oj h.value g.ne;unfold nameOf;rw[D,a0,an,ar,if_pos rfl,g.nt,g.vt]
 unfold bI;rw[if_neg bb,bc];simp only[List.headD_cons,bj,List.drop_one,List.tail_cons];rw[if_neg g.nz,if_neg (by have:=g.nl;omega)];congr 1;rw[hr];simp only[map_append,foldl_append,UE];have b1:(if h.hasE=true then gP { lS with name:=h.name,value:=h.value } (32::(pE++iY h.exp))else{ lS with name:=h.name,value:=h.value })= { lS with name:=h.name,value:=h.value,hasE:=h.hasE,exp:=h.exp } :=by
  have I:=g.ex;cases ad:h.hasE
  ·rw[ad]at I;rw[if_neg (by decide)];have b0:h.exp=0:=I;rw[b0];rfl
  ·rw[ad,if_pos rfl]at I;rw[if_pos rfl];have D:(32::(pE++iY h.exp))=[32,69,120,112,105,114,101,115]++61::iY h.exp:=rfl;rw[D,yG (key:=[101,120,112,105,114,101,115]) _ (by decide) _ (by decide) (by rw[I.2.2.1];have:=yJ h.exp;omega),I.2.2.1];unfold mn;rw[if_pos rfl,if_pos I.1,I.2.1]
 rw[b1];have b2:(if h.hasA=true then gP { lS with name:=h.name,value:=h.value,hasE:=h.hasE,exp:=h.exp } (32::(pA++Lib.itoa h.age))else{ lS with name:=h.name,value:=h.value,hasE:=h.hasE,exp:=h.exp })=
  { lS with name:=h.name,value:=h.value,hasE:=h.hasE,exp:=h.exp,hasA:=h.hasA,age:=h.age } :=by
  cases a9:h.hasA
  ·rw[if_neg (by decide),U.2.2 a9];rfl
  ·rw[if_pos rfl];have D:(32::(pA++Lib.itoa h.age))=[32,77,97,120,45,65,103,101]++61::Lib.itoa h.age:=rfl;have b8:=Lib.itoa_length_le h.age (by omega) (by omega);rw[D,yG (key:=[109,97,120,45,97,103,101]) _ (by decide) _ (by decide) (by rw[OC V.1];omega),OC V.1];unfold mn;rw[if_neg (by decide),if_pos rfl,Ua U.1 U.2.1]
 rw[b2];have b3:∀e:Hdr,e.domain=[]->(if(!(h.domain==[]))=true then gP e (32::(pD++wI h.domain))else e)= { e with domain:=h.domain } :=by
  intro e G;by_cases H:h.domain=[]
  ·rw[H,if_neg (by decide),<- G]
  ·rw[if_pos (by simpa using H)];have D:(32::(pD++wI h.domain))=[32,68,111,109,97,105,110]++61::wI h.domain:=rfl;rw[D,yG (key:=[100,111,109,97,105,110]) _ (by decide) _ (by decide) (by rw[Pr g.de];exact g.dn),Pr g.de];unfold mn;rw[if_neg (by decide),if_neg (by decide),if_pos rfl,Ux H,g.dl]
 rw[b3 _ rfl];have b4:∀e:Hdr,e.path=[]->(if(!(h.path==[]))=true then gP e (32::(pP++h.path))else e)= { e with path:=h.path } :=by
  intro e G;by_cases H:h.path=[]
  ·rw[H,if_neg (by decide),<- G]
  ·rw[if_pos (by simpa using H)];have D:(32::(pP++h.path))=[32,80,97,116,104]++61::h.path:=rfl;rw[D,yG (key:=[112,97,116,104]) _ (by decide) _ (by decide) (by rw[g.pt];exact g.pl),g.pt];unfold mn;rw[if_neg (by decide),if_neg (by decide),if_neg (by decide),if_pos rfl,if_pos (g.ph.resolve_left H)]
 rw[b4 _ rfl];have b5:∀e:Hdr,e.sec=false->(if h.sec=true then gP e (32::pS)else e)= { e with sec:=h.sec } :=by
  intro e G;cases bk:h.sec
  ·rw[if_neg (by decide),<- G]
  ·rw[if_pos rfl,Ms (key:=[115,101,99,117,114,101]) (by decide) _ (by decide)];unfold mn;rw[if_neg (by decide),if_neg (by decide),if_neg (by decide),if_neg (by decide),if_pos rfl]
 rw[b5 _ rfl];have b6:∀e:Hdr,e.http=false->(if h.http=true then gP e (32::pH)else e)= { e with http:=h.http } :=by
  intro e G;cases bk:h.http
  ·rw[if_neg (by decide),<- G]
  ·rw[if_pos rfl,Ms (key:=[104,116,116,112,111,110,108,121]) (by decide) _ (by decide)];unfold mn;rw[if_neg (by decide),if_neg (by decide),if_neg (by decide),if_neg (by decide),if_neg (by decide),if_pos rfl]
 rw[b6 _ rfl];have b7:∀e:Hdr,e.same=0->(if(decide (0<h.same)&&decide (h.same <=3))=true then gP e (32::(pM++nmL[h.same.toNat]?.getD []))else e)= { e with same:=h.same } :=by
  intro e G;have:=g.sm;by_cases H:h.same=0
  ·rw[H,if_neg (by decide),<- G]
  ·rw[if_pos (by simp;omega)];have D:(32::(pM++nmL[h.same.toNat]?.getD []))=[32,83,97,109,101,83,105,116,101]++61::nmL[h.same.toNat]?.getD []:=rfl;rw[D,yG (key:=[115,97,109,101,115,105,116,101]) _ (by decide) _ (by decide) (by rw[M.1];exact M.2.2.2),M.1];unfold mn;rw[if_neg (by decide),if_neg (by decide),if_neg (by decide),if_neg (by decide),if_neg (by decide),if_neg (by decide),if_pos rfl,M.2.1]
 rw[b7 _ rfl]
theorem WV {h:Hdr}(g:Good h):Du h:=by
 have:=g.nl;have:=g.pl;have D:h.domain.length <=(wI h.domain).length:=by unfold wI;split<;>simp
 have:=g.dn;refine⟨by omega,by omega,by omega,by omega,?_,by have:=g.ag;omega⟩;have e:=g.ex;by_cases q:h.hasE=true
 ·rw[if_pos q]at e;exact e.2.2.2.2
 ·rw[if_neg q]at e;omega
def BT (s:lU)(b:Bool)(x:lU):lU:=if b=true then s++([59,32]++x)else s
theorem tX (s:lU)(b:Bool)(x:lU):(BT s b x).length <=s.length+x.length+2:=by
 unfold BT;split
 ·simp;omega
 ·omega
def pu (s:lU):lU:=if s.head?=some 46\/s.head?=some 32\/s.head?=some 9 then 46::s else s
theorem W1 (sep:lU)(A B:List lU):Lib.joinTail sep (A++B)=Lib.joinTail sep A++Lib.joinTail sep B:=by
 unfold Lib.joinTail;simp
theorem qp {A:List lU}(hA:A≠[])(b:Bool)(x:lU):Lib.join (A++opt b x) [59,32]=BT (Lib.join A [59,32]) b x:=by
 cases A with
 |nil=>exact absurd rfl hA
 |cons y A=>
  cases b with
  |false=>unfold opt BT;simp
  |true=>
   unfold opt BT;rw[if_pos rfl,cons_append,Lib.join_cons,Lib.join_cons,W1];unfold Lib.joinTail;simp
noncomputable def w1V (h:Hdr):lU:=BT (h.name++[61]++h.value) h.hasE (pE++iY h.exp)
noncomputable def w2V (h:Hdr):lU:=BT (w1V h) h.hasA (pA++Lib.itoa h.age)
noncomputable def w3V (h:Hdr)(d:lU):lU:=BT (w2V h) (!(h.domain==[])) (pD++d)
noncomputable def w4V (h:Hdr)(d:lU):lU:=BT (w3V h d) (!(h.path==[])) (pP++h.path)
noncomputable def w5V (h:Hdr)(d:lU):lU:=BT (w4V h d) h.sec pS
noncomputable def w6V (h:Hdr)(d:lU):lU:=BT (w5V h d) h.http pH
noncomputable def w7V (h:Hdr)(d:lU):lU:=BT (w6V h d) (decide (0<h.same)&&decide (h.same <=3)) (pM++nmL[h.same.toNat]?.getD [])
theorem QE (h:Hdr):eh h=w7V h (wI h.domain):=by
 have ne:∀(A B:List lU),A≠[]->A++B≠[]:=λA B hA q=>hA (List.append_eq_nil_iff.1 q).1;have e:([h.name++[61]++h.value]:List lU)≠[]:=by simp
 unfold eh tV w7V w6V w5V w4V w3V w2V w1V;rw[qp (ne _ _ (ne _ _ (ne _ _ (ne _ _ (ne _ _ (ne _ _ e)))))),qp (ne _ _ (ne _ _ (ne _ _ (ne _ _ (ne _ _ e))))),qp (ne _ _ (ne _ _ (ne _ _ (ne _ _ e)))),qp (ne _ _ (ne _ _ (ne _ _ e))),qp (ne _ _ (ne _ _ e)),qp (ne _ _ e),qp e,Lib.join_one]
theorem Iu {h:Hdr}(e:nM h=true):Good h:=by
 unfold nM at e;rw[Bool.and_eq_true,dTx,xX]at e;exact Af (s:=eh h) (Prod.ext e.2 e.1)
theorem Kd {h:Hdr}(g:Good h):nM h=true:=by
 unfold nM;rw[Ls g,Bool.and_eq_true,xX];exact⟨rfl,rfl⟩
theorem Uy (h:Lok s):pu s=wI s:=by
 unfold pu wI;have D:(trimB s=s/\s.head?≠some 46)↔¬ (s.head?=some 46\/s.head?=some 32\/s.head?=some 9):=by
  rw[Dm];constructor
  ·rintro⟨⟨h1,_⟩,h2⟩ e;rcases e with e|e
   ·exact h2 e
   ·cases s with
    |nil=>rcases e with e|e<;>cases e
    |cons c r=>
     have q:mJ c=true:=by rcases e with e|e<;>rw[Option.some.inj e]<;>rfl
     unfold Hok at h1;rw[dropWhile_cons,if_pos q]at h1;have:=(List.dropWhile_sublist mJ (l:=r)).length_le;rw[h1]at this;simp at this;omega
  ·intro e;refine⟨⟨?_,h⟩,λD=>e (.inl D)⟩;cases s with
   |nil=>rfl
   |cons c r=>
    refine Da ?_;rw[Bool.eq_false_iff];intro q;unfold mJ at q;rw[Bool.or_eq_true,beq_iff_eq,beq_iff_eq]at q;rcases q with rfl|rfl
    ·exact e (.inr (.inl rfl))
    ·exact e (.inr (.inr rfl))
 by_cases c:trimB s=s/\s.head?≠some 46
 ·rw[if_pos c,if_neg (D.1 c)]
 ·rw[if_neg c,if_pos (Decidable.not_not.1 λE=>c (D.2 E))]
theorem zZa {h:Hdr} :nM h=true↔bI (w7V h (pu h.domain))=(h,0):=by
 constructor
 ·intro q;have g:=Iu q;rw[Uy g.de,<- QE];exact Ls g
 ·intro e;exact Kd (Af e)
theorem Cj (n:Nat)(I:n <=9223372036854775807)(w:World):Cf mC #[vI (n:Int)] w (Ret λv w'=>v=vS (AP n)/\bW w w'):=by
 apply Aw;refine⟨λm i s w'=>∃q:Nat,i=(q:Int)/\m=q/\q <=9223372036854775807/\AP q++s=AP n/\bW w w',⟨_,n,rfl,rfl,I,append_nil _,Below.refl _ _⟩,?_⟩;intro m i s;refine aQ.of ?_ _;rintro Z ⟨q,rfl,rfl,X,G,D⟩;have V:=jr I;have Y:s.length <=21:=by have:=congrArg length G;rw[length_append]at this;omega
 refine af.of (λh=>?_) (λh=>?_)<;>simp only[gt_iff_lt,dTx,dFx]at h
 ·refine⟨by decide,?_⟩;rintro _ rfl;have O:Int.tmod (m:Int) 10=((m%10:Nat):Int):=by rw[cY (by omega)];omega
  have M:i64.wrap (Int.tdiv (m:Int) 10)=((m/10:Nat):Int):=by rw[cD (by omega),wrJ];omega
  rw[O,M];intro U H E e;refine⟨_,gp (d:=m%10) (by omega) rfl E e H (Below.refl _ _),fits (by simp;omega),?_⟩;rintro _ rfl;refine⟨by decide,?_⟩;rintro _ rfl;refine⟨m/10,by omega,m/10,rfl,rfl,by omega,?_,ae D (e▸ao _ _) D.size⟩;rw[<- G,DU (n:=m) (by omega)];simp
 ·intro U H E e;refine⟨_,gp (d:=m) (by omega) rfl E e H (Below.refl _ _),fits (by simp;omega),?_⟩;rintro _ rfl;refine⟨?_,ae D (e▸ao _ _) D.size⟩;rw[<- G,Je (by omega)]
theorem J6 (h:Hdr)(H:Du h)(w:World):Cf rS #[h.v] w (Ret λv w'=>∃s,v=.tuple #[vS s,.bool (nM h)]/\bW w w'):=by
 refine Hy h.name h.value h.domain h.path h.hasE h.exp h.hasA h.age h.sec h.http h.same ?_;have cp:=H.name;have cr:=H.value;have ct:=H.domain;have cu:=H.path;have bc:bI (w7V h (pu h.domain))≠(h,0)->nM h=false:=λE=>by
  rw[Bool.eq_false_iff];exact λaj=>E (zZa.1 aj)
 intro c1 b0 b6 b8;obtain⟨M,ar⟩:=xb h w b6 b8;refine⟨rfl,_,M.load1 ax rfl rfl,fits (by simp;omega),?_⟩;rintro _ rfl;refine⟨rfl,_,M.load1 ax rfl rfl,fits (by simp;omega),?_⟩;rintro _ rfl;have c5:=yJ h.exp;have c0:=Lib.itoa_length_le h.age H.age.1 H.age.2;have ca:(w1V h).length <=40100:=by
  have:=tX (h.name++[61]++h.value) h.hasE (pE++iY h.exp);unfold w1V;simp[pE]at this ⊢;omega
 refine⟨λs w'=>s=w1V h/\bW b0 w',?_,?_⟩
 ·refine⟨rfl,_,M.load1 bK rfl rfl,af.of (λc=>?_) (λc=>⟨by unfold w1V BT;rw[c];rfl,Below.refl _ _⟩)⟩;refine⟨rfl,_,M.load1 bB rfl rfl,?_⟩;refine aA (J0 h.exp H.exp.1 H.exp.2 b0) ?_;rintro _ an ⟨rfl,U⟩;refine⟨_,rfl,fits (by simp;omega),?_⟩;rintro _ rfl;refine⟨fits (by simp;omega),?_⟩;rintro _ rfl;exact⟨by unfold w1V BT;rw[c];rfl,U⟩
 intro c3;refine aQ.of ?_ _;rintro an ⟨rfl,U⟩;have Z:=ae ar U ar.size;have Y:=M.below U;have cb:(w2V h).length <=40200:=by
  have:=tX (w1V h) h.hasA (pA++Lib.itoa h.age);unfold w2V;simp[pA]at this ⊢;omega
 refine⟨λs w'=>s=w2V h/\bW an w',?_,?_⟩
 ·refine⟨rfl,_,Y.load1 bK rfl rfl,af.of (λc=>?_) (λc=>⟨by unfold w2V BT;rw[c];rfl,Below.refl _ _⟩)⟩;refine⟨rfl,_,Y.load1 bB rfl rfl,af.of (λe=>?_) (λe=>?_)⟩
  ·have e:h.age<0:=of_decide_eq_true e;refine⟨[],?_,Z⟩;have:nM h=false:=by
    rw[Bool.eq_false_iff];intro aj;have:=(Iu aj).ag.1;omega
   rw[this]
  ·have e: ¬ h.age<0:=of_decide_eq_false e;refine⟨rfl,_,Y.load1 bB rfl rfl,?_⟩;have b2:h.age=((h.age.toNat:Nat):Int):=by omega
   have bj:=Cj h.age.toNat (by have:=H.age.2;omega) an;rw[<- b2]at bj;refine aA bj ?_;rintro _ G ⟨rfl,V⟩;have b3:AP h.age.toNat=Lib.itoa h.age:=by rw[JC (by omega)]
   rw[b3];refine⟨_,rfl,fits (by simp;omega),?_⟩;rintro _ rfl;refine⟨fits (by simp;omega),?_⟩;rintro _ rfl;exact⟨by unfold w2V BT;rw[c];rfl,V⟩
 intro c4;refine aQ.of ?_ _;rintro G ⟨rfl,V⟩;have a0:=ae Z V Z.size;have D:=Y.below V;have cl:(pu h.domain).length <=20001:=by
  unfold pu;split
  ·simp;omega
  ·omega
 have cc:(w3V h (pu h.domain)).length <=60300:=by
  have:=tX (w2V h) (!(h.domain==[])) (pD++pu h.domain);unfold w3V;simp only[pD,length_append,length_cons,length_nil]at this ⊢;omega
 refine NZ (w:=G) (w3V h (pu h.domain)) ?_ ?_
 ·refine⟨rfl,_,D.load1 ax rfl rfl,af.of (λc=>⟨fits (by simp;omega),?_⟩) (λc=>⟨rfl,?_⟩)⟩
  ·rintro _ rfl;have b7:h.domain≠[]:=by simpa using c
   have bk:0<h.domain.length:=List.length_pos_iff.2 b7;have O:=byte_at (s:=h.domain) (k:=0) bk;rw[show((0:Nat):Int)=0 from rfl]at O;have bq:=im h.domain[0] 46;have u32:=im h.domain[0] 32;have bs:=im h.domain[0] 9;rw[show(((46:UInt8).toNat:Nat):Int)=46 from rfl]at bq;rw[show(((32:UInt8).toNat:Nat):Int)=32 from rfl]at u32;rw[show(((9:UInt8).toNat:Nat):Int)=9 from rfl]at bs;have X:h.domain.head?=some h.domain[0]:=by rw[List.head?_eq_getElem?,List.getElem?_eq_getElem bk]
   have ad:(0 <=(0:Int)/\(0:Int)<((h.domain.length:Nat):Int)):=⟨by decide,by omega⟩
   refine NZ (w:=G) (w2V h++[59,32,68,111,109,97,105,110,61]++(if h.domain.head?=some 46\/h.domain.head?=some 32\/h.domain.head?=some 9 then[46]else[])) ?_ ?_
   ·refine⟨rfl,_,D.load1 ax rfl rfl,ad,?_⟩;rw[O,bq];refine af.of (λq=>⟨fits (by simp;omega),?_⟩) (λq=>?_)
    ·rintro _ rfl;exact⟨rfl,by rw[if_pos (.inl (by rw[X,eq_of_beq q]))]⟩
    refine⟨rfl,_,D.load1 ax rfl rfl,ad,?_⟩;rw[O,u32];refine af.of (λe=>⟨fits (by simp;omega),?_⟩) (λe=>?_)
    ·rintro _ rfl;exact⟨rfl,by rw[if_pos (.inr (.inl (by rw[X,eq_of_beq e])))]⟩
    refine⟨rfl,_,D.load1 ax rfl rfl,ad,?_⟩;rw[O,bs];refine af.of (λI=>⟨fits (by simp;omega),?_⟩) (λI=>⟨rfl,?_⟩)
    ·rintro _ rfl;exact⟨rfl,by rw[if_pos (.inr (.inr (by rw[X,eq_of_beq I])))]⟩
    ·rw[if_neg,append_nil];rw[X];rintro(E|E|E)
     ·rw[Option.some.inj E]at q;simp at q
     ·rw[Option.some.inj E]at e;simp at e
     ·rw[Option.some.inj E]at I;simp at I
   ·refine⟨rfl,_,D.load1 ax rfl rfl,fits (by simp;split<;>simp<;>omega),?_⟩;rintro _ rfl;refine⟨rfl,?_⟩;unfold w3V BT;rw[if_pos c];unfold pu;split<;>simp[pD]
  ·unfold w3V BT;rw[if_neg (by rw[c];decide)]
 have ce:(w4V h (pu h.domain)).length <=80400:=by
  have:=tX (w3V h (pu h.domain)) (!(h.path==[])) (pP++h.path);unfold w4V;simp only[pP,length_append,length_cons,length_nil]at this ⊢;omega
 refine NZ (w:=G) (w4V h (pu h.domain)) ?_ ?_
 ·refine⟨rfl,_,D.load1 ax rfl rfl,af.of (λc=>?_) (λc=>⟨rfl,by unfold w4V BT;rw[if_neg (by rw[c];decide)]⟩)⟩;refine⟨rfl,_,D.load1 ax rfl rfl,fits (by simp;omega),?_⟩;rintro _ rfl;refine⟨fits (by simp;omega),?_⟩;rintro _ rfl;exact⟨rfl,by unfold w4V BT;rw[if_pos c];rfl⟩
 have cf:(w5V h (pu h.domain)).length <=80500:=by
  have:=tX (w4V h (pu h.domain)) h.sec pS;unfold w5V;simp only[pS,length_cons,length_nil]at this ⊢;omega
 refine NZ (w:=G) (w5V h (pu h.domain)) ?_ ?_
 ·refine⟨rfl,_,D.load1 bK rfl rfl,af.of (λc=>⟨fits (by simp;omega),?_⟩) (λc=>⟨rfl,by unfold w5V BT;rw[if_neg (by rw[c];decide)]⟩)⟩;rintro _ rfl;exact⟨rfl,by unfold w5V BT;rw[if_pos c];rfl⟩
 have ch:(w6V h (pu h.domain)).length <=80600:=by
  have:=tX (w5V h (pu h.domain)) h.http pH;unfold w6V;simp only[pH,length_cons,length_nil]at this ⊢;omega
 refine NZ (w:=G) (w6V h (pu h.domain)) ?_ ?_
 ·refine⟨rfl,_,D.load1 bK rfl rfl,af.of (λc=>⟨fits (by simp;omega),?_⟩) (λc=>⟨rfl,by unfold w6V BT;rw[if_neg (by rw[c];decide)]⟩)⟩;rintro _ rfl;exact⟨rfl,by unfold w6V BT;rw[if_pos c];rfl⟩
 have al:w7V h (pu h.domain)=if h.same=1 then w6V h (pu h.domain)++[59,32,83,97,109,101,83,105,116,101,61,78,111,110,101]else if h.same=2 then w6V h (pu h.domain)++[59,32,83,97,109,101,83,105,116,101,61,76,97,120]
  else if h.same=3 then w6V h (pu h.domain)++[59,32,83,97,109,101,83,105,116,101,61,83,116,114,105,99,116]else w6V h (pu h.domain):=by
  unfold w7V BT;by_cases q:h.same=1
  ·rw[q];rfl
  by_cases e:h.same=2
  ·rw[e];rfl
  by_cases I:h.same=3
  ·rw[I];rfl
  rw[if_neg q,if_neg e,if_neg I,if_neg (by simp;omega)]
 refine NZ (w:=G) (if h.same=1 then w6V h (pu h.domain)++[59,32,83,97,109,101,83,105,116,101,61,78,111,110,101]else w6V h (pu h.domain)) ?_ ?_
 ·refine⟨rfl,_,D.load1 bC rfl rfl,af.of (λc=>⟨fits (by simp;omega),?_⟩) (λc=>⟨rfl,by rw[if_neg (beq_eq_false_iff_ne.1 c)]⟩)⟩;rintro _ rfl;exact⟨rfl,by rw[if_pos (eq_of_beq c)]⟩
 have b1:(if h.same=1 then w6V h (pu h.domain)++[59,32,83,97,109,101,83,105,116,101,61,78,111,110,101]else w6V h (pu h.domain)).length <=80700:=by
  split
  ·simp;omega
  ·omega
 refine NZ (w:=G) (if h.same=2 then w6V h (pu h.domain)++[59,32,83,97,109,101,83,105,116,101,61,76,97,120]else(if h.same=1 then w6V h (pu h.domain)++[59,32,83,97,109,101,83,105,116,101,61,78,111,110,101]else w6V h (pu h.domain))) ?_ ?_
 ·refine⟨rfl,_,D.load1 bC rfl rfl,af.of (λc=>⟨fits (by simp only[length_cons,length_nil];omega),?_⟩) (λc=>⟨rfl,by rw[if_neg (beq_eq_false_iff_ne.1 c)]⟩)⟩;rintro _ rfl;have c:=eq_of_beq c;exact⟨rfl,by rw[if_pos c,if_neg (by omega)]⟩
 have cj:(if h.same=2 then w6V h (pu h.domain)++[59,32,83,97,109,101,83,105,116,101,61,76,97,120]else(if h.same=1 then w6V h (pu h.domain)++[59,32,83,97,109,101,83,105,116,101,61,78,111,110,101]else w6V h (pu h.domain))).length <=80700:=by
  split
  ·simp;omega
  ·exact b1
 have ck:(w7V h (pu h.domain)).length <=80800:=by
  rw[al];split
  ·simp;omega
  split
  ·simp;omega
  split
  ·simp;omega
  ·omega
 refine NZ (w:=G) (w7V h (pu h.domain)) ?_ ?_
 ·refine⟨rfl,_,D.load1 bC rfl rfl,af.of (λc=>⟨fits (by simp only[length_cons,length_nil];omega),?_⟩) (λc=>⟨rfl,?_⟩)⟩
  ·rintro _ rfl;have c:=eq_of_beq c;refine⟨rfl,?_⟩;have q: ¬ h.same=1:=by omega
   have e: ¬ h.same=2:=by omega
   rw[al];simp only[if_neg q,if_neg e,if_pos c]
  ·have c:=beq_eq_false_iff_ne.1 c;rw[al];by_cases q:h.same=1
   ·have e: ¬ h.same=2:=by omega
    simp only[if_pos q,if_neg e]
   by_cases e:h.same=2
   ·simp only[if_pos e,if_neg q]
   ·simp only[if_neg q,if_neg e,if_neg c]
 refine aA (ve _ (by omega) G) ?_;rintro _ b9 ⟨rfl,a9⟩;have a8:=ae a0 a9 a0.size;have b5:=D.below a9;refine⟨_,_,_,_,_,_,_,_,_,_,_,_,rfl,?_⟩;refine Jo (bI (w7V h (pu h.domain))).1 b9 λc2 c6 cn b4 bb=>?_;have ac:=ae a8 bb a8.size;refine af.of (λc=>⟨[],?_,ac⟩) (λc=>?_)
 ·have c:(bI (w7V h (pu h.domain))).2≠0:=by simpa using c
  rw[bc λE=>c (by rw[E])]
 have c:(bI (w7V h (pu h.domain))).2=0:=by simpa using c
 refine⟨_,_,_,_,_,_,_,_,_,_,_,fY _ b4,_,_,_,_,_,_,_,_,_,_,_,fY _ (b5.below bb),_,Yr _ _ _,af.of (λe=>⟨[],?_,ac⟩) (λe=>⟨w7V h (pu h.domain),?_,ac⟩)⟩
 ·rw[Bool.not_eq_true']at e;rw[bc λE=>?_];rw[E]at e;have:=(xX h h).2 rfl;rw[this]at e;cases e
 ·rw[Bool.not_eq_false',xX]at e;rw[zZa.2 (Prod.ext e c)]
def Va:lU:=[95,95,115,101,99,117,114,101,45]
def VT:lU:=[95,95,104,111,115,116,45]
def xk (s:lU):Int:=if cv (s.take 9)=Va then 1 else if cv (s.take 7)=VT then 2 else 0
def mu (rs:List Rul)(u:Hst)(t:lU):Hst×Bool×Int:=if t=[]then(u,true,0)else match bV t with
 |none=>(gO,false,101)
 |some d=>if(Gm rs d && !gA d u)=true then(d,false,102)else if(!AQ u d)=true then(d,false,103)else(d,Gm rs d,0)
def XS (h:Hdr)(now:Int):Int:=if h.hasA=true then i64.wrap (now+h.age)else if h.hasE=true then(if i64.wrap (now+34560000)<h.exp then i64.wrap (now+34560000)else h.exp)else 9223372036854775807
def AK (h:Hdr):lU:=if h.name=[]then h.value else h.name
def DH (h:Hdr)(only:Bool):Bool:=if xk (AK h)=1 then !h.sec else if xk (AK h)=2 then(!h.sec || (!only || !(h.path==[47])))else false
noncomputable def Np (u:Url)(h:Hdr)(now:Int):Int:=if(!nN u)=true then 41 else if(!nM h)=true then 82 else if now<0 then 122 else if 1099511627776<now then 122 else 0
def Ib (u:Url)(h:Hdr)(d:Hst×Bool×Int):Int:=
 if d.2.2≠0 then d.2.2 else if(h.sec && !u.sec)=true then 104 else if(decide (h.same=1) && !h.sec)=true then 105 else if DH h d.2.1=true then 106 else 0
def XR (u:Url)(h:Hdr)(d:Hst×Bool×Int)(now:Int):Cky:=⟨h.name,h.value,d.1,d.2.1,if h.path=[]then Nb u.path else h.path,h.sec,h.http,h.same,XS h now,now,now,0⟩
noncomputable def jR (rs:List Rul)(u:Url)(h:Hdr)(now:Int):Cky×Int:=
 if Np u h now≠0 then(mq,Np u h now)else if Ib u h (mu rs u.host h.domain)≠0 then(mq,Ib u h (mu rs u.host h.domain))else(XR u h (mu rs u.host h.domain) now,0)
def YV (x:Cky×Int):Value:=.tuple #[x.1.v,vI x.2]
theorem Ro {rs:List Rul}{u:Hst}(o:u.ok)(t:lU):(mu rs u t).1.ok:=by
 unfold mu;split
 ·exact o
 split
 ·rfl
 ·rename_i d e;have:=gG e;split
  ·exact this
  split<;>exact this
theorem N2 {rs:List Rul}{u:Url}(o:u.ok)(h:Hdr)(e:Int):(jR rs u h e).1.ok:=by
 unfold jR;split
 ·rfl
 split
 ·rfl
 ·exact Ro o _
theorem Dz (s:lU)(w:World):Cf nV #[vS s] w (Ret λv w'=>v=vI (xk s)/\bW w w'):=by
 apply Cn;refine⟨λm i w'=>bW w w'/\(m=3/\i=0\/m=2/\i=1\/m=1/\i=2/\cv (s.take 9)≠Va\/m=0/\i=3/\cv (s.take 9)≠Va/\cv (s.take 7)≠VT),⟨3,Below.refl _ _,.inl ⟨rfl,rfl⟩⟩,?_⟩;intro m i;refine aQ.of ?_ _;rintro G ⟨hB,h⟩;rcases h with⟨rfl,rfl⟩|⟨rfl,rfl⟩|⟨rfl,rfl,h1⟩|⟨rfl,rfl,h1,H⟩
 ·exact af.yes (by decide) ⟨[],by kernel_rfl,af.no (by decide) ⟨2,by decide,hB,.inr (.inl ⟨rfl,rfl⟩)⟩⟩
 ·refine af.yes (by decide) ⟨Va,by kernel_rfl,af.yes (by decide) (af.of (λc=>?_) (λc=>⟨1,by decide,hB,.inr (.inr (.inl ⟨rfl,rfl,?_⟩))⟩))⟩
  ·refine⟨⟨by omega,by simpa using c⟩,?_⟩;rintro _ rfl;refine aA (eA _ (by show(s.take 9).length <=_;rw[length_take];omega) G) ?_;rintro _ I ⟨rfl,E⟩;have q:=ae hB E hB.size;refine⟨_,rfl,af.of (λe=>⟨?_,q⟩) (λe=>⟨1,by decide,q,.inr (.inr (.inl ⟨rfl,rfl,beq_eq_false_iff_ne.1 e⟩))⟩)⟩;have e:cv (s.take 9)=Va:=eq_of_beq e;unfold xk;rw[if_pos e]
  ·intro D;have:=congrArg length D;simp[cv,Va]at this c;omega
 ·refine af.yes (by decide) ⟨VT,by kernel_rfl,af.yes (by decide) (af.of (λc=>?_) (λc=>⟨0,by decide,hB,.inr (.inr (.inr ⟨rfl,rfl,h1,?_⟩))⟩))⟩
  ·refine⟨⟨by omega,by simpa using c⟩,?_⟩;rintro _ rfl;refine aA (eA _ (by show(s.take 7).length <=_;rw[length_take];omega) G) ?_;rintro _ I ⟨rfl,E⟩;have q:=ae hB E hB.size;refine⟨_,rfl,af.of (λe=>⟨?_,q⟩) (λe=>⟨0,by decide,q,.inr (.inr (.inr ⟨rfl,rfl,h1,beq_eq_false_iff_ne.1 e⟩))⟩)⟩;have e:cv (s.take 7)=VT:=eq_of_beq e;unfold xk;rw[if_neg h1,if_pos e]
  ·intro D;have:=congrArg length D;simp[cv,VT]at this c;omega
 ·refine af.no (by decide) ⟨?_,hB⟩;unfold xk;rw[if_neg h1,if_neg H]
theorem sx (s p:lU)(D:p.length <=1000)(w:World):Cf ko #[vS s,vS p] w (Ret λv w'=>v=.bool (decide (cv (s.take p.length)=p))/\bW w w'):=by
 apply CN;refine af.of (λc=>?_) (λc=>⟨?_,Below.refl _ _⟩)
 ·refine⟨⟨by omega,by simpa using c⟩,?_⟩;rintro _ rfl;rw[Int.toNat_natCast];refine aA (iI _ (by rw[length_take];omega) w) ?_;rintro _ E ⟨rfl,q⟩;refine⟨_,rfl,?_,q⟩;congr 1;rw[Bool.eq_iff_iff];simp
 ·rw[decide_eq_false];intro e;have:=congrArg length e;simp[cv]at this c;omega
theorem EF (s:lU)(w:World):Cf oA #[vS s] w (Ret λv w'=>v=vI (xk s)/\bW w w'):=by
 apply CM;refine aA (sx s Va (by decide) w) ?_;rintro _ G ⟨rfl,q⟩;refine⟨_,rfl,af.of (λc=>⟨?_,q⟩) (λc=>?_)⟩
 ·have c:cv (s.take 9)=Va:=of_decide_eq_true c;unfold xk;rw[if_pos c]
 have c: ¬ cv (s.take 9)=Va:=of_decide_eq_false c;refine aA (sx s VT (by decide) G) ?_;rintro _ H ⟨rfl,E⟩;have D:=ae q E q.size;refine⟨_,rfl,af.of (λe=>⟨?_,D⟩) (λe=>⟨?_,D⟩)⟩
 ·have e:cv (s.take 7)=VT:=of_decide_eq_true e;unfold xk;rw[if_neg c,if_pos e]
 ·have e: ¬ cv (s.take 7)=VT:=of_decide_eq_false e;unfold xk;rw[if_neg c,if_neg e]
theorem BU (h:Hdr)(D:Int)(w:World):Cf mv #[h.v,vI D] w (Ret λv w'=>v=vI (XS h D)/\bW w w'):=by
 refine Am h.name h.value h.domain h.path h.hasE h.exp h.hasA h.age h.sec h.http h.same D ?_;intro H I E G;obtain⟨e,q⟩:=xb h w E G;unfold XS;refine⟨rfl,_,e.load1 bK rfl rfl,af.of (λc=>?_) (λc=>?_)⟩
 ·rw[if_pos c];exact⟨rfl,_,e.load1 bB rfl rfl,rfl,q⟩
 rw[if_neg (by rw[c];decide)];refine⟨rfl,_,e.load1 bK rfl rfl,af.of (λc=>?_) (λc=>?_)⟩
 ·rw[if_pos c];exact⟨rfl,_,e.load1 bB rfl rfl,_,run_min_int2 _ _ _ _ _ _ _,rfl,q⟩
 ·rw[if_neg (by rw[c];decide)];exact⟨rfl,q⟩
theorem DA (h:Hdr)(only:Bool)(w:World):Cf nW #[h.v,.bool only] w (Ret λv w'=>v=.bool (DH h only)/\bW w w'):=by
 refine Co h.name h.value h.domain h.path h.hasE h.exp h.hasA h.age h.sec h.http h.same only ?_;intro V M O U;obtain⟨E,H⟩:=xb h w O U;refine⟨rfl,_,E.load1 ax rfl rfl,?_⟩;refine NZ (w:=M) (AK h) ?_ ?_
 ·unfold AK;exact af.of (λc=>⟨rfl,_,E.load1 ax rfl rfl,rfl,by rw[if_pos (eq_of_beq c)]⟩) (λc=>⟨rfl,by rw[if_neg (beq_eq_false_iff_ne.1 c)]⟩)
 refine aA (Dz (AK h) M) ?_;rintro _ X ⟨rfl,I⟩;have e:=ae H I H.size;have G:=E.below I;unfold DH;refine⟨_,rfl,af.of (λc=>?_) (λc=>?_)⟩
 ·rw[if_pos (eq_of_beq c)];exact⟨rfl,_,G.load1 bK rfl rfl,rfl,e⟩
 rw[if_neg (beq_eq_false_iff_ne.1 c)];refine af.of (λc=>?_) (λc=>?_)
 ·rw[if_pos (eq_of_beq c)];refine⟨rfl,_,G.load1 bK rfl rfl,af.of (λq=>⟨by rw[q];rfl,e⟩) (λq=>?_)⟩;rw[q,Bool.false_or];refine af.of (λD=>⟨by rw[D];rfl,e⟩) (λD=>?_);rw[D,Bool.false_or];exact⟨rfl,_,G.load1 ax rfl rfl,rfl,e⟩
 ·rw[if_neg (beq_eq_false_iff_ne.1 c)];exact⟨rfl,e⟩
theorem Gs {u:Url}(o:u.ok)(ag:u.host.name.length <=1000000000)(h:Hdr)(aj:Du h)(e:Int)(w:World)(O:Env w):Cf pG #[u.v,h.v,vI e] w (Ret λv w'=>v=vI (Np u h e)/\bW w w'):=by
 refine EI u.v h.name h.value h.domain h.path h.hasE h.exp h.hasA h.age h.sec h.http h.same e ?_;intro an G ac U;have H:=(U▸ao w _:bW w G)
 have V:au G an bf u.cells:=au.new ac U;intro a8 ar ad al;obtain⟨Y,I⟩:=xb h G ad al;have E:=ae H I H.size;unfold Np;refine⟨_,pr.load0 (V.below I) (Url.len o),?_⟩;refine aA (sR o ag ar (O.step E)) ?_;rintro _ a0 ⟨rfl,M⟩;have q:=ae E M E.size;have Z:=Y.below M;refine⟨_,rfl,af.of (λc=>⟨by rw[if_pos c],q⟩) (λc=>?_)⟩;rw[if_neg (by rw[c];decide)];refine⟨_,_,_,_,_,_,_,_,_,_,_,fY h Z,?_⟩;refine aA (Eh h aj a0 (O.step q)) ?_;rintro _ a9 ⟨rfl,X⟩;have D:=ae q X q.size;refine⟨_,rfl,af.of (λc=>⟨by rw[if_pos c],D⟩) (λc=>?_)⟩;rw[if_neg (by rw[c];decide)];refine af.of (λc=>⟨by rw[if_pos (of_decide_eq_true c)],D⟩) (λc=>?_);rw[if_neg (of_decide_eq_false c)];exact af.of (λc=>⟨by rw[if_pos (show 1099511627776<e from of_decide_eq_true c)],D⟩) (λc=>⟨by rw[if_neg (show ¬ 1099511627776<e from of_decide_eq_false c)],D⟩)
theorem WF {h:Hst}(o:h.ok){w w':World}(q:au w' n ai gO.cells)(E:bW w w')(H:w.heap.size <=n){b:Bool}{K:Value->World->Prop}
 (D:∀wx,bW w wx->K (.tuple #[h.v,.bool b,vI a]) wx):
 ∃(wx:World),(Instr.storeAt ai (.pointer (some ⟨n,0,none⟩)) h.v).run prog w'=.ok () wx/\∃e:Value,(aS ai (.pointer (some ⟨n,0,none⟩))).run prog wx=.ok e wx/\K (.tuple #[e,.bool b,vI a]) wx:=
 aR.fin (K:=λe wx=>K (.tuple #[e,.bool b,vI a]) wx) (cs:=h.cells) (Hst.len o) (Hst.one h) q rfl E H λwx G=>D wx G
def YW (x:Hst×Bool×Int):Value:=.tuple #[x.1.v,.bool x.2.1,vI x.2.2]
theorem DB {w0:World}(ag:Env w0){b4 cp:Nat}{a:Option Addr}{n c:Nat}{cu:List Pth}{cr:List (jZ×Int)}{b7:List (List Bool)}{rs:List Rul}(S:kV w0 bm bE b4 cp a n c cu cr b7 rs w){u:Hst}(o:u.ok)(cj:u.name.length <=1000000000)(t:lU)(c2:t.length <=100000000):
 Cf nY #[.pointer (some ⟨b4,0,none⟩),u.v,vS t] w (Ret λv w'=>v=YW (mu rs u t)/\bW w w'):=by
 apply Cp;intro b3 aj ce b1;have ar:=(b1▸ao w _:bW w aj)
 have b8:au aj b3 ai u.cells:=au.new ce b1;intro k6 ad cf b2;have bq:=(b2▸ao aj _:bW aj ad)
 have H:=ae ar bq ar.size;have b9:au ad k6 ai gO.cells:=au.new cf b2;have bk:=b8.below bq;have ch:w.heap.size <=k6:=by have:=ar.size;omega
 have U:∀{wx:World} {h:Hst} {b:Bool} {an:Int},h.ok->mu rs u t=(h,b,an)->bW ad wx->∃X,(Instr.storeAt ai (.pointer (some ⟨k6,0,none⟩)) h.v).run prog wx=.ok () X/\∃b6:Value,(aS ai (.pointer (some ⟨k6,0,none⟩))).run prog X=.ok b6 X/\
  ((.tuple #[b6,.bool b,vI an]:Value)=YW (mu rs u t)/\bW w X):=fun{wx h b an} ct ck b0=>
  WF ct (b9.below b0) (ae H b0 H.size) ch (K:=λv X=>v=YW (mu rs u t)/\bW w X) λX Z=>⟨by rw[ck];rfl,Z⟩
 refine af.of (λM=>?_) (λM=>?_)
 ·have M:t=[]:=eq_of_beq M;exact⟨_,aR.load0 bk (Hst.len o),U o (by unfold mu;rw[if_pos M]) (Below.refl _ _)⟩
 have M:t≠[]:=beq_eq_false_iff_ne.1 M;have hV:mu rs u t=match bV t with
  |none=>(gO,false,101)
  |some d=>if(Gm rs d && !gA d u)=true then(d,false,102)else if(!AQ u d)=true then(d,false,103)else(d,Gm rs d,0):=if_neg M
 refine aA (jD t (by omega) ad (ag.step (S.below H).hb)) ?_;rintro _ c0 ⟨rfl,bs⟩;rw[ii];refine⟨_,_,rfl,?_⟩;have q:=kZ λx cl=>gG (s:=t) cl;refine aR.new (zs:=gO.cells) (cs:=((bV t).getD gO).cells) rfl (Hst.len q) (Hst.one _) c0 λcn bj c1 Y ca=>?_;have E:=ae bs ca bs.size;cases a8:bV t with
 |none=>
  rw[a8]at hV Y;refine eC (λ_=>False) (af.yes rfl ⟨_,aR.load0 Y rfl,U rfl hV E⟩) (λw cc=>cc.elim)
 |some d=>
  rw[a8]at hV Y q;simp only[Option.getD_some]at Y q;have a9:d.name.length <=1000000000:=by have:=ui a8;omega
  have G:∀{wx},bW bj wx->(Instr.loadAt ai (.pointer (some ⟨cn,0,none⟩))).run prog wx=.ok d.v wx:=λZ=>aR.load0 (Y.below Z) (Hst.len q);have b5:∀{wx},bW ad wx->(Instr.loadAt ai (.pointer (some ⟨b3,0,none⟩))).run prog wx=.ok u.v wx:=λZ=>aR.load0 (bk.below Z) (Hst.len o);have hV:mu rs u t=if(Gm rs d && !gA d u)=true then(d,false,102)else if(!AQ u d)=true then(d,false,103)else(d,Gm rs d,0):=hV;refine eC (λw'=>mu rs u t=(d,Gm rs d,0)/\bW bj w') ?_ ?_
  ·refine af.no rfl ?_;refine rv (λb w'=>b=(Gm rs d && !gA d u)/\bW bj w') ?_ ?_
   ·refine⟨_,G (Below.refl _ _),?_⟩;refine aA (qK ag (S.below (ae H E H.size)) q a9) ?_;rintro _ ac ⟨rfl,e⟩;refine⟨_,rfl,af.of (λO=>?_) (λO=>⟨by rw[O];rfl,e⟩)⟩;exact⟨_,G e,_,b5 (ae E e E.size),_,R1 q o ac,by rw[O];rfl,e⟩
   ·rintro b ac ⟨rfl,e⟩;have D:=ae E e E.size;refine af.of (λO=>⟨_,G e,U q (by rw[hV,if_pos O]) D⟩) (λO=>?_);rw[if_neg (by rw[O];decide)]at hV;refine⟨_,b5 D,_,G e,?_⟩;refine aA (jH o q cj a9 ac (ag.step (S.below (ae H D H.size)).hb)) ?_;rintro _ bc ⟨rfl,I⟩;have a0:=ae e I e.size;refine⟨_,rfl,af.of (λal=>⟨_,G a0,U q (by rw[hV,if_pos al]) (ae E a0 E.size)⟩) (λal=>⟨?_,a0⟩)⟩;rw[hV,if_neg (by rw[al];decide)]
  ·rintro ac ⟨hV,e⟩;have cb:=cy ac;have V:=ae e cb e.size;have D:=ae E V E.size;have bb:=qK ag (S.below (ae H D H.size)) q a9;refine⟨⟨_,G V,_,G V,?_⟩,_,G V,⟨_,G V,?_⟩,?_⟩
   ·refine aA bb ?_;rintro _ bc ⟨rfl,I⟩;exact⟨_,rfl,U q hV (ae D I D.size)⟩
   ·refine aA bb ?_;rintro _ bc ⟨rfl,I⟩;exact⟨_,rfl,U q hV (ae D I D.size)⟩
   ·refine aA bb ?_;rintro _ bc ⟨rfl,I⟩;exact⟨_,rfl,_,G (ae V I V.size),U q hV (ae D I D.size)⟩
theorem I4 {c c':Cky}(o:c.ok)(j:Nat)(v:Value)(q:c'.host=c.host)(D:c'.name=c.name)(E:c'.value=c.value)(e:c.tail.set j v=c'.tail):c.cells.set (20+j) v=c'.cells:=by
 unfold Cky.cells;rw[show 20+j=(18+j)+1+1 by omega,List.set_cons_succ,List.set_cons_succ,List.set_append_right _ _ (by rw[Hst.len o];omega),Hst.len o,show 18+j-18=j by omega,e,q,D,E]
theorem Uj (o:c.ok)(h:Hst):c.cells.take 2++h.cells++c.cells.drop (2+18)=({ c with host:=h } :Cky).cells:=by
 unfold Cky.cells;rw[show 2+18=18+1+1 from rfl,List.drop_succ_cons,List.drop_succ_cons,List.drop_append_of_le_length (by rw[Hst.len o];exact Nat.le_refl _),List.drop_of_length_le (by rw[Hst.len o];exact Nat.le_refl _)];rfl
structure StC (w0:World)(tc tu th:TypeId)(k8 k10 k13 k5 k6:Nat)(u:Url)(h:Hdr)(c:Cky)(w:World):Prop where
 hc:au w k13 tc c.cells
 h8:au w k8 tc mq.cells
 hX:au w k10 tc mq.cells
 h5:au w k5 tu u.cells
 h6:au w k6 th h.cells
 hb:bW w0 w
 n8:k8≠k13
 nX:k10≠k13
 n5:k5≠k13
 n6:k6≠k13
 p8:w0.heap.size <=k8
 p13:w0.heap.size <=k13
 ok:c.ok
theorem StC.below {w0:World}{q E D:TypeId}{u:Url}{h:Hdr}{w w':World}(S:StC w0 q E D n m i j k u h c w)(e:bW w w'):StC w0 q E D n m i j k u h c w':=
 ⟨S.hc.below e,S.h8.below e,S.hX.below e,S.h5.below e,S.h6.below e,ae S.hb e S.hb.size,S.n8,S.nX,S.n5,S.n6,S.p8,S.p13,S.ok⟩
theorem StC.put {P:Program}{x:TypeId}{bytes:Nat}{z:Value}(Z:TF P x 1 bytes z){w0:World}{I O M:TypeId}{H D q E G:Nat}{u:Url}{h:Hdr}{c c':Cky}(S:StC w0 I O M H D q E G u h c w)
 {v:Value} (ac:j<9) (h1:v.oneCell'=true) (Y:v.cells= #[v]) (U:c.cells.set (20+j) v=c'.cells) (o:c'.ok):
 ∃wx,(Instr.storeAt x (.pointer (some ⟨q,20+j,none⟩)) v).run P w=.ok () wx/\StC w0 I O M H D q E G u h c' wx:=by
 obtain⟨wx,X,V,e⟩:=S.hc.put Z (i:=20+j) (v:=v) (by rw[Cky.len S.ok];omega) h1 Y;exact⟨wx,X,U▸V,S.h8.grown e (bA S.n8),S.hX.grown e (bA S.nX),S.h5.grown e (bA S.n5),S.h6.grown e (bA S.n6),Below.put S.hb e S.p13,S.n8,S.nX,S.n5,S.n6,S.p8,S.p13,o⟩
theorem StC.putH {P:Program}{x:TypeId}(X:Whl P x 18){w0:World}{M U O:TypeId}{I E q G H:Nat}{u:Url}{h:Hdr}(S:StC w0 M U O I E q G H u h c w){d:Hst}(o:d.ok):
 ∃wx,(Instr.storeAt x (.pointer (some ⟨q,2,none⟩)) d.v).run P w=.ok () wx/\StC w0 M U O I E q G H u h { c with host:=d } wx:=by
 obtain⟨wx,V,D,e⟩:=X.store (Hst.len o) (Hst.one d) S.hc (i:=2) (by rw[Cky.len S.ok];decide);rw[Uj S.ok]at D;exact⟨wx,V,D,S.h8.grown e (bA S.n8),S.hX.grown e (bA S.nX),S.h5.grown e (bA S.n5),S.h6.grown e (bA S.n6),Below.put S.hb e S.p13,S.n8,S.nX,S.n5,S.n6,S.p8,S.p13,o⟩
theorem K2 (name value:lU){d:Hst}(o:d.ok)(only:Bool)(E:lU)(G D:Bool)(same q e H:Int)(w:World):
 (Instr.build ah #[(0,vS name),(1,vS value),(2,d.v),(3,.bool only),(4,vS E),(5,.bool G),(6,.bool D),(7,vI same),(8,vI q),(9,vI e),(10,vI H)]).run prog w=
  .ok (Cky.v ⟨name,value,d,only,E,G,D,same,q,e,H,0⟩) w:=by
 obtain⟨k,n,a⟩:=d;obtain⟨I,M,ac,ad,ag,aj,al,an,ar,a0,O,U,V,X,Y,Z,rfl⟩:=fP a o;kernel_rfl
def rm (rs:List Rul)(u:Url)(h:Hdr)(now:Int)(w:World)(v:Value)(w':World):Prop:=v=YV (jR rs u h now)/\bW w w'
theorem IX {w0:World}(b8:Env w0){cj da:Nat}{a:Option Addr}{n c:Nat}{de:List Pth}{dc:List (jZ×Int)}{cn:List (List Bool)}{rs:List Rul}(S:kV w0 bm bE cj da a n c de dc cn rs w)
 {u:Url} (o:u.ok) (ce:u.host.name.length <=1000000000) (dn:u.path.length <=1000000000) (h:Hdr) (cf:Du h) (D:Int):
 Cf nv #[.pointer (some ⟨cj,0,none⟩),u.v,h.v,vI D] w (Ret (rm rs u h D w)):=by
 refine G4 _ u.v h.name h.value h.domain h.path h.hasE h.exp h.hasA h.age h.sec h.http h.same D ?_;intro c9 b1 ca bq;have bb:=(bq▸ao w _:bW w b1)
 have b3:au b1 c9 bf u.cells:=au.new ca bq;intro dr ck cb ch;obtain⟨b9,bj⟩:=xb h b1 cb ch;have ac:=ae bb bj bb.size;intro k8 an cc bs;have ad:=(bs▸ao ck _:bW ck an)
 have Y:=ae ac ad ac.size;have cu:au an k8 ah mq.cells:=au.new cc bs;have a8:=(b3.below bj).below ad;have a9:=b9.below ad;have c6:w.heap.size <=k8:=by have:=ac.size;omega
 have c1:=b8.step (S.below Y).hb;clear b3 b9 bj ad ca bq cb ch cc bs bb ac;have a0:∀{b2:World} {c:Cky} {G:Int},c.ok->jR rs u h D=(c,G)->bW an b2->∃wy,(Instr.storeAt ah (.pointer (some ⟨k8,0,none⟩)) c.v).run prog b2=.ok () wy/\∃aj:Value,(aS ah (.pointer (some ⟨k8,0,none⟩))).run prog wy=.ok aj wy/\
  rm rs u h D w (.tuple #[aj,vI G]) wy:=fun{b2 c G} dd e b6=>
  aN.fin (K:=λaj wy=>rm rs u h D w (.tuple #[aj,vI G]) wy) (cs:=c.cells) (Cky.len dd) (Cky.one c) (cu.below b6) rfl (ae Y b6 Y.size) c6 λwy c2=>⟨by rw[e];rfl,c2⟩
 refine⟨_,pr.load0 a8 (Url.len o),_,_,_,_,_,_,_,_,_,_,_,fY h a9,?_⟩;refine aA (Gs o ce h cf D an c1) ?_;rintro _ dw ⟨rfl,V⟩;refine⟨_,rfl,af.of (λI=>?_) (λI=>?_)⟩
 ·have I:Np u h D≠0:=by simpa using I
  exact a0 (c:=mq) rfl (by unfold jR;rw[if_pos I]) V
 have I: ¬ Np u h D≠0:=by simpa using I
 have bc:jR rs u h D=if Ib u h (mu rs u.host h.domain)≠0 then(mq,Ib u h (mu rs u.host h.domain))else(XR u h (mu rs u.host h.domain) D,0):=by unfold jR;rw[if_neg I]
 have c0:=ae Y V Y.size;refine⟨rfl,_,aR.load (a8.below V) (i:=1) (us:=u.host.cells) (Hst.len o) (λj c5=>uu o c5),rfl,_,(a9.below V).load1 ax rfl rfl,?_⟩;refine aA (DB b8 (S.below c0) o ce h.domain (by have:=cf.domain;omega)) ?_;rintro _ dg ⟨rfl,c3⟩;have b5:=ae V c3 V.size;have Z:=Ro (rs:=rs) o h.domain;have H:Ib u h (mu rs u.host h.domain)=if(mu rs u.host h.domain).2.2≠0 then(mu rs u.host h.domain).2.2 else if(h.sec && !u.sec)=true then 104 else if(decide (h.same=1) && !h.sec)=true then 105 else if DH h (mu rs u.host h.domain).2.1=true then 106 else 0:=rfl;have b7:XR u h (mu rs u.host h.domain) D=⟨h.name,h.value,(mu rs u.host h.domain).1,(mu rs u.host h.domain).2.1,if h.path=[]then Nb u.path else h.path,h.sec,h.http,h.same,XS h D,D,D,0⟩:=rfl;unfold YW;generalize mu rs u.host h.domain=cl at*;obtain⟨d,only,G⟩:=cl;simp only at Z H b7;refine⟨_,_,_,rfl,?_⟩;refine aR.new (zs:=gO.cells) (cs:=d.cells) rfl (Hst.len Z) (Hst.one d) dg λdp al dl cp c4=>?_;have ag:=ae b5 c4 b5.size;have b4:=a8.below ag;have X:=a9.below ag;refine⟨λn w'=>n=Ib u h (d,only,G)/\bW al w',?_,?_⟩
 ·refine af.of (λq=>⟨?_,Below.refl _ _⟩) (λq=>?_)
  ·have q:G≠0:=by simpa using q
   rw[H,if_pos q]
  have q: ¬ G≠0:=by simpa using q
  rw[if_neg q]at H;refine gS (w:=al) (h.sec && !u.sec) ?_ ?_
  ·exact⟨rfl,_,X.load1 bK rfl rfl,af.of (λE=>⟨rfl,_,b4.load1 bK rfl (i:=0) rfl,rfl,by rw[E];rfl⟩) (λE=>⟨rfl,by rw[E];rfl⟩)⟩
  refine af.of (λE=>⟨by rw[H,if_pos E],Below.refl _ _⟩) (λE=>?_);rw[if_neg (by rw[E];decide)]at H;refine gS (w:=al) (decide (h.same=1) && !h.sec) ?_ ?_
  ·exact⟨rfl,_,X.load1 bC rfl rfl,af.of (λM=>⟨rfl,_,X.load1 bK rfl rfl,rfl,by rw[decide_eq_true (eq_of_beq M)];rfl⟩) (λM=>⟨rfl,by rw[decide_eq_false (beq_eq_false_iff_ne.1 M)];rfl⟩)⟩
  refine af.of (λM=>⟨by rw[H,if_pos M],Below.refl _ _⟩) (λM=>?_);rw[if_neg (by rw[M];decide)]at H;refine⟨_,_,_,_,_,_,_,_,_,_,_,fY h X,?_⟩;refine aA (DA h only al) ?_;rintro _ b0 ⟨rfl,U⟩;refine⟨_,rfl,af.of (λar=>⟨by rw[H,if_pos ar],U⟩) (λar=>⟨?_,U⟩)⟩;rw[H,if_neg (by rw[ar];decide)];exact Decidable.not_not.1 q
 intro dk;refine aQ.of ?_ _;rintro b0 ⟨rfl,U⟩;have bk:=ae ag U ag.size;refine af.of (λq=>?_) (λq=>?_)
 ·have q:Ib u h (d,only,G)≠0:=by simpa using q
  exact a0 (c:=mq) rfl (by rw[bc,if_pos q]) bk
 have q: ¬ Ib u h (d,only,G)≠0:=by simpa using q
 rw[if_neg q]at bc;have ct:=b4.below U;have O:=X.below U;have cr:=cp.below U;refine⟨rfl,_,O.load1 ax rfl rfl,?_⟩;refine NZ (w:=b0) (if h.path=[]then Nb u.path else h.path) ?_ ?_
 ·refine af.of (λE=>?_) (λE=>⟨rfl,by rw[if_neg (beq_eq_false_iff_ne.1 E)]⟩);refine⟨rfl,_,ct.load1 ax rfl (Dp o),?_⟩;refine aA (Cc u.path (by omega) b0) ?_;rintro _ ds ⟨rfl,c8⟩;exact⟨_,rfl,c8,by rw[if_pos (eq_of_beq E)]⟩
 refine⟨rfl,_,λv e=>(O.below e).load1 ax rfl rfl,rfl,_,λv e=>(O.below e).load1 ax rfl rfl,_,λv e=>aR.load0 (cr.below e) (Hst.len Z),rfl,_,λv e=>(O.below e).load1 bK rfl rfl,rfl,_,λv e=>(O.below e).load1 bK rfl rfl,rfl,_,λv e=>(O.below e).load1 bC rfl rfl,_,_,_,_,_,_,_,_,_,_,_,λv e=>fY h (O.below e),_,λv e=>fF (BU h D v) e,_,λv e=>K2 _ _ Z _ _ _ _ _ _ _ _ v,?_⟩;intro dx c7;exact a0 Z (by rw[bc,b7]) (ae bk c7 bk.size)
theorem J7 {A:Bl}{dg:Option Addr}{rs:List Rul}(e5:Sl MS w A dg n m rs)(e3:rs.length <=1000000)(e4:∀r∈rs,r.2.length <=80000000)
 {u:Url} (o:u.ok) (cl:u.host.name.length <=80000000) (f0:u.path.length <=1000000000) (h:Hdr) (ea:Du h) (q:Int):
 Cf rU #[.slice dg n m,u.v,h.v,vI q] w (Ret (rm (rs.filter eo) u h q w)):=by
 refine HB _ _ _ u.v h.name h.value h.domain h.path h.hasE h.exp h.hasA h.age h.sec h.http h.same q ?_;intro al dd d6 c7;have c0:=(c7▸ao w _:bW w dd)
 have dp:au dd al bf u.cells:=au.new d6 c7;intro an em d7 ee;obtain⟨d5,c3⟩:=xb h dd d7 ee;have ch:=ae c0 c3 c0.size;intro k8 de d8 c8;have ck:=(c8▸ao em _:bW em de)
 have c1:=ae ch ck ch.size;have dx:au de k8 ah mq.cells:=au.new d8 c8;have dr:=(dp.below c3).below ck;have dw:=d5.below ck;have d9:w.heap.size <=k8:=by have:=ch.size;omega
 clear dp d5 c3 ck d6 c7 d7 ee d8 c8 c0 ch;refine aN.new (zs:=mq.cells) (cs:=mq.cells) rfl rfl (Cky.one _) de λaj fq e1 b0 b7=>?_;have b3:=dr.below b7;have b4:=dw.below b7;have bs:=dx.below b7;have a9:=ae c1 b7 c1.size;have e9:=b3.lt;have fb:=b4.lt;have fd:=bs.lt;have fl:=b0.lt;clear dr dw dx c1 e1 b7;generalize es:rs.filter eo=E at*;have cr:∀{wx:World} {c:Cky} {e:Int},c.ok->jR E u h q=(c,e)->au wx k8 ah mq.cells->bW w wx->∃wy,(Instr.storeAt ah (.pointer (some ⟨k8,0,none⟩)) c.v).run prog wx=.ok () wy/\∃ad:Value,(aS ah (.pointer (some ⟨k8,0,none⟩))).run prog wy=.ok ad wy/\
  rm E u h q w (.tuple #[ad,vI e]) wy:=fun{wx c e} fn c6 cu c2=>
  aN.fin (K:=λad wy=>rm E u h q w (.tuple #[ad,vI e]) wy) (cs:=c.cells) (Cky.len fn) (Cky.one c) cu rfl c2 d9 λwy ev=>⟨by rw[c6];rfl,ev⟩
 have cb:∀{wx:World} {e:Int},jR E u h q=(mq,e)->au wx aj ah mq.cells->au wx k8 ah mq.cells->bW w wx->∃v:Value,(Instr.loadAt ah (.pointer (some ⟨aj,0,none⟩))).run prog wx=.ok v wx/\
  ∃wy,(Instr.storeAt ah (.pointer (some ⟨k8,0,none⟩)) v).run prog wx=.ok () wy/\∃ad:Value,(aS ah (.pointer (some ⟨k8,0,none⟩))).run prog wy=.ok ad wy/\rm E u h q w (.tuple #[ad,vI e]) wy:=fun{wx e} c6 et cu c2=>
  ⟨_,aN.load0 et rfl,cr (c:=mq) rfl c6 cu c2⟩
 have bb:Np u h q=if(!nN u)=true then 41 else if(!nM h)=true then 82 else if q<0 then 122 else if 1099511627776<q then 122 else 0:=rfl;have cc:∀{e:Int},Np u h q=e->e≠0->jR E u h q=(mq,e):=fun{e} b9 ca=>by unfold jR;rw[b9,if_pos ca]
 refine⟨_,pr.load0 b3 (Url.len o),?_⟩;refine aA (vb o cl (by omega) fq) ?_;rintro _ fr ⟨rfl,bc⟩;have d0:=ae a9 bc a9.size;refine⟨_,rfl,af.of (λM=>cb (cc (by rw[bb,if_pos M]) (by decide)) (b0.below bc) (bs.below bc) d0) (λM=>?_)⟩;rw[if_neg (by rw[M];decide)]at bb;refine⟨_,_,_,_,_,_,_,_,_,_,_,fY h (b4.below bc),?_⟩;refine aA (J6 h ea fr) ?_;rintro _ cp ⟨f2,rfl,d1⟩;have ac:=ae bc d1 bc.size;have cf:=ae a9 ac a9.size;refine⟨_,_,rfl,af.of (λG=>cb (cc (by rw[bb,if_pos G]) (by decide)) (b0.below ac) (bs.below ac) cf) (λG=>?_)⟩;rw[if_neg (by rw[G];decide)]at bb;refine jA (w:=cp) (Np u h q=0) ?_ ?_
 ·refine gS (w:=cp) (decide (q<0) || decide (1099511627776<q)) ?_ ?_
  ·exact af.of (λD=>⟨rfl,by rw[D];rfl⟩) (λD=>⟨rfl,by rw[D];rfl⟩)
  refine af.of (λD=>cb (cc ?_ (by decide)) (b0.below ac) (bs.below ac) cf) (λD=>⟨rfl,?_⟩)
  ·rw[bb];rw[Bool.or_eq_true,dTx,dTx]at D;by_cases I:q<0
   ·rw[if_pos I]
   ·rw[if_neg I,if_pos (D.resolve_left I)]
  ·rw[Bool.or_eq_false_iff,dFx,dFx]at D;rw[bb,if_neg D.1,if_neg D.2]
 intro e0;have b6:jR E u h q=if Ib u h (mu E u.host h.domain)≠0 then(mq,Ib u h (mu E u.host h.domain))else(XR u h (mu E u.host h.domain) q,0):=by unfold jR;rw[if_neg (by rw[e0];decide)]
 clear bb cc M G;have a8:=b4.below ac;have ds:=b3.below ac;refine⟨rfl,_,a8.load1 ax rfl rfl,rfl,_,a8.load1 ax rfl rfl,rfl,_,aR.load ds (i:=1) (us:=u.host.cells) (Hst.len o) (λj c4=>uu o c4),rfl,_,a8.load1 ax rfl rfl,rfl,_,a8.load1 bK rfl rfl,rfl,_,a8.load1 bK rfl rfl,rfl,_,a8.load1 bC rfl rfl,_,K2 _ _ o _ _ _ _ _ _ _ _ cp,?_⟩;have ei:(⟨h.name,h.value,u.host,true,h.path,h.sec,h.http,h.same,9223372036854775807,q,q,0⟩:Cky).ok:=o;refine aN.new (zs:=mq.cells) (cs:=(⟨h.name,h.value,u.host,true,h.path,h.sec,h.http,h.same,9223372036854775807,q,q,0⟩:Cky).cells) rfl (Cky.len ei) (Cky.one _) cp λbk w13 e2 dn d2=>?_;have fo:=ac.size;have b1:=ae ac d2 ac.size;have S0:StC w ah bf aq k8 aj bk al an u h ⟨h.name,h.value,u.host,true,h.path,h.sec,h.http,h.same,9223372036854775807,q,q,0⟩ w13:=
  ⟨dn,bs.below b1,b0.below b1,b3.below b1,b4.below b1,ae a9 b1 a9.size,by omega,by omega,by omega,by omega,d9,by have:=cf.size;omega,ei⟩
 clear dn bs b0 b3 b4 a9 d0 cf bc d1 ac b1 e2 a8 ds d2 e9 fb fd fl fo;have a0:∀{wx:World} {c:Cky} {e:Int},Ib u h (mu E u.host h.domain)=e->e≠0->StC w ah bf aq k8 aj bk al an u h c wx->∃v:Value,(Instr.loadAt ah (.pointer (some ⟨aj,0,none⟩))).run prog wx=.ok v wx/\
  ∃wy,(Instr.storeAt ah (.pointer (some ⟨k8,0,none⟩)) v).run prog wx=.ok () wy/\∃ad:Value,(aS ah (.pointer (some ⟨k8,0,none⟩))).run prog wy=.ok ad wy/\rm E u h q w (.tuple #[ad,vI e]) wy:=fun{wx c e} b9 ca S=>
  cb (by rw[b6,b9,if_pos ca]) S.hX S.h8 S.hb
 have eg:∀{wx c},StC w ah bf aq k8 aj bk al an u h c wx->(Instr.loadAt ai (.pointer (some ⟨al,1,none⟩))).run prog wx=.ok u.host.v wx:=λS=>aR.load S.h5 (i:=1) (us:=u.host.cells) (Hst.len o) (λj c4=>uu o c4);refine eC (λw'=>∃d only,mu E u.host h.domain=(d,only,0)/\StC w ah bf aq k8 aj bk al an u h ⟨h.name,h.value,d,only,h.path,h.sec,h.http,h.same,9223372036854775807,q,q,0⟩ w') ?_ ?_
 ·refine⟨rfl,_,S0.h6.load1 ax rfl rfl,af.of (λM=>?_) (λM=>?_)⟩
  ·have M:h.domain≠[]:=by simpa using M
   have hV:mu E u.host h.domain=match bV h.domain with
    |none=>(gO,false,101)
    |some d=>if(Gm E d && !gA d u.host)=true then(d,false,102)else if(!AQ u.host d)=true then(d,false,103)else(d,Gm E d,0):=if_neg M
   refine⟨rfl,_,S0.h6.load1 ax rfl rfl,?_⟩;refine aA (oH h.domain (by have:=ea.domain;omega) w13) ?_;rintro _ c9 ⟨rfl,ew⟩;rw[ii];refine⟨_,_,rfl,?_⟩;have U:=kZ λx Y=>gG (s:=h.domain) Y;refine aR.new (zs:=gO.cells) (cs:=((bV h.domain).getD gO).cells) rfl (Hst.len U) (Hst.one _) c9 λf1 ar fv ce ex=>?_;have Z:=(S0.below ew).below ex;have err:∀{d:Hst} {b:Bool} {e:Int},mu E u.host h.domain=(d,b,e)->e≠0->Ib u h (mu E u.host h.domain)=e:=fun{d b e} b8 ca=>by rw[b8];unfold Ib;rw[if_pos ca]
   cases b8:bV h.domain with
   |none=>
    rw[b8]at hV;exact af.yes rfl (a0 (err hV (by decide)) (by decide) Z)
   |some d=>
    rw[b8]at hV ce U;simp only[Option.getD_some]at ce U;have hV:mu E u.host h.domain=if(Gm E d && !gA d u.host)=true then(d,false,102)else if(!AQ u.host d)=true then(d,false,103)else(d,Gm E d,0):=hV;have d4:d.name.length <=80000000:=by have:=ui b8;omega
    refine af.no rfl ⟨_,aR.load0 ce (Hst.len U),?_⟩;refine aA (EC (e5.below Z.hb) e3 e4 U d4) ?_;rw[es];rintro _ H ⟨rfl,cj⟩;have O:=Z.below cj;have ct:=ce.below cj;refine⟨_,rfl,?_⟩;refine jA (w:=H) ((Gm E d && !gA d u.host)=false) ?_ ?_
    ·refine gS (w:=H) (Gm E d && !gA d u.host) ?_ ?_
     ·refine af.of (λG=>?_) (λG=>⟨rfl,by rw[G];rfl⟩);exact⟨_,aR.load0 ct (Hst.len U),rfl,_,eg O,_,R1 U o H,rfl,by rw[G];rfl⟩
     ·exact af.of (λG=>a0 (err (by rw[hV,if_pos G]) (by decide)) (by decide) O) (λG=>⟨rfl,G⟩)
    intro G;rw[if_neg (by rw[G];decide)]at hV;refine⟨rfl,_,eg O,_,aR.load0 ct (Hst.len U),?_⟩;refine aA (jM o U cl d4 H) ?_;rintro _ da ⟨rfl,d3⟩;have V:=O.below d3;have eq:=ct.below d3;refine⟨_,rfl,af.of (λD=>a0 (err (by rw[hV,if_pos D]) (by decide)) (by decide) V) (λD=>?_)⟩;rw[if_neg (by rw[D];decide)]at hV;refine af.of (λI=>?_) (λI=>?_)
    ·have I:Gm E d=false:=by simpa using I
     obtain⟨dc,c5,X⟩:=V.putH (P:=prog) aR U;refine⟨_,aR.load0 eq (Hst.len U),rfl,dc,c5,rfl,?_⟩;obtain⟨fs,e7,bq⟩:=X.put (P:=prog) jP (j:=0) (v:=.bool false) (by decide) rfl rfl (I4 (c':=⟨h.name,h.value,d,false,h.path,h.sec,h.http,h.same,9223372036854775807,q,q,0⟩) X.ok 0 _ rfl rfl rfl rfl) U;exact⟨fs,e7,d,false,by rw[hV,I],bq⟩
    ·have I:Gm E d=true:=by simpa using I
     rw[I,Bool.true_and,Bool.not_eq_false']at G;have e:=(gi U o).1 G;exact⟨u.host,true,by rw[hV,I,e],V⟩
  ·have M:h.domain=[]:=by simpa using M
   exact⟨u.host,true,by unfold mu;rw[if_pos M],S0⟩
 rintro c9 ⟨d,only,er,Z⟩;rw[er]at b6 a0;have cn:d.ok:=Z.ok;have bj:Ib u h (d,only,0)=if(h.sec && !u.sec)=true then 104 else if(decide (h.same=1) && !h.sec)=true then 105 else if DH h only=true then 106 else 0:=rfl;have ey:XR u h (d,only,0) q=⟨h.name,h.value,d,only,if h.path=[]then Nb u.path else h.path,h.sec,h.http,h.same,XS h q,q,q,0⟩:=rfl;generalize b5:(if h.path=[]then Nb u.path else h.path)=P at*;refine eC (λw'=>StC w ah bf aq k8 aj bk al an u h ⟨h.name,h.value,d,only,P,h.sec,h.http,h.same,9223372036854775807,q,q,0⟩ w') ?_ ?_
 ·refine⟨rfl,_,Z.hc.load1 ax rfl (bi Z.ok 1),af.of (λM=>?_) (λM=>?_)⟩
  ·have M:h.path=[]:=eq_of_beq M;rw[if_pos M]at b5;refine⟨rfl,_,Z.h5.load1 ax rfl (Dp o),?_⟩;refine aA (Ck u.path (by omega) c9) ?_;rintro _ ar ⟨rfl,ed⟩;rw[ed];clear ed;refine⟨_,rfl,rfl,?_⟩;obtain⟨H,eb,O⟩:=Z.put (P:=prog) cK (j:=1) (v:=vS (Nb u.path)) (by decide) rfl rfl (I4 (c':=⟨h.name,h.value,d,only,Nb u.path,h.sec,h.http,h.same,9223372036854775807,q,q,0⟩) Z.ok 1 _ rfl rfl rfl rfl) cn;rw[b5]at O eb;rw[b5];exact⟨H,eb,O⟩
  ·have M: ¬ h.path=[]:=beq_eq_false_iff_ne.1 M;rw[if_neg M]at b5;rw[<- b5];exact Z
 intro ar O;refine jA (w:=ar) ((h.sec && !u.sec)=false) ?_ ?_
 ·refine gS (w:=ar) (h.sec && !u.sec) ?_ ?_
  ·exact⟨rfl,_,O.h6.load1 bK rfl rfl,af.of (λD=>⟨rfl,_,O.h5.load1 bK rfl (i:=0) rfl,rfl,by rw[D];rfl⟩) (λD=>⟨rfl,by rw[D];rfl⟩)⟩
  ·exact af.of (λD=>a0 (by rw[bj,if_pos D]) (by decide) O) (λD=>⟨rfl,D⟩)
 intro D;rw[if_neg (by rw[D];decide)]at bj;refine jA (w:=ar) ((decide (h.same=1) && !h.sec)=false) ?_ ?_
 ·refine gS (w:=ar) (decide (h.same=1) && !h.sec) ?_ ?_
  ·exact⟨rfl,_,O.h6.load1 bC rfl rfl,af.of (λI=>⟨rfl,_,O.h6.load1 bK rfl rfl,rfl,by rw[decide_eq_true (eq_of_beq I)];rfl⟩) (λI=>⟨rfl,by rw[decide_eq_false (beq_eq_false_iff_ne.1 I)];rfl⟩)⟩
  ·exact af.of (λI=>a0 (by rw[bj,if_pos I]) (by decide) O) (λI=>⟨rfl,I⟩)
 intro I;rw[if_neg (by rw[I];decide)]at bj;refine⟨rfl,_,O.h6.load1 ax rfl rfl,?_⟩;refine NZ (w:=ar) (AK h) ?_ ?_
 ·unfold AK;exact af.of (λc=>⟨rfl,_,O.h6.load1 ax rfl rfl,rfl,by rw[if_pos (eq_of_beq c)]⟩) (λc=>⟨rfl,by rw[if_neg (beq_eq_false_iff_ne.1 c)]⟩)
 refine aA (EF (AK h) ar) ?_;rintro _ H ⟨rfl,cj⟩;have V:=O.below cj;have b2:DH h only=if xk (AK h)=1 then !h.sec else if xk (AK h)=2 then(!h.sec || (!only || !(h.path==[47])))else false:=rfl;have ef:=V.h6.load1 (P:=prog) (i:=8) bK rfl rfl;refine⟨_,rfl,?_⟩;refine jA (w:=H) (DH h only=false) ?_ ?_
 ·refine gS (w:=H) (DH h only) ?_ ?_
  ·have el:∀{J:FP [.one (.bool)]},(xk (AK h)=2->J (!h.sec || (!only || !(h.path==[47]))) H)->(¬ xk (AK h)=2->J false H)->af (xk (AK h)==2)
    ((true=true)/\∃dk:Bool,(Instr.loadAt bF (.pointer (some ⟨an,8,none⟩))).run prog H=.ok (.bool dk) H/\af (!dk) (J true H)
     ((true=true)/\∃dl:Bool,(Instr.loadAt bF (.pointer (some ⟨bk,20,none⟩))).run prog H=.ok (.bool dl) H/\af (!dl) (J true H)
      ((true=true)/\∃ek:lU,(Instr.loadAt ak (.pointer (some ⟨an,3,none⟩))).run prog H=.ok (vS ek) H/\J (!(ek==[47])) H))) (J false H):=fun{J} ag cl=>by
    refine af.of (λc=>?_) (λc=>cl (beq_eq_false_iff_ne.1 c));have ag:=ag (eq_of_beq c);refine⟨rfl,_,ef,af.of (λG=>by rw[G]at ag;exact ag) (λG=>?_)⟩;rw[G,Bool.false_or]at ag;refine⟨rfl,_,V.hc.load1 bK rfl (bi V.ok 0),af.of (λD=>by rw[D]at ag;exact ag) (λD=>?_)⟩;rw[D,Bool.false_or]at ag;exact⟨rfl,_,V.h6.load1 ax rfl rfl,ag⟩
   refine af.of (λc=>?_) (λc=>?_)
   ·have c:=eq_of_beq c;rw[if_pos c]at b2;refine⟨rfl,_,ef,af.of (λG=>⟨rfl,by rw[b2,G]⟩) (λG=>?_)⟩;exact el (J:=λb w'=>w'=H/\b=DH h only) (λY=>by rw[c]at Y;exact absurd Y (by decide)) (λ_=>⟨rfl,by rw[b2,G]⟩)
   ·have c:=beq_eq_false_iff_ne.1 c;rw[if_neg c]at b2;exact el (J:=λb w'=>w'=H/\b=DH h only) (λY=>⟨rfl,by rw[b2,if_pos Y]⟩) (λY=>⟨rfl,by rw[b2,if_neg Y]⟩)
  ·exact af.of (λc=>a0 (by rw[bj,if_pos c]) (by decide) V) (λc=>⟨rfl,c⟩)
 intro en;rw[if_neg (by rw[en];decide)]at bj;rw[bj,if_neg (by decide),ey]at b6;refine eC (λw'=>∃e,e=(if h.hasE=true then(if i64.wrap (q+34560000)<h.exp then i64.wrap (q+34560000)else h.exp)else 9223372036854775807)/\StC w ah bf aq k8 aj bk al an u h ⟨h.name,h.value,d,only,P,h.sec,h.http,h.same,e,q,q,0⟩ w') ?_ ?_
 ·refine⟨rfl,_,V.h6.load1 bK rfl rfl,af.of (λc=>?_) (λc=>⟨_,by rw[if_neg (by rw[c];decide)],V⟩)⟩;refine⟨rfl,_,V.h6.load1 bB rfl rfl,_,run_min_int2 _ _ _ _ _ _ _,rfl,?_⟩;rw[if_pos c];generalize (if i64.wrap (q+34560000)<h.exp then i64.wrap (q+34560000)else h.exp)=e;obtain⟨da,e6,X⟩:=V.put (P:=prog) iO (j:=5) (v:=vI e) (by decide) rfl rfl (I4 (c':=⟨h.name,h.value,d,only,P,h.sec,h.http,h.same,e,q,q,0⟩) V.ok 5 _ rfl rfl rfl rfl) cn;exact⟨da,e6,_,rfl,X⟩
 rintro da ⟨e,b9,X⟩;have Y:XS h q=if h.hasA=true then i64.wrap (q+h.age)else e:=by rw[b9];rfl
 have U:∀x:Int,(⟨h.name,h.value,d,only,P,h.sec,h.http,h.same,x,q,q,0⟩:Cky).ok:=λ_=>cn;refine⟨rfl,_,X.h6.load1 bK rfl rfl,af.of (λc=>?_) (λc=>?_)⟩
 ·rw[if_pos c]at Y;refine⟨rfl,_,X.h6.load1 bB rfl rfl,rfl,?_⟩;obtain⟨dc,c5,bq⟩:=X.put (P:=prog) iO (j:=5) (v:=vI (i64.wrap (q+h.age))) (by decide) rfl rfl (I4 (c':=⟨h.name,h.value,d,only,P,h.sec,h.http,h.same,i64.wrap (q+h.age),q,q,0⟩) X.ok 5 _ rfl rfl rfl rfl) cn;refine⟨dc,c5,_,aN.load0 bq.hc (Cky.len bq.ok),?_⟩;exact cr (U _) (by rw[b6,Y]) bq.h8 bq.hb
 ·rw[if_neg (by rw[c];decide)]at Y;refine⟨_,aN.load0 X.hc (Cky.len X.ok),?_⟩;exact cr (U _) (by rw[b6,Y]) X.h8 X.hb
theorem OX (s:lU):(mkS s==mkS s)=true:=by
 show((mkS s).data==(mkS s).data)=true;simp
theorem Vh (s:lU):Instr.sameBits 10000 (evS s) (evS s)=true:=by
 simp[Instr.sameBits,evS,OX]
def Plc.tail (p:Plc):List Value:=[.bool p.only,vS p.path]
def Plc.cells (p:Plc):List Value:=vS p.name::(p.host.cells++p.tail)
def Plc.v (p:Plc):Value:=.agg p.cells.toArray
theorem Plc.len (p:Plc):p.cells.length=21:=by unfold Plc.cells;rw[length_cons,length_append,Hst.len p.hk];rfl
theorem Plc.one (p:Plc):BS p.cells:=aY rfl (xh (Hst.one _) (aY rfl (aY rfl fj)))
def Kpt.cells (k:Kpt):List Value:=k.c.cells++[vS k.site]
def Kpt.v (k:Kpt):Value:=.agg k.cells.toArray
theorem Kpt.len (k:Kpt):k.cells.length=30:=by unfold Kpt.cells;rw[length_append,Cky.len k.ok];rfl
theorem Kpt.one (k:Kpt):BS k.cells:=xh (Cky.one _) (aY rfl fj)
def ky:Kpt:=⟨mq,[],rfl⟩
theorem ni (k:Kpt)(h:j<29):k.cells[j]? =k.c.cells[j]? :=by
 unfold Kpt.cells;rw[List.getElem?_append_left (by rw[Cky.len k.ok];exact h)]
theorem uk (k:Kpt):k.cells[29]? =some (vS k.site):=by
 unfold Kpt.cells;rw[List.getElem?_append_right (by rw[Cky.len k.ok];decide),Cky.len k.ok];rfl
structure Shf (t:TypeId)(p ma ms:Nat)(L:List Kpt)(last:Int)(w:World):Prop where
 cell:au w p t [.map (some ma),.map (some ms),vI last]
 ex:∃M S,ux Plc.v Kpt.v w ma M/\ux evS evN w ms S/\AL M L/\Gq S L
 inv:ShI L last
 n1:p≠ma
 n2:p≠ms
 n3:ma≠ms
theorem Shf.lts {p e q:Nat}(h:Shf t p e q L a w):p<w.heap.size/\e<w.heap.size/\q<w.heap.size:=by
 obtain⟨E,S,h1,D,_⟩:=h.ex;exact⟨h.cell.lt,h1.lt,D.lt⟩
theorem Shf.keep {p e q:Nat}{w w':World}(h:Shf t p e q L a w)(D:∀k∈[p,e,q],w'.heap[k]? =w.heap[k]?):Shf t p e q L a w':=by
 obtain⟨E,S,h1,G,H⟩:=h.ex;exact⟨h.cell.block (D p (by simp)),⟨E,S,h1.keep (D e (by simp)),G.keep (D q (by simp)),H⟩,h.inv,h.n1,h.n2,h.n3⟩
theorem Shf.below {p q D:Nat}{w w':World}(h:Shf t p q D L a w)(E:bW w w'):Shf t p q D L a w':=
 h.keep λk e=>E.block k (by have:=h.lts;simp at e;rcases e with rfl|rfl|rfl<;>omega)
theorem Shf.put {p q D:Nat}{w w':World}{r:Nat}(h:Shf t p q D L a w)(G:w.grownBy w' (some r))(H:r∉[p,q,D]):Shf t p q D L a w':=
 h.keep λk e=>G.block k (by have:=h.lts;simp at e;rcases e with rfl|rfl|rfl<;>omega) (λE=>H (by cases E;exact e))
theorem Shf.chg {S:List Nat}{p q D:Nat}{w w':World}(h:Shf t p q D L a w)(E:Chg S w w')(G:∀k∈[p,q,D],k∉S):Shf t p q D L a w':=
 h.keep λk e=>E.block k (by have:=h.lts;simp at e;rcases e with rfl|rfl|rfl<;>omega) (G k e)
theorem Vp:∃e,prog.underlying cq=some (.struct e):=⟨_,rfl⟩
theorem Ry (a b:Plc):eqV prog 10000 cq a.v b.v=some (decide (a=b)):=by
 have E:eqV prog 10000 cq a.v b.v=some ((a.name==b.name)&&(gA a.host b.host&&((a.only==b.only)&&((a.path==b.path)&&true)))):=by
  obtain⟨a1,⟨k,n,a⟩,a4,a5,o⟩:=a;obtain⟨e,⟨k',H,b⟩,q,D,p⟩:=b;obtain⟨I,M,ac,ad,ag,aj,al,an,ar,a0,O,U,V,X,Y,Z,rfl⟩:=fP a o;obtain⟨a8,a9,b0,b1,b2,b3,b4,b5,b6,b7,bb,bc,bj,bk,bq,bs,rfl⟩:=fP b p;kernel_rfl
 rw[E];congr 1;rw[Bool.eq_iff_iff];simp only[Bool.and_eq_true,beq_iff_eq,gi a.hk b.hk,dTx,and_true];obtain⟨a1,a2,a4,a5,o⟩:=a;obtain⟨e,G,q,D,p⟩:=b;simp
theorem Eo:qZ prog cq Plc.v:=by
 obtain⟨e,h⟩:=Vp;refine qZ.struct h Ry (λb k w=>?_);obtain⟨a1,⟨k,n,a⟩,a4,a5,o⟩:=k;obtain⟨q,D,U,V,X,Y,Z,ac,ad,ag,E,G,H,I,M,O,rfl⟩:=fP a o;kernel_rfl
theorem Qq (k:Plc):Instr.sameBits 10000 k.v k.v=true:=by
 obtain⟨a1,⟨k,n,a⟩,a4,a5,o⟩:=k;obtain⟨e,q,O,U,V,X,Y,Z,ac,ad,D,E,G,H,I,M,rfl⟩:=fP a o;simp[Plc.v,Plc.cells,Plc.tail,Hst.cells,adC,Instr.sameBits,OX]
theorem JD:qZ prog ak evS:=qZ.str ax
theorem VA:Whl prog cq 21:=⟨⟨_,_,HY⟩,by kernel_rfl⟩
theorem iA:Whl prog aI 30:=⟨⟨_,_,yL⟩,by kernel_rfl⟩
end Go.Pk
