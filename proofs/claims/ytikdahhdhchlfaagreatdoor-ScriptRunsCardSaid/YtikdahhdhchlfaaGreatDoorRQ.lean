/- What the laws lean on: ScrJ, ScrN, OpenA, OpenC; what is used. Its conditions: none. -/
import Derived.Test.YtikdahhdhchlfaaGreatDoorRP
import Derived.ChangeArms
import Derived.ChangeSame
import Derived.Deep.Slices
set_option linter.unusedVariables false
set_option linter.unusedSimpArgs false
set_option linter.unusedSectionVars false
set_option maxRecDepth 100000
open List (append_nil getElem_map length_append length_cons length_map length_nil length_take map_cons mem_cons_of_mem mem_cons_self mem_singleton take_append_drop take_length)
variable {w u v:Go.World}{o:Type}{p q:Option Go.Addr}{A B:Go.Pk.Bl}
open Go.IntKind (i64)
open Go.Proofs.Tryz
namespace Go.Pk
open Go.RowKit (Below)
open Go.Proofs
structure OpT (o:OpR):Prop where
 tx:o.text.length <=800
 un:o.url.host.name.length <=300
 up:o.url.path.length <=800
 rn:o.req.host.name.length <=300
 rp:o.req.path.length <=800
theorem OpT.ok {o:OpR}(h:OpT o)(k:OpW o):o.ok:=⟨k.uo,k.ro,by have:=h.up;omega,by have:=h.un;omega,by have:=h.rp;omega,by have:=h.rn;omega,by have:=h.tx;omega⟩
def alS:lU:=[115,101,116,32,104,116,116,112,58,47,47,104,47,32,97,61,49,10,116,105,99,107,32,49,10,103,101,116,32,104,116,116,112,32,104,32,47,32,115,97,109,101,10]
def ZG:Hst:=⟨1,[104],ad0⟩
def alO:List OpR:=[⟨1,⟨false,ZG,80,[47]⟩,[97,61,49],xz,0⟩,⟨3,pd,[],xz,1⟩,⟨2,pd,[],⟨false,ZG,[47],0⟩,0⟩]
theorem X4:∀o∈alO,o.ok:=by
 intro o e;simp only[alO,List.mem_cons,List.not_mem_nil,or_false]at e;rcases e with rfl|rfl|rfl<;>exact⟨rfl,rfl,by decide,by decide,by decide,by decide,by decide⟩
def alK:List OpK:=alO.attach.map λo=>⟨o.1,X4 o.1 o.2⟩
theorem Y6:alK.map (·.o)=alO:=by
 unfold alK;rw[List.map_map];exact List.attach_map_subtype_val alO
theorem Ub:A5 fE alS=(alO,0,0,0):=by kernel_rfl
theorem Wh:nk [] (js0 0) alK=[[111,107],[111,107],[97,61,49]]:=by kernel_rfl
theorem WJ (x y:Int×Int×Int):eqV prog 10000 bO (WN x) (WN y)=some ((x.1==y.1)&&((x.2.1==y.2.1)&&((x.2.2==y.2.2)&&true))):=by kernel_rfl
theorem Yl (x y:Int×Int×Int){p q:Operand}(w:World):((do eqGuard .eql bO p q (WN x) (WN y);binOp .eql bO (WN x) (WN y):Sem Value)).run prog w=.ok (.bool ((x.1==y.1)&&((x.2.1==y.2.1)&&((x.2.2==y.2.2)&&true)))) w:=
 Iw (by kernel_rfl) (WJ x y) w
theorem HM (w:World)(G:Env w):Cf iR #[] w (Ret λv w'=>v=.bool true/\bW w w'):=by
 apply sH;refine aA (FB alS w G) ?_;rintro _ ar ⟨a,n,c,rfl,M,bc,H⟩;rw[Ub]at M ⊢;refine⟨_,_,_,_,_,_,rfl,?_⟩;refine Dr.new (zs:=Yk (0,0,0)) (cs:=Yk (0,0,0)) rfl rfl (RJ _) ar λbk V bj Y I=>?_;have e:=ae H I H.size;refine⟨_,_,_,Dr.load0 Y rfl,_,Yl (0,0,0) (0,0,0) V,af.yes rfl ?_⟩;refine aA (yH (Sl.nil MS V Ds none 0 (Nat.zero_le _)) (by decide) (λr aj=>by cases aj) (G.step e)) ?_;rintro _ a0 ⟨bs,bq,a',b1,c',b3,b0,a9,rfl,S⟩;have D:=S.hb;rw[List.filter_nil]at S;have ag:Sl tOp a0 Ds a n c (alK.map (·.o)):=by
  rw[Y6];exact((M.below I).below D).all
 refine⟨_,rfl,?_⟩;refine aA (yE (G.step e) S alK ag (by decide)) ?_;rintro _ X ⟨a5,b2,a8,rfl,U,bb,Z⟩;rw[Wh]at U;have q:=ae (ae e D e.size) Z (ae e D e.size).size;refine⟨_,_,_,rfl,λal w6 ad O=>?_⟩;have E:bW X w6:=O▸ao X _;have an:Ow tS ak w6 NoB (some ⟨al,0,none⟩) 3 3 [[111,107],[111,107],[97,61,49]]:=Ow.newF (ec _) ad O TL (by decide);refine aA (yq (U.below E).all an.all (by decide)) ?_;rintro _ b4 ⟨rfl,ac⟩;exact⟨_,rfl,rfl,ae (ae q E q.size) ac (ae q E q.size).size⟩
theorem GF {an V:Nat}{e:List OpR}(ag:Sl tOp w B p an V e)(bs:e.length <=9223372036854775807):
 Cf pQ #[.slice p an V] w (Ret λv w'=>∃b:Bool,v=.bool b/\(b=false->e.length <=40/\∀o∈e,OpT o)/\bW w w'):=by
 apply ES;have a8:=ag.len;subst a8;have G:∀{wx:World},bW w wx->∃b:Bool,Value.bool true=.bool b/\(b=false->e.length <=40/\∀o∈e,OpT o)/\bW w wx:=λh=>⟨true,rfl,(λE=>by cases E),h⟩
 refine⟨λm i bc=>∃k:Nat,k <=e.length/\i=(k:Int)/\m=e.length-k/\(∀o∈e.take k,OpT o)/\bW w bc,⟨_,0,by omega,rfl,rfl,(λx al=>by rw[List.take_zero]at al;cases al),Below.refl _ _⟩,?_⟩;intro b2 b0;refine aQ.of ?_ _;rintro bj ⟨k,bk,rfl,rfl,U,M⟩;refine af.of (λad=>?_) (λad=>?_)<;>simp only[dTx,dFx]at ad
 ·have O:k<e.length:=by omega
  have aj:=ag.below M;obtain⟨a0,W⟩:=JJ mh aj O;have bb:i64.wrap ((k:Int)+1)=((k+1:Nat):Int):=by rw[wrJ];omega
  have a9:=fH O;refine⟨⟨⟨by omega,by omega⟩,aj.isSome O⟩,_,a0,?_⟩;rw[bb];generalize e[k]=x at*;refine mh.new (zs:=ND.cells) (cs:=x.cells) gH (OpW.len W) (OpR.one _) bj λb1 wx bq H ar=>?_;have D:=ae M ar M.size;refine⟨rfl,_,H.load1 ax rfl (i:=22) (U9 W),af.of (λE=>G D) (λX=>⟨rfl,rfl,rfl,_,H.load1 ax rfl (i:=3) ((Te W (j:=2) (by decide)).trans ((uu W.uo (j:=1) (by decide)).trans rfl)),af.of (λE=>G D) (λI=>⟨rfl,rfl,_,H.load1 ax rfl (i:=21) ((Te W (j:=20) (by decide)).trans (TR W.uo)),af.of (λE=>G D) (λY=>⟨rfl,rfl,rfl,_,H.load1 ax rfl (i:=25) ((Tc W (j:=2) (by decide)).trans (Tn W.ro)),af.of (λE=>G D) (λZ=>⟨rfl,rfl,_,H.load1 ax rfl (i:=42) ((Tc W (j:=19) (by decide)).trans (To W.ro)),af.of (λE=>G D) (λac=>?_)⟩)⟩)⟩)⟩)⟩;have X:=of_decide_eq_false X;have I:=of_decide_eq_false I;have Y:=of_decide_eq_false Y;have Z:=of_decide_eq_false Z;have ac:=of_decide_eq_false ac;refine⟨e.length-(k+1),by omega,k+1,by omega,rfl,rfl,?_,D⟩;intro y q;rw[a9,List.mem_append]at q;rcases q with q|q
  ·exact U y q
  ·rw[mem_singleton]at q;subst q;exact⟨by omega,by omega,by omega,by omega,by omega⟩
 ·have:k=e.length:=by omega
  subst this;rw[take_length]at U;refine⟨_,rfl,λI=>⟨?_,U⟩,M⟩;have:=of_decide_eq_false I;omega
theorem Wo {rs:List Rul}{s:JS}{o:OpR}{ok:o.ok}(c:o.kind≠2):(MX rs s o ok).1=OH rs s o ok:=by
 unfold MX OH;by_cases e:o.kind=1
 ·rw[if_pos e,if_pos e]
 rw[if_neg e,if_neg e,if_neg c];by_cases q:o.kind=3
 ·rw[if_pos q,if_pos q]
 rw[if_neg q,if_neg q];by_cases D:o.kind=4
 ·rw[if_pos D,if_pos D]
 ·rw[if_neg D,if_neg D]
theorem Wp {rs:List Rul}{s:JS}{o:OpR}{e:o.ok}(c:o.kind=2):(MX rs s o e).2=(OK s o.req).2:=by
 unfold MX;rw[if_neg (by omega),if_pos c]
theorem RA (rs:List Rul)(s:JS)(o:OpR)(e:o.ok):0 <=OH rs s o e/\OH rs s o e <=1000:=by
 unfold OH;split
 ·exact Tt _ _ _ _ _
 split
 ·exact Pp _ _
 split<;>decide
theorem Uq (e:Int)(q:0 <=e/\e <=1000)(w:World):Cf eH #[vI e] w (Ret λv w'=>v=vS (AP e.toNat)/\bW w w'):=by
 have:=iN e.toNat (by omega) w
 rwa [Int.toNat_of_nonneg q.1]at this
structure RdS (w:World)(k5:Nat)(ar:Option Addr)(lr cr:Nat)(s:JS)(a:Option Addr)(n c:Nat)(xs:List lU)(u:World):Prop where
 ex:∃(aL:Option Addr) (lL cL:Nat),au u k5 am (djC ar lr cr aL lL cL s.last s.now)/\Sl rj u (λb=>b≠k5/\eP a≠some b) aL lL cL s.L
 ow:Ow tS ak u NoB a n c xs
 ne:eP a≠some k5
 fr:bU w.heap.size a
 hb:bW w u
theorem RdS.below {q:Nat}{D e:Nat}{s:JS}{a:Option Addr}{n c:Nat}{xs:List lU}(R:RdS w q p D e s a n c xs u)(h:bW u v):RdS w q p D e s a n c xs v:=by
 obtain⟨E,I,G,h1,H⟩:=R.ex;exact⟨⟨E,I,G,h1.below h,H.below h⟩,R.ow.below h,R.ne,R.fr,ae R.hb h R.hb.size⟩
theorem RdS.push {H:Nat}{U I:Nat}{s:JS}{a:Option Addr}{n c:Nat}{xs:List lU}(R:RdS w H p U I s a n c xs u)(x:lU)(a8:xs.length <=1000000):∀(k:Nat) (w1:World),k=u.heap.size->w1=u.alloc (.cells #[vS x] ak)->
 ∃(w2:World) (a':Option Addr) (V c':Nat),(Builtin.append_ #[aO,aO] aO #[.slice a n c,.slice (some ⟨k,0,none⟩) 1 1]).run prog w1=.ok (.slice a' V c') w2/\RdS w H p U I s a' V c' (xs++[x]) w2:=by
 intro k w1 ad O;have D:bW u w1:=O▸ao u _;obtain⟨X,an,Z,h1,ac⟩:=R.ex;have al:Src tS w1 NoB (some ⟨k,0,none⟩) 1 [x]:=Src.new1F (vs:=[vS x]) (ec _) ad O (gB trivial);obtain⟨a0,a4,ar,Y,aj,ag,G,E⟩:=eU (ty:=aO) dW cK (by decide) (R.ow.below D) (λ_ _ h=>h) (cm:=1) al (by simp;omega);have hB:=ae R.hb D R.hb.size;have M:=h1.below D;have a9:=M.lt;refine⟨a0,a4,ar,Y,aj,⟨X,an,Z,M.grown G (λe=>R.ne e.symm),?_⟩,ag,λe=>?_,R.fr.app hB.size E,hB.grown G hB.size R.fr⟩
 ·exact((ac.below D).old.keep (eD G λb q e=>q.1.2 e.symm)).mono λb _ q=>⟨q.1.1,λe=>by
   rcases E b e with h|h
   ·exact q.1.2 h
   ·have:=q.2;omega⟩
 ·rcases E H e with h|h
  ·exact R.ne h
  ·omega
theorem L6 {R:Bl}{I H:Nat}{rs:List Rul}(c5:Sl MS w R p I H rs)(c6:rs.length <=1000000)(c7:∀r∈rs,r.2.length <=80000000){bc D:Nat}(e:List OpK)(b3:Sl tOp w B q bc D (e.map (·.o)))(d2:e.length <=1000):
 Cf wS #[.slice p I H,.slice q bc D] w (Ret λv w'=>∃a n c,v=.slice a n c/\Ow tS ak w' NoB a n c (nk (rs.filter eo) (js0 0) e)/\bW w w'):=by
 apply Ku;have d3:bc=e.length:=by have:=b3.len;rwa [length_map]at this
 have da:JI (js0 0) 0:=JI.new (by decide) (by decide) 0;refine tR.new (zs:=djC none 0 0 none 0 0 0 0) (cs:=djC p I H none 0 0 0 0) rfl rfl (aY rfl (aY rfl (aY rfl (aY rfl fj)))) w λk5 cb d0 bj an=>?_;intro b8 w6 b0 b7;have bq:bW cb w6:=b7▸ao cb _;have de:Ow tS ak w6 NoB (some ⟨b8,0,none⟩) 0 0 []:=Ow.newF (ec _) (l:=[]) b0 b7 (gy.nil tS _ NoB) (Nat.zero_le _);have dw:=bj.lt;have c3:eP (some (⟨b8,0,none⟩:Addr))≠some k5:=λO=>by simp[eP]at O;omega
 have ce:=ae an bq an.size;refine⟨λm a n c i w'=>∃k:Nat,k <=e.length/\i=(k:Int)/\m=e.length-k/\RdS w k5 p I H (A9 (rs.filter eo) (js0 0) (e.take k)) a n c (nk (rs.filter eo) (js0 0) (e.take k)) w',⟨_,0,Nat.zero_le _,rfl,rfl,⟨⟨none,0,0,bj.below bq,Sl.nil rj _ _ none 0 (Nat.zero_le _)⟩,de,c3,(jB b0).mono an.size,ce⟩⟩,λm a n c i=>aQ.of ?_ _⟩;rintro dn ⟨k,bs,rfl,rfl,M⟩;have Z:JI (A9 (rs.filter eo) (js0 0) (e.take k)) 1000:=(JI.run (rs:=rs.filter eo) (e.take k) da).mono (by rw[length_take];omega);refine af.of (λar=>?_) (λar=>?_)<;>simp only[dTx,dFx]at ar
 ·have a0:k<e.length:=by omega
  have b6:=b3.below M.hb;have b2:k<(e.map (·.o)).length:=by rw[length_map];exact a0
  obtain⟨b1,W⟩:=JJ mh b6 b2;rw[getElem_map]at b1 W;have Y:A9 (rs.filter eo) (js0 0) (e.take (k+1))=doV (rs.filter eo) (A9 (rs.filter eo) (js0 0) (e.take k)) e[k].o e[k].ok:=by
   rw[fH a0,EG]
  have a8:nk (rs.filter eo) (js0 0) (e.take (k+1))=nk (rs.filter eo) (js0 0) (e.take k)++[Pe (rs.filter eo) (A9 (rs.filter eo) (js0 0) (e.take k)) e[k].o e[k].ok]:=by
   rw[fH a0,Mk]
  have bb:=Dg (rs.filter eo) (e.take k) (js0 0);rw[length_take]at bb;refine⟨⟨⟨by omega,ar⟩,b6.isSome b2⟩,_,b1,?_⟩;have c9:i64.wrap ((k:Int)+1)=((k+1:Nat):Int):=by rw[wrJ];omega
  try dsimp only
  rw[c9];revert W Z M Y a8 bb;generalize A9 (rs.filter eo) (js0 0) (e.take k)=s;generalize nk (rs.filter eo) (js0 0) (e.take k)=xs;generalize e[k]=o;intro M Z W Y a8 bb;refine mh.new (zs:=ND.cells) (cs:=o.o.cells) gH (OpW.len W) (OpR.one _) dn λdc d9 d1 bk c0=>?_;have E:=M.below c0;obtain⟨dr,d7,ds,aj,ct⟩:=E.ex;refine⟨_,_,_,_,_,_,_,_,iP aj,_,mh.load0 bk (OpW.len W),?_⟩;refine aA (NO ct Z (by decide) (c5.below E.hb) c6 c7 o.o o.ok W.hi) ?_;rintro _ dp ⟨a',l',c',rfl,cu,V⟩;refine⟨_,_,_,_,_,_,_,_,_,_,rfl,?_⟩;rw[<- Y];refine tR.new (zs:=djC none 0 0 none 0 0 0 0) (cs:=djC p I H a' l' c' (A9 (rs.filter eo) (js0 0) (e.take (k+1))).last (A9 (rs.filter eo) (js0 0) (e.take (k+1))).now) rfl rfl (aY rfl (aY rfl (aY rfl (aY rfl fj)))) dp λd4 d8 dx cj U=>?_;refine⟨_,_,_,_,_,_,_,_,iP cj,?_⟩;have cn:=(aj.below V).below U;obtain⟨w11,dg,ck,X⟩:=tR.store0 (P:=prog) (cs:=djC p I H a' l' c' (A9 (rs.filter eo) (js0 0) (e.take (k+1))).last (A9 (rs.filter eo) (js0 0) (e.take (k+1))).now) rfl (aY rfl (aY rfl (aY rfl (aY rfl fj)))) cn rfl;refine⟨w11,dg,rfl,?_⟩;have d6:=aj.lt;have c4:=E.ow.lt;have cc:=ae (ae E.hb V E.hb.size) U (ae E.hb V E.hb.size).size;have cr:Sl rj w11 (λb=>b≠k5/\eP a≠some b) a' l' c' (A9 (rs.filter eo) (js0 0) (e.take (k+1))).L:=by
   rw[Y]at*;refine((cu.below U).wr X ?_).mono λx _ a9=>?_
   ·rintro(h|h)
    ·exact h.1 rfl
    ·omega
   ·rcases a9 with h|h
    ·exact h
    ·exact⟨by omega,λO=>by have:=c4 x O;omega⟩
  have R11:RdS w k5 p I H (A9 (rs.filter eo) (js0 0) (e.take (k+1))) a n c xs w11:=
   ⟨⟨a',l',c',ck,cr⟩,((E.ow.below V).below U).put (λg c2 O=>E.ne (by rw[c2,O])) X,E.ne,E.fr,Below.put cc X (by omega)⟩
  obtain⟨_,_,_,cl,_⟩:=M.ex;have d5:=cl.lt;have cp:au w11 dc aK o.o.cells:=((bk.below V).below U).grown X (bA (by omega));have ag:∀{u:World} {x:lU},RdS w k5 p I H (A9 (rs.filter eo) (js0 0) (e.take (k+1))) a n c xs u->x=Pe (rs.filter eo) s o.o o.ok->∀(ac:Nat) (ad:World),ac=u.heap.size->ad=u.alloc (.cells #[vS x] ak)->
   ∃(w2:World) (a':Option Addr) (ca c':Nat),(Builtin.append_ #[aO,aO] aO #[.slice a n c,.slice (some ⟨ac,0,none⟩) 1 1]).run prog ad=.ok (.slice a' ca c') w2/\
   ∃b9:Nat,b9<e.length-k/\∃j:Nat,j <=e.length/\((k+1:Nat):Int)=(j:Int)/\b9=e.length-j/\RdS w k5 p I H (A9 (rs.filter eo) (js0 0) (e.take j)) a' ca c' (nk (rs.filter eo) (js0 0) (e.take j)) w2:=fun{u x} ch a9 ac ad bs c8=>by
   obtain⟨w2,a2,dd,G,dk,cf⟩:=ch.push x (by omega) ac ad bs c8;exact⟨w2,a2,dd,G,dk,e.length-(k+1),by omega,k+1,by omega,rfl,rfl,by rw[a8,<- a9];exact cf⟩
  refine⟨_,cp.load1 bC rfl (i:=0) rfl,af.of (λD=>?_) (λD=>?_)⟩
  ·have D:o.o.kind=2:=by simpa using D
   rw[Wp D];refine aA (JU _ (Lr Z _) w11) ?_;rintro _ dl ⟨rfl,al⟩;exact⟨_,rfl,ag (R11.below al) (by unfold Pe;rw[if_pos D])⟩
  ·have D:o.o.kind≠2:=by simpa using D
   rw[Wo D];have c1:=RA (rs.filter eo) s o.o o.ok;have b5:Pe (rs.filter eo) s o.o o.ok=Qy (OH (rs.filter eo) s o.o o.ok):=by unfold Pe;rw[if_neg D]
   refine af.of (λG=>?_) (λG=>?_)
   ·have G:OH (rs.filter eo) s o.o o.ok=0:=by simpa using G
    exact ag R11 (by rw[b5,G];rfl)
   ·have G: ¬ OH (rs.filter eo) s o.o o.ok=0:=by simpa using G
    refine aA (Uq _ c1 w11) ?_;rintro _ dl ⟨rfl,al⟩;have:=jr (n:=(OH (rs.filter eo) s o.o o.ok).toNat) (by omega);refine⟨_,rfl,fits (by simp only[length_cons,length_nil];omega),?_⟩;rintro _ rfl;exact ag (R11.below al) (by rw[b5];unfold Qy;rw[if_neg G];rfl)
 ·have:k=e.length:=by omega
  subst this;have b4:=M.ow;rw[take_length]at b4;exact⟨_,_,_,rfl,b4,M.hb⟩
theorem xe {bk a0:Nat}{rs:List Rul}{bq Z:Nat}{E:List OpR}(ag:Env w)(O:Sl MS w A p bk a0 rs)(M:Sl tOp w B q bq Z E)(c2:rs.length <=9223372036854775807)(b9:E.length <=9223372036854775807):
 Cf nw #[.slice p bk a0,.slice q bq Z] w (Ret (ZO w)):=by
 apply uH;refine aA (HM w ag) ?_;rintro _ dg ⟨rfl,ad⟩;have b7:=O.len;have b8:=M.len;subst b7 b8;refine⟨_,rfl,af.no rfl ⟨λw'=>((E.length <=40/\∀o∈E,OpT o)/\rs.length <=12)/\bW w w',?_,aQ.of ?_ _⟩⟩
 ·refine aA (GF (M.below ad) b9) ?_;rintro _ dk ⟨b,rfl,h1,b3⟩;have V:=ae ad b3 ad.size;refine⟨_,rfl,af.of (λ_=>⟨rfl,V⟩) (λb0=>af.of (λ_=>⟨rfl,V⟩) (λb1=>⟨⟨h1 b0,?_⟩,V⟩))⟩;have:=of_decide_eq_false b1;omega
 rintro dl ⟨⟨⟨c1,ca⟩,c3⟩,bs⟩;refine⟨λm i al=>∃k:Nat,k <=rs.length/\i=(k:Int)/\m=rs.length-k/\(∀r∈rs.take k,r.2.length <=200)/\bW w al,⟨_,0,by omega,rfl,rfl,(λx bj=>by rw[List.take_zero]at bj;cases bj),bs⟩,?_⟩;intro c9 c4;refine aQ.of ?_ _;rintro al ⟨k,b5,rfl,rfl,I,e⟩;refine af.of (λG=>?_) (λG=>?_)<;>simp only[dTx,dFx]at G
 ·have aj:k<rs.length:=by omega
  have bc:=O.below e;have b6:=JK bc aj;have cc:i64.wrap ((k:Int)+1)=((k+1:Nat):Int):=by rw[wrJ];omega
  have cb:=fH aj;refine⟨⟨⟨by omega,by omega⟩,bc.isSome aj⟩,rs[k].1,rs[k].2,b6,?_⟩;rw[cc];generalize rs[k]=x at*;refine hZ.new (zs:=[vI 0,vS []]) (cs:=xA x) rfl rfl (aY rfl (aY rfl fj)) al λc5 ds cu b2 H=>?_;have ar:=ae e H e.size;refine⟨rfl,_,b2.load1 ax rfl (i:=1) rfl,af.of (λac=>⟨rfl,ar⟩) (λac=>⟨rs.length-(k+1),by omega,k+1,by omega,rfl,rfl,?_,ar⟩)⟩;have ac:=of_decide_eq_false ac;intro y D;rw[cb,List.mem_append]at D;rcases D with D|D
  ·exact I y D
  ·rw[mem_singleton]at D;subst D;omega
 have:k=rs.length:=by omega
 subst this;rw[take_length]at I;clear G b5;refine aA (yH (O.below e) (by omega) (λr h=>by have:=I r h;omega) (ag.step e)) ?_;rintro _ cj ⟨c7,c6,ck,dd,cp,de,c8,cr,rfl,S⟩;have X:=ae e S.hb e.size;have env:=ag.step e;have ch:∀o∈E,o.ok:=λo h=>by
  obtain⟨i,G,rfl⟩:=List.getElem_of_mem h;exact(ca _ h).ok (JJ mh M G).2
 obtain⟨U,bb⟩:=UU ch;have c0:U.length=E.length:=by rw[<- bb,length_map]
 refine⟨_,rfl,?_⟩;have a8:Sl tOp cj B q E.length Z (U.map (·.o)):=by rw[bb];exact M.below X
 refine aA (yE env S U a8 (by omega)) ?_;rintro _ dn ⟨a5,da,cl,rfl,ce,ct,a9⟩;have Y:=ae X a9 X.size;refine⟨_,_,_,rfl,?_⟩;refine aA (L6 (O.below Y) (by omega) (λr h=>by have:=I r h;omega) U (a8.below a9) (by omega)) ?_;rintro _ dp ⟨a6,dc,cn,rfl,cf,H⟩;have an:=ae Y H Y.size;refine⟨_,_,_,rfl,?_⟩;refine aA (yq (ce.below H).all cf.all (by rw[Dg];omega)) ?_;rintro _ dr ⟨rfl,b4⟩;exact⟨_,rfl,by simp,ae an b4 an.size⟩
section
open Go.ChangeShapes Go.WideShapes
theorem rZ {e:Type}{enc:TypeId×Value->e}{P:Program}{fuel:Nat}{t:TypeId}{q:Array Field}{cs:List Value}{x:DataW e×List MemPlace}(M:P.underlying t=some (.struct q))
 (h:DataW.trod enc P w 0 (λ_=>true) true fuel t cs=some x):
 ∃n,cs.length=P.cellsOf t/\∀(i:Nat) (u:TypeId) (o k:Nat),(∃f:Field,q[i]? =some f/\f.type=u/\f.offset=o)->P.cellsOf u=k->∃y,DataW.trod enc P w 0 (λ_=>true) true n u ((cs.drop o).take k)=some y:=by
 obtain⟨xs,n,_,_,G,H,E⟩:=DataW.trod_struct M h;refine⟨n,G,?_⟩;rintro i _ _ _ ⟨f,D,rfl,rfl⟩ rfl;have I:i<xs.length:=by rw[H];exact(Array.getElem?_eq_some_iff.1 D).1
 exact⟨xs[i],by rw[E i f D,List.getElem?_eq_getElem I]⟩
theorem jT {α:Type}(cs:List α)(a b:Nat):cs.drop a=(cs.drop a).take b++cs.drop (a+b):=by
 rw[<- List.drop_drop,take_append_drop]
theorem FE {α:Type}(cs:List α)(n:Nat)(h:cs.length=n):cs.drop n=[]:=List.drop_of_length_le (by omega)
theorem XB {n:Int}(h:(Lit.int .u8 n).wf=true):∃c:UInt8,n=((c.toNat:Nat):Int):=by
 have:=bounds_u8 h;refine⟨UInt8.ofNat n.toNat,?_⟩;rw[UInt8.toNat_ofNat',Nat.mod_eq_of_lt (by omega)];omega
theorem QO:∀{zs:List Int},(∀n∈zs,(Lit.int .u8 n).wf=true)->∃a:lU,a.length=zs.length/\(zs.map λn=>Value.int .u8 n)=adC a
 |[],_=>⟨[],rfl,rfl⟩
 |z::zs,h=>by
  obtain⟨c,rfl⟩:=XB (h z (mem_cons_self ..));obtain⟨a,e,q⟩:=QO (zs:=zs) λn D=>h n (mem_cons_of_mem _ D);exact⟨c::a,by rw[length_cons,length_cons,e],by rw[map_cons,q];rfl⟩
end
section
open Go.ChangeShapes Go.WideShapes
theorem Iq {enc:TypeId×Value->o}{fuel:Nat}{cs:List Value}{x:DataW o×List MemPlace}(h:DataW.trod enc prog w 0 (λ_=>true) true fuel ai cs=some x):∃u:Hst,u.ok/\cs=u.cells:=by
 obtain⟨n,Y,e⟩:=rZ Tryz.underlying45 h;have Z:cs.length=18:=Y.trans (by kernel_rfl);obtain⟨ad,O⟩:=e 0 aU 0 1 ⟨_,rfl,rfl,rfl⟩ (by kernel_rfl);obtain⟨ag,h1⟩:=e 1 ak 1 1 ⟨_,rfl,rfl,rfl⟩ (by kernel_rfl);obtain⟨aj,U⟩:=e 2 43 2 16 ⟨_,rfl,rfl,rfl⟩ (by kernel_rfl);obtain⟨k,H,_⟩:=mN bC o enc w n _ _ O;obtain⟨s,I,_⟩:=sp ax o enc w n _ _ h1;obtain⟨zs,ac,D⟩:=SX Tryz.underlying43 (mN cE) (by kernel_rfl) (by kernel_rfl) U;have M:=j0 D;obtain⟨a,V,X⟩:=QO (PA D);refine⟨⟨k,s,a⟩,V.trans ac,?_⟩;have q:=jT cs 0 1;have E:=jT cs 1 1;have G:=jT cs 2 16;rw[H]at q;rw[I]at E;rw[M,X,FE cs (2+16) Z,append_nil]at G;rw[List.drop_zero]at q;rw[q,E,G];rfl
theorem Ta {enc:TypeId×Value->o}{fuel:Nat}{cs:List Value}{x:DataW o×List MemPlace}(h:DataW.trod enc prog w 0 (λ_=>true) true fuel bf cs=some x):∃u:Url,u.ok/\cs=u.cells:=by
 obtain⟨n,Z,e⟩:=rZ Tryz.underlying47 h;have ac:cs.length=21:=Z.trans (by kernel_rfl);obtain⟨ad,U⟩:=e 0 bF 0 1 ⟨_,rfl,rfl,rfl⟩ (by kernel_rfl);obtain⟨ag,h1⟩:=e 1 ai 1 18 ⟨_,rfl,rfl,rfl⟩ (by kernel_rfl);obtain⟨aj,V⟩:=e 2 aU 19 1 ⟨_,rfl,rfl,rfl⟩ (by kernel_rfl);obtain⟨al,X⟩:=e 3 ak 20 1 ⟨_,rfl,rfl,rfl⟩ (by kernel_rfl);obtain⟨b,H,_⟩:=Ip bK o enc w n _ _ U;obtain⟨g,Y,I⟩:=Iq h1;obtain⟨p,M,_⟩:=mN bC o enc w n _ _ V;obtain⟨s,O,_⟩:=sp ax o enc w n _ _ X;refine⟨⟨b,g,p,s⟩,Y,?_⟩;have q:=jT cs 0 1;have D:=jT cs 1 18;have E:=jT cs 19 1;have G:=jT cs 20 1;rw[H]at q;rw[I]at D;rw[M]at E;rw[O,FE cs (20+1) ac,append_nil]at G;rw[List.drop_zero]at q;rw[q,D,E,G];rfl
theorem Qf {enc:TypeId×Value->o}{fuel:Nat}{cs:List Value}{x:DataW o×List MemPlace}(h:DataW.trod enc prog w 0 (λ_=>true) true fuel aJ cs=some x):∃r:Rul,cs=xA r:=by
 obtain⟨n,I,e⟩:=rZ Tryz.underlying34 h;have M:cs.length=2:=I.trans (by kernel_rfl);obtain⟨O,H⟩:=e 0 aU 0 1 ⟨_,rfl,rfl,rfl⟩ (by kernel_rfl);obtain⟨U,h1⟩:=e 1 ak 1 1 ⟨_,rfl,rfl,rfl⟩ (by kernel_rfl);obtain⟨k,E,_⟩:=mN bC o enc w n _ _ H;obtain⟨s,G,_⟩:=sp ax o enc w n _ _ h1;refine⟨(k,s),?_⟩;have q:=jT cs 0 1;have D:=jT cs 1 1;rw[E,List.drop_zero]at q;rw[G,FE cs (1+1) M,append_nil]at D;rw[q,D];rfl
theorem Qp {enc:TypeId×Value->o}{n b off:Nat}(m:Nat)
 (H:∀i,i<m->∃cs,(∀j,j<2->w.cell? ⟨b,off+(i*2+j),none⟩=cs[j]?)/\∃y,DataW.trod enc prog w 0 (λ_=>true) true n aJ cs=some y):
 ∃rs:List Rul,rs.length=m/\At MS w Ds b off rs:=by
 induction m with
 |zero=>exact⟨[],rfl,[],gy.nil _ _ _,λj e=>by cases e⟩
 |succ m U=>
  obtain⟨rs,q,l,G,I⟩:=U λi V=>H i (by omega);obtain⟨cs,M,y,O⟩:=H m (by omega);obtain⟨r,rfl⟩:=Qf O;refine⟨rs++[r],by rw[length_append,q];rfl,l++xA r,G.append (gy.one (T:=MS) rfl),λj e=>?_⟩;have D:l.length=m*2:=by rw[G.len,q];rfl
  rw[length_append,D,show(xA r).length=2 from rfl]at e;by_cases E:j<l.length
  ·rw[List.getElem?_append_left E];exact I j E
  ·rw[List.getElem?_append_right (by omega),<- M (j-l.length) (by omega),D,show off+(m*2+(j-m*2))=off+j by omega]
theorem NE {enc:TypeId×Value->o}{fuel:Nat}{v:Value}{x:DataW o×List MemPlace}(h:DataW.trod enc prog w 0 (λ_=>true) true fuel jo [v]=some x):
 ∃(a:Option Addr) (len cap:Nat) (rs:List Rul),v=.slice a len cap/\Sl MS w Ds a len cap rs/\rs.length <=9223372036854775807:=by
 rcases Go.Deep.open_slice kB h with⟨e,_⟩|⟨a,len,cap,m,n,al,an,e,_,I,H,M,_,q⟩
 ·obtain rfl:v=_:=by injection e
  exact⟨none,0,0,[],rfl,Sl.nil _ _ _ _ _ (Nat.zero_le _),Nat.zero_le _⟩
 ·obtain rfl:v=_:=by injection e
  have bb:maxLen <=9223372036854775807:=by unfold maxLen;decide
  rw[if_pos rfl]at M;subst M;rw[show prog.cellsOf aJ=2 by kernel_rfl]at q;by_cases O:len=0
  ·subst O;exact⟨_,_,_,[],rfl,⟨rfl,I,H,.inl rfl⟩,Nat.zero_le _⟩
  ·obtain⟨b,off,aj⟩:=a;obtain⟨ar,G,_⟩:=q 0 (by omega);have E:=World.cells?_block G (by decide);obtain⟨_,a8,V⟩:=World.cells?_some G;have D:=V 0 (by decide);rw[List.getElem?_eq_getElem (by omega)]at D;have ad:aj=none:=by simpa[Addr.add]using World.cell?_spot D
   subst ad;obtain⟨rs,ac,U⟩:=Qp (b:=b) (off:=off) len λi a0=>by
    obtain⟨cs,Y,ag⟩:=q i (by omega);obtain⟨_,a9,X⟩:=World.cells?_some Y;refine⟨cs,λj Z=>?_,_,ag⟩;rw[<- X j Z,fu,fu,Nat.add_assoc]
   exact⟨_,_,_,rs,rfl,⟨ac.symm,I,H,.inr ⟨b,off,rfl,(by rw[Nat.zero_mul,fu]at E;exact E),trivial,U⟩⟩,by omega⟩
end
section
open Go.ChangeShapes Go.WideShapes
theorem SZ {enc:TypeId×Value->o}{fuel:Nat}{cs:List Value}{x:DataW o×List MemPlace}(h:DataW.trod enc prog w 0 (λ_=>true) true fuel aX cs=some x):∃r:Req,r.ok/\cs=r.cells:=by
 obtain⟨n,Z,e⟩:=rZ Tryz.underlying49 h;have ac:cs.length=21:=Z.trans (by kernel_rfl);obtain⟨ad,U⟩:=e 0 bF 0 1 ⟨_,rfl,rfl,rfl⟩ (by kernel_rfl);obtain⟨ag,h1⟩:=e 1 ai 1 18 ⟨_,rfl,rfl,rfl⟩ (by kernel_rfl);obtain⟨aj,V⟩:=e 2 ak 19 1 ⟨_,rfl,rfl,rfl⟩ (by kernel_rfl);obtain⟨al,X⟩:=e 3 aU 20 1 ⟨_,rfl,rfl,rfl⟩ (by kernel_rfl);obtain⟨b,H,_⟩:=Ip bK o enc w n _ _ U;obtain⟨g,Y,I⟩:=Iq h1;obtain⟨s,M,_⟩:=sp ax o enc w n _ _ V;obtain⟨p,O,_⟩:=mN bC o enc w n _ _ X;refine⟨⟨b,g,s,p⟩,Y,?_⟩;have q:=jT cs 0 1;have D:=jT cs 1 18;have E:=jT cs 19 1;have G:=jT cs 20 1;rw[H]at q;rw[I]at D;rw[M]at E;rw[O,FE cs (20+1) ac,append_nil]at G;rw[List.drop_zero]at q;rw[q,D,E,G];rfl
theorem U7 {e:Type}{enc:TypeId×Value->e}{fuel:Nat}{cs:List Value}{x:DataW e×List MemPlace}(h:DataW.trod enc prog w 0 (λ_=>true) true fuel aK cs=some x):∃o:OpR,OpW o/\cs=o.cells:=by
 obtain⟨n,aj,q⟩:=rZ Tryz.underlying51 h;have al:cs.length=45:=aj.trans (by kernel_rfl);obtain⟨a8,Z⟩:=q 0 aU 0 1 ⟨_,rfl,rfl,rfl⟩ (by kernel_rfl);obtain⟨a9,h1⟩:=q 1 bf 1 21 ⟨_,rfl,rfl,rfl⟩ (by kernel_rfl);obtain⟨bb,ac⟩:=q 2 ak 22 1 ⟨_,rfl,rfl,rfl⟩ (by kernel_rfl);obtain⟨bc,ad⟩:=q 3 aX 23 21 ⟨_,rfl,rfl,rfl⟩ (by kernel_rfl);obtain⟨bj,ag⟩:=q 4 bg 44 1 ⟨_,rfl,rfl,rfl⟩ (by kernel_rfl);obtain⟨k,O,_⟩:=mN bC e enc w n _ _ Z;obtain⟨u,ar,U⟩:=Ta h1;obtain⟨s,V,_⟩:=sp ax e enc w n _ _ ac;obtain⟨r,an,X⟩:=SZ ad;obtain⟨a0,Y,M⟩:=mN bB e enc w n _ _ ag;refine⟨⟨k,u,s,r,a0⟩,⟨ar,an,(bounds_i64 M).2⟩,?_⟩;have D:=jT cs 0 1;have E:=jT cs 1 21;have G:=jT cs 22 1;have H:=jT cs 23 21;have I:=jT cs 44 1;rw[O]at D;rw[U]at E;rw[V]at G;rw[X]at H;rw[Y,FE cs (44+1) al,append_nil]at I;rw[List.drop_zero]at D;rw[D,E,G,H,I];rfl
theorem U8 {enc:TypeId×Value->o}{n b off:Nat}(m:Nat)
 (I:∀i,i<m->∃cs,(∀j,j<45->w.cell? ⟨b,off+(i*45+j),none⟩=cs[j]?)/\∃y,DataW.trod enc prog w 0 (λ_=>true) true n aK cs=some y):
 ∃rs:List OpR,rs.length=m/\At tOp w Ds b off rs:=by
 induction m with
 |zero=>exact⟨[],rfl,[],gy.nil _ _ _,λj e=>by cases e⟩
 |succ m V=>
  obtain⟨rs,q,l,G,M⟩:=V λi X=>I i (by omega);obtain⟨cs,O,y,U⟩:=I m (by omega);obtain⟨r,H,rfl⟩:=U7 U;refine⟨rs++[r],by rw[length_append,q];rfl,l++r.cells,G.append (gy.one (T:=tOp) ⟨rfl,H⟩),λj e=>?_⟩;have D:l.length=m*45:=by rw[G.len,q];rfl
  rw[length_append,D,OpW.len H]at e;by_cases E:j<l.length
  ·rw[List.getElem?_append_left E];exact M j E
  ·rw[List.getElem?_append_right (by omega),<- O (j-l.length) (by omega),D,show off+(m*45+(j-m*45))=off+j by omega]
theorem SY {enc:TypeId×Value->o}{fuel:Nat}{v:Value}{x:DataW o×List MemPlace}(h:DataW.trod enc prog w 0 (λ_=>true) true fuel eF [v]=some x):
 ∃(a:Option Addr) (len cap:Nat) (rs:List OpR),v=.slice a len cap/\Sl tOp w Ds a len cap rs/\rs.length <=9223372036854775807:=by
 rcases Go.Deep.open_slice Bf h with⟨e,_⟩|⟨a,len,cap,m,n,al,an,e,_,I,H,M,_,q⟩
 ·obtain rfl:v=_:=by injection e
  exact⟨none,0,0,[],rfl,Sl.nil _ _ _ _ _ (Nat.zero_le _),Nat.zero_le _⟩
 ·obtain rfl:v=_:=by injection e
  have bb:maxLen <=9223372036854775807:=by unfold maxLen;decide
  rw[if_pos rfl]at M;subst M;rw[show prog.cellsOf aK=45 by kernel_rfl]at q;by_cases O:len=0
  ·subst O;exact⟨_,_,_,[],rfl,⟨rfl,I,H,.inl rfl⟩,Nat.zero_le _⟩
  ·obtain⟨b,off,aj⟩:=a;obtain⟨ar,G,_⟩:=q 0 (by omega);have E:=World.cells?_block G (by decide);obtain⟨_,a8,V⟩:=World.cells?_some G;have D:=V 0 (by decide);rw[List.getElem?_eq_getElem (by omega)]at D;have ad:aj=none:=by simpa[Addr.add]using World.cell?_spot D
   subst ad;obtain⟨rs,ac,U⟩:=U8 (b:=b) (off:=off) len λi a0=>by
    obtain⟨cs,Y,ag⟩:=q i (by omega);obtain⟨_,a9,X⟩:=World.cells?_some Y;refine⟨cs,λj Z=>?_,_,ag⟩;rw[<- X j Z,fu,fu,Nat.add_assoc]
   exact⟨_,_,_,rs,rfl,⟨ac.symm,I,H,.inr ⟨b,off,rfl,(by rw[Nat.zero_mul,fu]at E;exact E),trivial,U⟩⟩,by omega⟩
end
end Go.Pk
