/- What the laws lean on: PlnC, V63, RfF, HdrF, V60, PlnD, V64, RfG, Tri, Vr, Ea, Eb, Ec; what is used. Its conditions: none. -/
import Derived.Test.YthbkoifpgkjadaaGreatDoorKK
import GoSem.Core.World
import Derived.RowKit3
import Derived.Laws.Sem
set_option linter.unusedVariables false
set_option linter.unusedSimpArgs false
set_option linter.unusedSectionVars false
set_option maxRecDepth 100000
open List (append_assoc drop_eq_getElem_cons drop_eq_nil_of_le getElem_mem length length_append length_nil length_take mem_cons_self mem_of_mem_take take_length take_succ_eq_append_getElem)
open Option (map_some)
open Go.World (drew)
variable {n i k:Nat}{w u v:Go.World}{o:Type}{t:Go.TypeId}{P:Go.Program}{p q:Option Go.Addr}{A B:Go.Pk.Bl}{z:Go.Pk.Flt}
open Go.IntKind (i64)
open Go.Proofs.Tryz
open List (length)
open Option (isSome)
namespace Go.Pk
open Go.RowKit (Below)
open Go.Proofs
def ptU (p q:Pt):Pt where
 fp:=p.fp++q.fp
 P:=λw=>p.P w/\q.P w
 st:=λh hk=>⟨p.st h.1 (hk.mono λb hb=>List.mem_append.2 (.inl hb)),q.st h.2 (hk.mono λb hb=>List.mem_append.2 (.inr hb))⟩
 lt:=λh b hb=>(List.mem_append.1 hb).elim (p.lt h.1 b) (q.lt h.2 b)
theorem PW {a b c:lU}{f:Flt}(h:EJ a=.inr f):rH a b c=.inr (1,f):=by unfold rH;rw[h]
theorem PX {a b c:lU}{ps:List Pat}{f:Flt}(h:EJ a=.inl ps)(y:pJ b=.inr f):rH a b c=.inr (2,f):=by unfold rH;rw[h,y]
theorem PY {a b c:lU}{ps:List Pat}{E:List Rul}{f:Flt}(h:EJ a=.inl ps)(y:pJ b=.inl E)(D:oc c=.inr f):rH a b c=.inr (3,f):=by unfold rH;rw[h,y,D]
theorem PZ {a b c:lU}{ps:List Pat}{y:List Rul}{ts:List Tpl}{cs:List Cho}(h:EJ a=.inl ps)(D:pJ b=.inl y)(E:oc c=.inl (ts,cs)):
 rH a b c=match ts.find? λt=> !sV ps t with
  |some t=>.inr (3,231,t.line,1)
  |none=>if 512<(va (⟨ps,ts,cs,y⟩:Pln).labs).length+1 then .inr (1,53,1,1)else .inl ⟨ps,ts,cs,y⟩:=by unfold rH;rw[h,D,E];rfl
theorem Bf {w W:World}{ps:List Pt}(h:Sp w ps W)(j:Nat)(y:ps[j]? =some (ptA k ax (nG z)))(f:Flt):∃wx,(Instr.storeAt ax (.pointer (some ⟨k,0,none⟩)) (vE f)).run prog W=.ok () wx/\Sp w (ps.set j (ptA k ax (nG f))) wx:=by
 have D:aB W k ax (nG z):=h.at j y;obtain⟨I,H,E,F⟩:=di.store0 (P:=prog) (cs:=nG f) rfl (pC _) D rfl;exact⟨I,H,h.upd j y (Chg.grown F mem_cons_self) (p':=ptA k ax (nG f)) E λb G=>.inl G⟩
theorem CM {w W:World}{ps:List Pt}(h:Sp w ps W)(j:Nat){y:Nat}{n0:Int}(G:ps[j]? =some (ptA y aF (vh n0 z)))(n:Int)(f:Flt){K:Value->World->Prop}(af:∀D,bW w D->K (.tuple #[.pointer none,Mb n f]) D):
 Cf eG #[vI n,vE f] W λac E=>∃(Y:Option Addr) (H:Int) (I:Int) (J:Int) (M:Int),ac=.returned (.tuple #[.pointer Y,.agg #[vI H,vI I,vI J,vI M]])/\
  ∃(wx_2:World),(Instr.storeAt aF (.pointer (some ⟨y,0,none⟩)) (.agg #[vI H,vI I,vI J,vI M])).run prog E=.ok () wx_2/\
  ∃(O:Int) (R:Int) (U:Int) (V:Int),(aS aF (.pointer (some ⟨y,0,none⟩))).run prog wx_2=.ok (.agg #[vI O,vI R,vI U,vI V]) wx_2/\
  K (.tuple #[.pointer Y,.agg #[vI O,vI R,vI U,vI V]]) wx_2:=by
 refine aK (Nn n f W) ?_;rintro _ E ⟨rfl,aa⟩;have h:=h.below aa;have Z:aB E y aF (vh n0 z):=h.at j G;obtain⟨D,an,F,ad⟩:=eL.store0 (P:=prog) (cs:=vh n f) rfl (yw n f) Z rfl;have aj:=h.upd j G (Chg.grown ad mem_cons_self) (p':=ptA y aF (vh n f)) F λb ag=>.inl ag;exact⟨_,n,f.1,f.2.1,f.2.2,rfl,D,an,n,f.1,f.2.1,f.2.2,aB.res (eL.load0 F rfl),af D aj.bw⟩
def TR (a b c:lU)(w:World)(v:Value)(w':World):Prop:=bW w w'/\match rH a b c with
 |.inr (n,f)=>v=.tuple #[.pointer none,Mb n f]
 |.inl p=>∃k,v=.tuple #[.pointer (some ⟨k,0,none⟩),Mb 0 (0,0,0)]/\Fq w' k p
theorem I2 (a b c:lU)(w:World)(a0:Env w):Cf ux #[vS a,vS b,vS c] w (Ret (TR a b c w)):=by
 apply GX;intro a9 dg fb d3 V df fa d2 bs w9 fd d4;have ep:=(d3▸ar w _:bW w dg)
 have ek:=(d2▸ar dg _:bW dg df)
 have eq:=(d4▸ar df _:bW df w9)
 have ds:Sp w [ptA bs ax (nG (0,0,0)),ptA V eO [.slice none 0 0,.slice none 0 0,.slice none 0 0,.pointer none,.pointer none],ptA a9 aF (vh 0 (0,0,0))] w9:=
  (((Sp.nil w).add ep (p:=ptA a9 aF (vh 0 (0,0,0))) (aB.new fb d3) λb af=>by rw[List.mem_singleton.1 af];omega).add ek (p:=ptA V eO [.slice none 0 0,.slice none 0 0,.slice none 0 0,.pointer none,.pointer none]) (aB.new fa d2) λb af=>by rw[List.mem_singleton.1 af];omega).add eq (p:=ptA bs ax (nG (0,0,0))) (aB.new fd d4) λb af=>by rw[List.mem_singleton.1 af];omega
 refine aK (zP a w9 (a0.step ds.bw)) ?_;rintro v f8 ⟨em,D⟩;obtain⟨ad,aa,Z,O,ps,rfl,b8,es,c3⟩:∃(x:Option Addr) (n e:Nat) (f:Flt) (ps:List Pat),v=.tuple #[.slice x n e,vE f]/\Ow lS ak f8 NoB x n e ps/\bo w9.heap.size x/\((EJ a=.inl ps/\f=(0,0,0))\/(EJ a=.inr f/\f.1≠0)):=by
  cases I:EJ a with
  |inl ps=>rw[I]at D;obtain⟨x,n,e,h1,y,an⟩:=D;exact⟨x,n,e,_,ps,h1,y,an,.inl ⟨rfl,rfl⟩⟩
  |inr f=>rw[I]at D;exact⟨none,0,0,f,[],D.1,Ow.nil _ _ _ _,bo.none _,.inr ⟨rfl,D.2⟩⟩
 clear D;have h1:=ds.add em (p:=ptO lS ak ad aa Z ps) b8 λg E=>es g (bV.1 E);obtain⟨gd,f0,bq,_⟩:=h1.put yu 2 rfl (i:=0) (v:=.slice ad aa Z) rfl rfl (by show 0<5;decide);obtain⟨cb,f1,b2⟩:=Bf bq 1 rfl O;have Y:aB cb bs ax (nG O):=b2.at 1 rfl;refine⟨_,_,_,O.1,O.2.1,O.2.2,rfl,rfl,rfl,gd,f0,cb,f1,rfl,O.1,Y.load1 jh rfl (i:=0) rfl,ab.of (λh=>?_) (λh=>?_)⟩
 ·have b1:O.1≠0:=by simpa using h
  obtain⟨I,_⟩:=c3.resolve_left λy=>b1 (by rw[y.2]);exact⟨O.1,O.2.1,O.2.2,di.load0 Y rfl,CM b2 3 rfl 1 O λac F=>⟨F,by rw[PW I]⟩⟩
 have F:O.1=0:=by simpa using h
 obtain⟨b5,rfl⟩:=c3.resolve_right λy=>y.2 F;have b7:=L8 b5;clear c3 h F Y;refine aK (Jb b cb (a0.step b2.bw)) ?_;rintro v f9 ⟨en,D⟩;obtain⟨dj,dd,cn,R,rs,rfl,de,et,c4⟩:∃(x:Option Addr) (n e:Nat) (f:Flt) (rs:List Rul),v=.tuple #[.slice x n e,vE f]/\Ow wv aC f9 NoB x n e rs/\bo cb.heap.size x/\((pJ b=.inl rs/\f=(0,0,0))\/(pJ b=.inr f/\f.1≠0)):=by
  cases I:pJ b with
  |inl ps=>rw[I]at D;obtain⟨x,n,e,h1,y,an⟩:=D;exact⟨x,n,e,_,ps,h1,y,an,.inl ⟨rfl,rfl⟩⟩
  |inr f=>rw[I]at D;exact⟨none,0,0,f,[],D.1,Ow.nil _ _ _ _,bo.none _,.inr ⟨rfl,D.2⟩⟩
 clear D;have y:=b2.add en (p:=ptO wv aC dj dd cn rs) de λg E=>et g (bV.1 E);obtain⟨ac,f3,F⟩:=Bf y 2 rfl R;have Y:aB ac bs ax (nG R):=F.at 2 rfl;refine⟨_,_,_,R.1,R.2.1,R.2.2,rfl,ac,f3,rfl,R.1,Y.load1 jh rfl (i:=0) rfl,ab.of (λh=>?_) (λh=>?_)⟩
 ·have b1:R.1≠0:=by simpa using h
  obtain⟨I,_⟩:=c4.resolve_left λy=>b1 (by rw[y.2]);exact⟨R.1,R.2.1,R.2.2,di.load0 Y rfl,CM F 4 rfl 2 R λac F=>⟨F,by rw[PX b5 I]⟩⟩
 have b3:R.1=0:=by simpa using h
 obtain⟨cp,rfl⟩:=c4.resolve_right λy=>y.2 b3;have d6:=Qe cp;clear c4 h b3 Y;refine aK (zO c ac (a0.step F.bw)) ?_;rintro v ea ⟨eo,D⟩;obtain⟨G,bk,e3,M,J,H,S,U,ts,cs,rfl,bu,d8,ev,er,eu,c8⟩:∃(x:Option Addr) (n e:Nat) (b4:Option Addr) (m d:Nat) (S:List Nat) (f:Flt) (ts:List Tpl) (cs:List Cho),v=.tuple #[.slice x n e,.slice b4 m d,vE f]/\Ow kl ah ea NoB x n e ts/\(ptD au S b4 m d cs).P ea/\bo ac.heap.size x/\bo ac.heap.size b4/\(∀g∈S,ac.heap.size <=g)/\((oc c=.inl (ts,cs)/\f=(0,0,0)/\RdI (ts,cs))\/(oc c=.inr f/\f.1≠0)):=by
  cases I:oc c with
  |inl st=>
   obtain⟨ts,cs⟩:=st;rw[I]at D;obtain⟨e7,x,n,e,b4,m,d,S,h1,y,an,e1,av,e2⟩:=D;exact⟨x,n,e,b4,m,d,S,_,ts,cs,h1,y,an,e1,av,e2,.inl ⟨rfl,rfl,e7⟩⟩
  |inr f=>
   rw[I]at D;exact⟨none,0,0,none,0,0,[],f,[],[],D.1,Ow.nil _ _ _ _,⟨Ow.nil _ _ _ _,λg E=>(by cases E),λg E=>(by cases E)⟩,bo.none _,bo.none _,λg E=>(by cases E),.inr ⟨rfl,D.2⟩⟩
 clear D;have an:=F.add eo (p:=ptU (ptO kl ah G bk e3 ts) (ptD au S M J H cs)) ⟨bu,d8⟩ λg E=>by
  rcases List.mem_append.1 E with E|E
  ·exact ev g (bV.1 E)
  ·rcases List.mem_append.1 E with E|E
   ·exact er g (bV.1 E)
   ·exact eu g E
 obtain⟨gb,fx,d1,_⟩:=an.put jz 4 rfl (i:=1) (v:=.slice G bk e3) rfl rfl (by show 1<5;decide);obtain⟨gc,fy,af,_⟩:=d1.put kU 4 rfl (i:=2) (v:=.slice M J H) rfl rfl (by show 2<5;decide);obtain⟨wc,fz,be⟩:=Bf af 3 rfl U;have Y:aB wc bs ax (nG U):=be.at 3 rfl;refine⟨_,_,_,_,_,_,U.1,U.2.1,U.2.2,rfl,rfl,rfl,gb,fx,rfl,rfl,gc,fy,wc,fz,rfl,U.1,Y.load1 jh rfl (i:=0) rfl,ab.of (λh=>?_) (λh=>?_)⟩
 ·have b1:U.1≠0:=by simpa using h
  obtain⟨I,_⟩:=c8.resolve_left λy=>b1 (by rw[y.2.1]);exact⟨U.1,U.2.1,U.2.2,di.load0 Y rfl,CM be 5 rfl 3 U λac F=>⟨F,by rw[PY b5 cp I]⟩⟩
 have b3:U.1=0:=by simpa using h
 obtain⟨dv,rfl,e9⟩:=c8.resolve_right λy=>y.2 b3;have dc:X4 ts:=Jp dv;have e4:ts.length <=8:=e9.1;have hV:=PZ b5 cp dv;clear c8 h b3 Y bu d8 h1 y an bq b2 F d1 af;let dm:List Pt:=[ptU (ptO kl ah G bk e3 ts) (ptD au S M J H cs),ptO wv aC dj dd cn rs,ptO lS ak ad aa Z ps,ptA bs ax (nG (0,0,0)),ptA V eO [.slice ad aa Z,.slice G bk e3,.slice M J H,.pointer none,.pointer none],ptA a9 aF (vh 0 (0,0,0))]
 have be:Sp w dm wc:=be;have A14:aB wc V eO [.slice ad aa Z,.slice G bk e3,.slice M J H,.pointer none,.pointer none]:=be.at 4 rfl;have fe:bk=ts.length:=(be.at 0 rfl:(ptU (ptO kl ah G bk e3 ts) (ptD au S M J H cs)).P wc).1.1;subst fe;refine⟨rfl,rfl,_,_,_,A14.load1 bJ rfl (i:=1) rfl,λm i W=>∃j:Nat,i=(j:Int)/\m=ts.length-j/\j <=ts.length/\Sp w dm W/\ts.find? (λt=> !sV ps t)=(ts.drop j).find? (λt=> !sV ps t),
  ⟨_,0,rfl,rfl,Nat.zero_le _,be,rfl⟩,λm i=>aP.of ?_ _⟩
 rintro aj ⟨j,rfl,rfl,gj,ag,cv⟩;have bu:Ow kl ah aj NoB G ts.length e3 ts:=(ag.at 0 rfl:(ptU (ptO kl ah G ts.length e3 ts) (ptD au S M J H cs)).P aj).1;have b8:Ow lS ak aj NoB ad aa Z ps:=ag.at 2 rfl;have A14:aB aj V eO [.slice ad aa Z,.slice G ts.length e3,.slice M J H,.pointer none,.pointer none]:=ag.at 4 rfl;refine ab.of (λh=>?_) (λh=>?_)<;>simp only[dTx,dFx]at h
 ·have b6:j<ts.length:=by omega
  obtain⟨fn,b9⟩:=pF bu.all b6;have d9:=dc _ (getElem_mem b6);have c2:=cv;rw[drop_eq_getElem_cons b6]at c2;refine⟨⟨⟨by omega,h⟩,bu.all.isSome b6⟩,_,fn,?_⟩;generalize ts[j]=t at*;refine dw.new (zs:=Tpl.cells ⟨[],nh,[],0⟩) (cs:=t.cells) rfl (Tpl.len b9) (Tpl.one _) aj λgo g1 gl A12 cd=>?_;have c9:=ag.below cd;refine⟨_,dw.load0 A12 (Tpl.len b9),aK (J3 b9 d9 (a0.step c9.bw) (A14.below cd) rfl (b8.below cd).all λp hp=>(b7.2 p hp).2) ?_⟩;rintro _ g2 ⟨rfl,cf⟩;refine⟨_,rfl,ab.of (λav=>?_) (λav=>⟨ts.length-(j+1),by omega,j+1,by rw[wrJ];omega,rfl,by omega,c9.below cf,?_⟩)⟩
  ·refine⟨rfl,t.line,(A12.below cf).load1 eI rfl (i:=23) (Hj b9 1),CM (c9.below cf) 5 rfl 3 (231,t.line,1) λac F=>⟨F,?_⟩⟩;rw[hV,c2,List.find?_cons_of_pos (p:=λt=> !sV ps t) av]
  ·rw[c2,List.find?_cons_of_neg (p:=λt=> !sV ps t) (by show ¬ (!sV ps t)=true;rw[av];decide)]
 obtain rfl:j=ts.length:=by omega
 rw[drop_eq_nil_of_le (Nat.le_refl _)]at cv;rw[cv]at hV;have hV:rH a b c=if 512<(va (⟨ps,ts,cs,rs⟩:Pln).labs).length+1 then .inr (1,53,1,1)else .inl ⟨ps,ts,cs,rs⟩:=hV;have de:Ow wv aC aj NoB dj dd cn rs:=ag.at 1 rfl;refine aK (He de.all (Nat.le_trans d6.1 (by decide)) (λr fl=>Nat.le_trans (d6.2 r fl) (by decide)) (a0.step ag.bw)) ?_;rintro _ g3 ⟨bt,gr,gz,d9,g0,gy,gs,gi,rfl,cc⟩;have bl:=cc.hb;have du:=ag.below bl;refine⟨_,rfl,aK (ML (a0.step du.bw) (A14.below bl) rfl rfl (b8.below bl).all (bu.below bl).all b7 dc e4) ?_⟩;rintro _ eb ⟨bb,rfl,dk,ch⟩;have e6:=du.below ch;obtain⟨ge,fp,e0,ew⟩:=e6.put yt 4 rfl (i:=3) (v:=.pointer (some ⟨bt,0,none⟩)) rfl rfl (by show 3<5;decide);obtain⟨wx12,fs,b0,ex⟩:=e0.put tb 4 rfl (i:=4) (v:=.pointer bb) rfl rfl (by show 4<5;decide);have cl:Chg [V] eb wx12:=(Chg.grown ew mem_cons_self).trans (Chg.grown ex mem_cons_self);have fo:V<aj.heap.size:=A14.lt;have ef:qD wx12 bb (va (⟨ps,ts,cs,rs⟩:Pln).labs):=dk.turned cl λs a8=>by rw[List.mem_singleton.1 a8];have:=bl.size;omega
 have gh:Q2 wx12 bt rs:=Q2.turned a0 b0.bw ag.bw.size cl (λs a8=>by rw[List.mem_singleton.1 a8];exact fo) (cc.below ch);have A14:aB wx12 V eO [.slice ad aa Z,.slice G ts.length e3,.slice M J H,.pointer (some ⟨bt,0,none⟩),.pointer bb]:=b0.at 4 rfl;have gm:(va (⟨ps,ts,cs,rs⟩:Pln).labs).length <=1000000:=by
  refine Nat.le_trans (Hb _) ?_;have gt:=pB (B:=254) ps λx bq=>j4 x.host (b7.2 x bq).2;have gu:=pB (B:=254) ts λx bq=>j4 x.url.host (dc x bq);have:=b7.1;show(ps.flatMap (λx=>dN x.host)++ts.flatMap λt=>dN t.url.host).length <=_;rw[length_append];omega
 refine⟨_,rfl,rfl,rfl,ge,fp,rfl,rfl,wx12,fs,rfl,rfl,bb,A14.load1 la rfl (i:=4) rfl,aK (wu bb _ (by omega) wx12 ef) ?_⟩;rintro _ ga ⟨rfl,d5⟩;rw[d5];clear d5 ga;refine⟨_,rfl,ab.of (λav=>?_) (λav=>?_)⟩<;>simp only[dTx,dFx]at av
 ·exact CM b0 5 rfl 1 (53,1,1) λac F=>⟨F,by rw[hV,if_pos (by omega)]⟩
 ·have ed:aB wx12 a9 aF (vh 0 (0,0,0)):=b0.at 5 rfl;obtain⟨wy2,f2,dl,dr⟩:=eL.store0 (P:=prog) (cs:=vh 0 (0,0,0)) rfl (yw _ _) ed rfl;have bp:=b0.upd 5 rfl (Chg.grown dr mem_cons_self) (p':=ptA a9 aF (vh 0 (0,0,0))) dl λb af=>.inl af;have dn:Chg [V,a9] eb wy2:=(cl.mono λk h=>by rw[List.mem_singleton.1 h];simp).trans (Chg.grown dr (by simp));have gx:=(ag.at 5 rfl:aB aj a9 aF (vh 0 (0,0,0))).lt;have d7:∀s∈[V,a9],s<aj.heap.size:=λs a8=>by
   simp only[List.mem_cons,List.not_mem_nil,or_false]at a8;rcases a8 with rfl|rfl<;>assumption
  have eg:qD wy2 bb (va (⟨ps,ts,cs,rs⟩:Pln).labs):=dk.turned dn λs a8=>by have:=d7 s a8;have:=bl.size;omega
  have ei:Q2 wy2 bt rs:=Q2.turned a0 bp.bw ag.bw.size dn d7 (cc.below ch);have f7:Ow kl ah wy2 NoB G ts.length e3 ts:=(bp.at 0 rfl:(ptU (ptO kl ah G ts.length e3 ts) (ptD au S M J H cs)).P wy2).1;have f5:Ow vq au wy2 (λb=>b∈S) M J H cs:=(bp.at 0 rfl:(ptU (ptO kl ah G ts.length e3 ts) (ptD au S M J H cs)).P wy2).2.1;have f6:Ow lS ak wy2 NoB ad aa Z ps:=bp.at 2 rfl;have f4:aB wy2 V eO [.slice ad aa Z,.slice G ts.length e3,.slice M J H,.pointer (some ⟨bt,0,none⟩),.pointer bb]:=bp.at 4 rfl;refine⟨wy2,f2,0,0,0,0,aB.res (eL.load0 dl rfl),bp.bw,?_⟩;rw[hV,if_neg (by omega)];exact⟨V,rfl,ad,aa,Z,G,_,e3,M,J,H,bt,bb,f4,f6.all,f7.all,f5.all,ei,eg⟩
theorem zM (a:Value){w K}(h:nA w (.cells (Value.cells a) am) λb c=>true/\∃d,Ld co (vA b 0) c (vI d)/\ab (d==1) (∃e,Ld am (vA b 0) c e/\uL gK #[e] c λf g i j=>K (.slice f g i) j) (∃e,Ld am (vA b 0) c e/\uS mV #[e] c λf g=>nA g (.cells #[vS f] ai) λi j=>K (.slice (vA i 0) 1 1) j)):Cf iK #[a] w (Ret K):=ru func43 [] h
theorem wn (a:Option Addr)(b c:Nat)(d:Option Addr)(e f:Nat)(g:Option Addr)(i j:Nat)(k:Option Addr)(l m:Nat)(n:Option Addr)(o p:Nat)(q:Value){w K}(h:nA w (.cells #[.slice a b c,.slice d e f,.slice g i j,.slice k l m,.slice n o p] aq) λr s=>nA s (.cells (Value.cells q) bj) λt u=>true/\∃v x y,Ld aN (vA r 0) u (.slice v x y)/\∃z:Nat->FP [shI],(∃A,z A (0:Int) u)/\∀A B,aP 9 (∀C,z A B C->ab (decide (B<(x:Int))) ((bx B (x:Int)/\Option.isSome v=true)/\∃D,Ld ak (aw v B 22) C D/\nA C (.cells bg ak) λE F=>∃G,Sv ak (vA E 0) D F G/\∃H,Ld ak (vA E 0) G H/\∃I,Ld bj (vA t 0) G I/\uB nq #[H,I] G λJ L=>ab J (K (.bool true) L) (∃M:Nat,M<A/\z M (i64.wrap (B+1)) L)) (K (.bool false) C))):Cf kL #[.agg #[.slice a b c,.slice d e f,.slice g i j,.slice k l m,.slice n o p],q] w (Ret K):=ru func44 [(6,[(10,shI)])] h
theorem EB (a b c:lU){w K}(h:nA w (.cells #[.slice none 0 0,.slice none 0 0,.slice none 0 0,.slice none 0 0,.slice none 0 0] aq) λd e=>nA e (.cells #[vI 0,vI 0,vI 0,vI 0] aF) λf g=>nA g (.cells #[.slice none 0 0,.slice none 0 0,.slice none 0 0,.slice none 0 0,.slice none 0 0] aq) λi j=>∃k,Sv aq (vA i 0) (.agg #[.slice none 0 0,.slice none 0 0,.slice none 0 0,.slice none 0 0,.slice none 0 0]) j k/\Cf rb #[vS a] k λl m=>∃n o p q r s,l=rT #[.slice n o p,.agg #[vI q,vI r,vI s]]/\nA m (.cells #[vI 0,vI 0,vI 0] ax) λt u=>∃v,Sv ax (vA t 0) (.agg #[vI q,vI r,vI s]) u v/\true/\∃x,Ld i6 (vA t 0) v (vI x)/\ab (x !=0) (∃y:World->Prop,y (drew v)/\∃z A B C D E F G H I J L M N O,(∀P,y P->Ld aq (vA i 0) P (.agg #[.slice z A B,.slice C D E,.slice F G H,.slice I J L,.slice M N O]))/\∃P Q R,(∀S,y S->Ld ax (vA t 0) S (.agg #[vI P,vI Q,vI R]))/\∃S,Sv aq (vA d 0) (.agg #[.slice z A B,.slice C D E,.slice F G H,.slice I J L,.slice M N O]) (drew v) S/\y S/\∃T,Sv aF (vA f 0) (.agg #[vI 1,vI P,vI Q,vI R]) S T/\∃U V X Y Z aa ac ad af ag aj al an ao av,Rv aq (vA d 0) T (.agg #[.slice U V X,.slice Y Z aa,.slice ac ad af,.slice ag aj al,.slice an ao av])/\∃bb bd be bk,Rv aF (vA f 0) T (.agg #[vI bb,vI bd,vI be,vI bk])/\K (.tuple #[.agg #[.slice U V X,.slice Y Z aa,.slice ac ad af,.slice ag aj al,.slice an ao av],.agg #[vI bb,vI bd,vI be,vI bk]]) T) (Cf qZ #[vS b] v λy z=>∃A B C D E F,y=rT #[.slice A B C,.agg #[vI D,vI E,vI F]]/\∃G,Sv ax (vA t 0) (.agg #[vI D,vI E,vI F]) z G/\true/\∃H,Ld i6 (vA t 0) G (vI H)/\ab (H !=0) (∃I:World->Prop,I (drew G)/\∃J L M N O P Q R S T U V X Y Z,(∀aa,I aa->Ld aq (vA i 0) aa (.agg #[.slice J L M,.slice N O P,.slice Q R S,.slice T U V,.slice X Y Z]))/\∃aa ac ad,(∀af,I af->Ld ax (vA t 0) af (.agg #[vI aa,vI ac,vI ad]))/\∃af,Sv aq (vA d 0) (.agg #[.slice J L M,.slice N O P,.slice Q R S,.slice T U V,.slice X Y Z]) (drew G) af/\I af/\∃ag,Sv aF (vA f 0) (.agg #[vI 2,vI aa,vI ac,vI ad]) af ag/\∃aj al an ao av bb bd be bk bl bp bq bs bt bw,Rv aq (vA d 0) ag (.agg #[.slice aj al an,.slice ao av bb,.slice bd be bk,.slice bl bp bq,.slice bs bt bw])/\∃cb cc cf ch,Rv aF (vA f 0) ag (.agg #[vI cb,vI cc,vI cf,vI ch])/\K (.tuple #[.agg #[.slice aj al an,.slice ao av bb,.slice bd be bk,.slice bl bp bq,.slice bs bt bw],.agg #[vI cb,vI cc,vI cf,vI ch]]) ag) (Cf re #[vS c] G λI J=>∃L M N O P Q R S T,I=rT #[.slice L M N,.slice O P Q,.agg #[vI R,vI S,vI T]]/\∃U,Sv ax (vA t 0) (.agg #[vI R,vI S,vI T]) J U/\true/\∃V,Ld i6 (vA t 0) U (vI V)/\ab (V !=0) (∃X:World->Prop,X (drew U)/\∃Y Z aa ac ad af ag aj al an ao av bb bd be,(∀bk,X bk->Ld aq (vA i 0) bk (.agg #[.slice Y Z aa,.slice ac ad af,.slice ag aj al,.slice an ao av,.slice bb bd be]))/\∃bk bl bp,(∀bq,X bq->Ld ax (vA t 0) bq (.agg #[vI bk,vI bl,vI bp]))/\∃bq,Sv aq (vA d 0) (.agg #[.slice Y Z aa,.slice ac ad af,.slice ag aj al,.slice an ao av,.slice bb bd be]) (drew U) bq/\X bq/\∃bs,Sv aF (vA f 0) (.agg #[vI 3,vI bk,vI bl,vI bp]) bq bs/\∃bt bw cb cc cf ch cl cm cn cp cs cv dc dd df,Rv aq (vA d 0) bs (.agg #[.slice bt bw cb,.slice cc cf ch,.slice cl cm cn,.slice cp cs cv,.slice dc dd df])/\∃dg dk dl dn,Rv aF (vA f 0) bs (.agg #[vI dg,vI dk,vI dl,vI dn])/\K (.tuple #[.agg #[.slice bt bw cb,.slice cc cf ch,.slice cl cm cn,.slice cp cs cv,.slice dc dd df],.agg #[vI dg,vI dk,vI dl,vI dn]]) bs) (∃X,Sv aq (vA i 0) (.agg #[.slice n o p,.slice A B C,.slice L M N,.slice O P Q,.slice none 0 0]) U X/\∃Y:Nat->FP [shI],(∃Z,Y Z (0:Int) X)/\∀Z aa,aP 12 (∀ac,Y Z aa ac->ab (decide (aa<(o:Int))) ((bx aa (o:Int)/\Option.isSome n=true)/\∃ad,Ld ak (aw n aa 22) ac ad/\nA ac (.cells bg ak) λaf ag=>∃aj,Sv ak (vA af 0) ad ag aj/\∃al:World->Prop,al (drew aj)/\true/\∃an ao av,(∀bb,al bb->Ld aA (vA i 4) bb (.slice an ao av))/\true/\∃bb,(∀bd,al bd->Ld am (vA af 1) bd bb)/\uL iK #[bb] (drew aj) λbd be bk bl=>al bl/\∃bp bq bs bt,(Builtin.append_ #[aA,aA] aA #[.slice an ao av,.slice bd be bk]).run prog bl=.ok (.slice bq bs bt) bp/\al bp/\true/\∃bw,Sv aA (vA i 4) (.slice bq bs bt) bp bw/\∃cb:Nat,cb<Z/\Y cb (i64.wrap (aa+1)) bw) (∃ad:Nat->FP [shI],(∃af,ad af (0:Int) ac)/\∀af ag,aP 31 (∀aj,ad af ag aj->ab (decide (ag<(M:Int))) ((bx ag (M:Int)/\Option.isSome L=true)/\∃al,Ld ah (aw L ag 24) aj al/\nA aj (.cells dZ ah) λan ao=>∃av,Sv ah (vA an 0) al ao av/\∃bb bd be bk bl bp bq bs bt bw cb cc cf ch cl,Ld aq (vA i 0) av (.agg #[.slice bb bd be,.slice bk bl bp,.slice bq bs bt,.slice bw cb cc,.slice cf ch cl])/\true/\true/\∃cm,Ld iG (vA an 1) av (.bool cm)/\true/\true/\∃cn,Ld am (vA an 2) av cn/\true/\true/\∃cp,Ld ai (vA an 21) av (vS cp)/\∃cs,(Instr.build bj #[(0,.bool cm),(1,cn),(2,vS cp)]).run prog av=.ok cs av/\uB kL #[.agg #[.slice bb bd be,.slice bk bl bp,.slice bq bs bt,.slice bw cb cc,.slice cf ch cl],cs] av λcv dc=>ab (!cv) (∃dd:World->Prop,dd (drew dc)/\true/\∃df,(∀dg,dd dg->Ld co (vA an 23) dg (vI df))/\∃dg,Sv aq (vA d 0) (.agg #[.slice none 0 0,.slice none 0 0,.slice none 0 0,.slice none 0 0,.slice none 0 0]) (drew dc) dg/\dd dg/\∃dk,Sv aF (vA f 0) (.agg #[vI 3,vI 231,vI df,vI 1]) dg dk/\∃dl dn dr ds du dv ea eb ed ef eg ei ek em en,Rv aq (vA d 0) dk (.agg #[.slice dl dn dr,.slice ds du dv,.slice ea eb ed,.slice ef eg ei,.slice ek em en])/\∃eq er es et,Rv aF (vA f 0) dk (.agg #[vI eq,vI er,vI es,vI et])/\K (.tuple #[.agg #[.slice dl dn dr,.slice ds du dv,.slice ea eb ed,.slice ef eg ei,.slice ek em en],.agg #[vI eq,vI er,vI es,vI et]]) dk) (∃dd:World->Prop,dd (drew dc)/\true/\∃df dg dk,(∀dl,dd dl->Ld aA (vA i 4) dl (.slice df dg dk))/\true/\true/\∃dl,(∀dn,dd dn->Ld am (vA an 2) dn dl)/\uL iK #[dl] (drew dc) λdn dr ds du=>dd du/\∃dv ea eb ed,(Builtin.append_ #[aA,aA] aA #[.slice df dg dk,.slice dn dr ds]).run prog du=.ok (.slice ea eb ed) dv/\dd dv/\true/\∃ef,Sv aA (vA i 4) (.slice ea eb ed) dv ef/\∃eg:Nat,eg<af/\ad eg (i64.wrap (ag+1)) ef)) (true/\∃al an ao,Ld aA (vA i 4) aj (.slice al an ao)/\uL bZ #[.slice al an ao] aj λav bb bd be=>ab (decide ((bb:Int) >=512)) (∃bk,Sv aq (vA d 0) (.agg #[.slice none 0 0,.slice none 0 0,.slice none 0 0,.slice none 0 0,.slice none 0 0]) be bk/\∃bl,Sv aF (vA f 0) (.agg #[vI 1,vI 53,vI 1,vI 1]) bk bl/\∃bp bq bs bt bw cb cc cf ch cl cm cn cp cs cv,Rv aq (vA d 0) bl (.agg #[.slice bp bq bs,.slice bt bw cb,.slice cc cf ch,.slice cl cm cn,.slice cp cs cv])/\∃dc dd df dg,Rv aF (vA f 0) bl (.agg #[vI dc,vI dd,vI df,vI dg])/\K (.tuple #[.agg #[.slice bp bq bs,.slice bt bw cb,.slice cc cf ch,.slice cl cm cn,.slice cp cs cv],.agg #[vI dc,vI dd,vI df,vI dg]]) bl) (∃bk bl bp bq bs bt bw cb cc cf ch cl cm cn cp,Ld aq (vA i 0) be (.agg #[.slice bk bl bp,.slice bq bs bt,.slice bw cb cc,.slice cf ch cl,.slice cm cn cp])/\∃cs,Sv aq (vA d 0) (.agg #[.slice bk bl bp,.slice bq bs bt,.slice bw cb cc,.slice cf ch cl,.slice cm cn cp]) be cs/\∃cv,Sv aF (vA f 0) (.agg #[vI 0,vI 0,vI 0,vI 0]) cs cv/\∃dc dd df dg dk dl dn dr ds du dv ea eb ed ef,Rv aq (vA d 0) cv (.agg #[.slice dc dd df,.slice dg dk dl,.slice dn dr ds,.slice du dv ea,.slice eb ed ef])/\∃eg ei ek em,Rv aF (vA f 0) cv (.agg #[vI eg,vI ei,vI ek,vI em])/\K (.tuple #[.agg #[.slice dc dd df,.slice dg dk dl,.slice dn dr ds,.slice du dv ea,.slice eb ed ef],.agg #[vI eg,vI ei,vI ek,vI em]]) cv))))))))):Cf rj #[vS a,vS b,vS c] w (Ret K):=ru func15 [(4000011,[]),(4000021,[]),(4000031,[]),(40,[(60,shI)]),(4000051,[]),(57,[(74,shI)]),(4000073,[]),(4000076,[])] h
theorem Zo {T:Ty o}(G:Flat T){st t ty:TypeId}{bytes:Nat}{z:Value}(U:P.underlying st=some (.slice t))(Y:TF P t T.k bytes z)(E:0<bytes)
 {a:Option Addr} {n c:Nat} {xs:List o} (J:Ow T t w NoB a n c xs) {m cm:Nat} {ys:List o} (R:Sl T w A p m cm ys) (F:(xs.length+ys.length)*bytes <=140737488355328):
 ∃(y:World) (a':Option Addr) (n' c':Nat),(Builtin.append_ #[st,st] ty #[.slice a n c,.slice p m cm]).run P w=.ok (.slice a' n' c') y/\Ow T t y NoB a' n' c' (xs++ys)/\Chg (fm a).toList w y/\Mj w a a':=by
 obtain⟨Z,a4,V,D,O,M,I,H⟩:=ff (ty:=ty) U Y E J (λ_ _ h=>h) (cm:=cm) (R.flat G) F;exact⟨Z,a4,V,D,O,M,Chg.row I,H⟩
theorem QP (s:lU):(vi s).1.path.length <=2048:=by
 unfold vi;split
 ·exact Nat.zero_le _
 unfold NB;split
 ·exact Nat.zero_le _
 split
 ·exact Nat.zero_le _
 split
 ·rename_i hp;unfold mN at hp;rw[Bool.and_eq_true,Bool.and_eq_true,dTx,dTx]at hp;exact hp.2.1
 ·exact Nat.zero_le _
abbrev SlT:=Option Addr×Nat×Nat
def sv (x:SlT):Value:=.slice x.1 x.2.1 x.2.2
def c5 (a b c d e:SlT):List Value:=[sv a,sv b,sv c,sv d,sv e]
def n0:SlT:=(none,0,0)
theorem K6 (a b c d e:SlT):zR (c5 a b c d e):=bz rfl (bz rfl (bz rfl (bz rfl (bz rfl ja))))
theorem ul:Whl prog aq 5:=⟨⟨_,_,rX⟩,by kernel_rfl⟩
theorem BP {h:Hst}(o:h.ok)(ac:h.name.length <=1000000)(w:World):Cf iK #[h.v] w (Ret λv w'=>∃a n c,v=.slice a n c/\Sl tS w' qw a n c (dN h)/\bW w w'):=by
 apply zM;intro Z D V G;have y:=(G▸ar w _:bW w D)
 have E:aB D Z am h.cells:=aB.new V G;have I:=bn.load0 (P:=prog) E (Hst.len o);refine⟨rfl,h.kind,E.load1 eI rfl (i:=0) rfl,ab.of (λc=>⟨_,I,aK (js o (by omega) D) ?_⟩) (λc=>⟨_,I,aK (wg o D) ?_⟩)⟩
 ·rintro _ af ⟨a,n,e,rfl,aa,_,R⟩;have c:h.kind=1:=by simpa using c
  refine⟨_,_,_,rfl,_,_,_,rfl,?_,ae y R y.size⟩;unfold dN;rw[if_pos c];exact aa.all
 ·rintro _ M ⟨rfl,U⟩;have c:h.kind≠1:=by simpa using c
  refine⟨_,rfl,λad J Y H=>⟨_,_,_,rfl,?_,?_⟩⟩
  ·unfold dN;rw[if_neg c];exact(Ow.newF (T:=tS) (eX _) (A:=NoB) Y H (jc.one (mu trivial)) (by show 1 <=maxLen;decide):Ow tS ai J NoB _ 1 1 [mo h]).all
  ·have O:=(H▸ar M _:bW M J)
   have F:=ae y U y.size;exact ae F O F.size
theorem xW {x b c d e:SlT}{ps:List Pat}(E:Sl lS w A x.1 x.2.1 x.2.2 ps)(bw:ps.length <=1000000)(av:∀p∈ps,p.ok/\p.host.name.length <=253){r:Req}(or:r.ok)(bl:r.host.name.length <=80000000)(bp:r.path.length <=9223372036854775800):
 Cf kL #[.agg #[sv x,sv b,sv c,sv d,sv e],r.v] w (Ret λv w'=>v=.bool (ps.any λp=>wk r&&jH p r)/\bW w w'):=by
 obtain⟨R,bs,U⟩:=x;have E:Sl lS w A R bs U ps:=E;apply wn;have a9:=E.len;subst a9;intro bb H a0 ac be O a8 ad;have Y:=(ac▸ar w _:bW w H)
 have Z:=(ad▸ar H _:bW H O)
 have af:aB H bb aq (c5 (R,ps.length,U) b c d e):=aB.new a0 ac;have ag:aB O be bj r.cells:=aB.new a8 ad;have V:=ae Y Z Y.size;refine⟨rfl,R,_,U,(af.below Z).load1 dy rfl (i:=0) rfl,λm i W=>∃k:Nat,i=(k:Int)/\m=ps.length-k/\k <=ps.length/\(∀p∈ps.take k,(wk r&&jH p r)=false)/\bW O W,⟨_,0,rfl,rfl,Nat.zero_le _,λp hp=>(by simp at hp),Below.refl _ _⟩,λm i=>aP.of ?_ _⟩;rintro W ⟨k,rfl,rfl,bt,J,G⟩;have F:=ae V G V.size;refine ab.of (λh=>?_) (λh=>?_)<;>simp only[dTx,dFx]at h
 ·have D:k<ps.length:=by omega
  obtain⟨bk,M⟩:=lK (E.below F) D;have b0:=(av _ (getElem_mem D)).2;refine⟨⟨⟨by omega,h⟩,E.isSome D⟩,_,bk,ck.new (zs:=sP.cells) (cs:=ps[k].cells) rfl (Pat.len M) (Pat.one _) W λb1 bq bu aj I=>?_⟩;refine⟨_,ck.load0 aj (Pat.len M),_,oA.load0 ((ag.below G).below I) (Req.len or),aK (BM M or (by omega) bl bp bq) ?_⟩;rintro _ b2 ⟨rfl,an⟩;have aa:=ae I an I.size;refine⟨_,rfl,ab.of (λy=>⟨?_,ae F aa F.size⟩) (λy=>⟨ps.length-(k+1),by omega,k+1,by rw[wrJ];omega,rfl,by omega,λp hp=>?_,ae G aa G.size⟩)⟩
  ·rw[show(ps.any λp=>wk r&&jH p r)=true from List.any_eq_true.2 ⟨_,getElem_mem D,y⟩]
  ·rw[take_succ_eq_append_getElem D]at hp;rcases List.mem_append.1 hp with hp|hp
   ·exact J p hp
   ·rw[List.mem_singleton.1 hp];exact y
 ·obtain rfl:k=ps.length:=by omega
  rw[take_length]at J;refine⟨?_,F⟩;rw[show(ps.any λp=>wk r&&jH p r)=false from by rw[List.any_eq_false];intro p hp y;rw[J p hp]at y;cases y]
def ZT (a b c:lU)(w:World)(v:Value)(w':World):Prop:=bW w w'/\∃x1 x2 x3 x4 x5 n f,v=.tuple #[.agg #[sv x1,sv x2,sv x3,sv x4,sv x5],Mb n f]/\match rH a b c with
 |.inr (m,g)=>n=m/\f=g
 |.inl p=>n=0/\f=(0,0,0)/\(p.ps.length <=12/\p.ts.length <=8/\p.labs.length <=5080)/\Sl lS w' qw x1.1 x1.2.1 x1.2.2 p.ps/\Sl wv w' qw x2.1 x2.2.1 x2.2.2 p.rs/\Sl kl w' qw x3.1 x3.2.1 x3.2.2 p.ts/\Sl vq w' qw x4.1 x4.2.1 x4.2.2 p.cs/\Sl tS w' qw x5.1 x5.2.1 x5.2.2 p.labs
theorem My {w W:World}{ps:List Pt}(h:Sp w ps W)(i j:Nat){y D:Nat}{zs:List Value}(aa:zs.length=5)(G:ps[i]? =some (ptA y aq zs))(M:ps[j]? =some (ptA D aF (vh 0 (0,0,0))))(J:i≠j)(a b c d e:SlT)(n:Int)(f:Flt):
 ∃E,(Instr.storeAt aq (.pointer (some ⟨y,0,none⟩)) (.agg #[sv a,sv b,sv c,sv d,sv e])).run prog W=.ok () E/\Sp w (ps.set i (ptA y aq (c5 a b c d e))) E/\
  ∃wy,(Instr.storeAt aF (.pointer (some ⟨D,0,none⟩)) (Mb n f)).run prog E=.ok () wy/\Sp w ((ps.set i (ptA y aq (c5 a b c d e))).set j (ptA D aF (vh n f))) wy/\
  (aS aq (.pointer (some ⟨y,0,none⟩))).run prog wy=.ok (.agg #[sv a,sv b,sv c,sv d,sv e]) wy/\(aS aF (.pointer (some ⟨D,0,none⟩))).run prog wy=.ok (Mb n f) wy:=by
 have Z:=(List.getElem?_eq_some_iff.1 G).1;have af:=(List.getElem?_eq_some_iff.1 M).1;obtain⟨E,ac,R,V⟩:=ul.store0 (P:=prog) (cs:=c5 a b c d e) rfl (K6 _ _ _ _ _) (h.at i G:aB W y aq zs) aa;have h1:=h.upd i G (Chg.grown V mem_cons_self) (p':=ptA y aq (c5 a b c d e)) R λb F=>.inl F;have O:(ps.set i (ptA y aq (c5 a b c d e)))[j]? =some (ptA D aF (vh 0 (0,0,0))):=by rw[List.getElem?_set_ne J];exact M
 obtain⟨wy,ad,H,Y⟩:=eL.store0 (P:=prog) (cs:=vh n f) rfl (yw n f) (h1.at j O:aB E D aF (vh 0 (0,0,0))) rfl;have I:=h1.upd j O (Chg.grown Y mem_cons_self) (p':=ptA D aF (vh n f)) H λb F=>.inl F;have U:aB wy y aq (c5 a b c d e):=I.at i (by rw[List.getElem?_set_ne (Ne.symm J),List.getElem?_set_self Z]);exact⟨E,ac,h1,wy,ad,I,aB.res (ul.load0 U rfl),aB.res (eL.load0 H rfl)⟩
set_option maxHeartbeats 4000000 in
theorem GR (a b c:lU)(w:World):Cf rj #[vS a,vS b,vS c] w (Ret (ZT a b c w)):=by
 apply EB;intro dd ei gs es de ek gt et G w8 gu eu;have fo:=(es▸ar w _:bW w ei)
 have fs:=(et▸ar ei _:bW ei ek)
 have fx:=(eu▸ar ek _:bW ek w8)
 let U:List Value:=c5 n0 n0 n0 n0 n0;have dm:Sp w [ptA G aq U,ptA de aF (vh 0 (0,0,0)),ptA dd aq U] w8:=
  (((Sp.nil w).add fo (p:=ptA dd aq U) (aB.new gs es) λb I=>by rw[List.mem_singleton.1 I];omega).add fs (p:=ptA de aF (vh 0 (0,0,0))) (aB.new gt et) λb I=>by rw[List.mem_singleton.1 I];omega).add fx (p:=ptA G aq U) (aB.new gu eu) λb I=>by rw[List.mem_singleton.1 I];omega
 obtain⟨w9,g3,em,f8⟩:=ul.store0 (P:=prog) (cs:=U) rfl (K6 _ _ _ _ _) (dm.at 0 rfl:aB w8 G aq U) rfl;have eq:Sp w [ptA G aq U,ptA de aF (vh 0 (0,0,0)),ptA dd aq U] w9:=dm.upd 0 rfl (Chg.grown f8 mem_cons_self) (p':=ptA G aq U) em λb I=>.inl I;refine⟨w9,g3,aK (GJ a w9) ?_⟩;rintro v e1 ⟨fe,E⟩;obtain⟨a8,b2,av,V,ps,rfl,bl,f2,d5⟩:∃(x:Option Addr) (n e:Nat) (f:Flt) (ps:List Pat),v=.tuple #[.slice x n e,vE f]/\Ow lS ak e1 NoB x n e ps/\bo w9.heap.size x/\((EJ a=.inl ps/\f=(0,0,0))\/(EJ a=.inr f/\f.1≠0)):=by
  cases H:EJ a with
  |inl ps=>rw[H]at E;obtain⟨x,n,e,h1,y,M⟩:=E;exact⟨x,n,e,_,ps,h1,y,M,.inl ⟨rfl,rfl⟩⟩
  |inr f=>rw[H]at E;exact⟨none,0,0,f,[],E.1,Ow.nil _ _ _ _,bo.none _,.inr ⟨rfl,E.2⟩⟩
 clear E;have en:=eq.add fe (p:=ptO lS ak a8 b2 av ps) bl λg F=>f2 g (bV.1 F);refine⟨a8,b2,av,V.1,V.2.1,V.2.2,rfl,di.new (zs:=nG (0,0,0)) (cs:=nG V) rfl rfl (pC _) e1 λbs ef hh A10 e7=>?_⟩;have dn:=en.add e7 (p:=ptA bs ax (nG V)) A10 λb I=>by rw[List.mem_singleton.1 I];omega
 refine⟨rfl,V.1,A10.load1 jh rfl rfl,ab.of (λh=>?_) (λh=>?_)⟩
 ·have cc:V.1≠0:=by simpa using h
  obtain⟨H,_⟩:=d5.resolve_left λy=>cc (by rw[y.2]);have R:=dn.below (dJ ef);obtain⟨J,af,h1,wy,ag,y,aj,ac⟩:=My R 4 3 rfl rfl rfl (by decide) n0 n0 n0 n0 n0 1 V;exact⟨λu=>aB u G aq U/\aB u bs ax (nG V),⟨R.at 2 rfl,R.at 0 rfl⟩,_,_,_,_,_,_,_,_,_,_,_,_,_,_,_,λu D=>ul.load0 D.1 rfl,V.1,V.2.1,V.2.2,λu D=>di.load0 D.2 rfl,J,af,⟨h1.at 2 rfl,h1.at 0 rfl⟩,wy,ag,_,_,_,_,_,_,_,_,_,_,_,_,_,_,_,aj,_,_,_,_,ac,y.bw,n0,n0,n0,n0,n0,1,V,rfl,by rw[PW H];exact⟨rfl,rfl⟩⟩
 have bq:V.1=0:=by simpa using h
 obtain⟨b1,rfl⟩:=d5.resolve_right λy=>y.2 bq;have dc:=L8 b1;clear d5 h bq A10 eq dm em;refine aK (GH b ef) ?_;rintro v hb ⟨fl,E⟩;obtain⟨cp,ch,b7,Y,rs,rfl,eb,f3,d6⟩:∃(x:Option Addr) (n e:Nat) (f:Flt) (rs:List Rul),v=.tuple #[.slice x n e,vE f]/\Ow wv aC hb NoB x n e rs/\bo ef.heap.size x/\((pJ b=.inl rs/\f=(0,0,0))\/(pJ b=.inr f/\f.1≠0)):=by
  cases H:pJ b with
  |inl ps=>rw[H]at E;obtain⟨x,n,e,h1,y,M⟩:=E;exact⟨x,n,e,_,ps,h1,y,M,.inl ⟨rfl,rfl⟩⟩
  |inr f=>rw[H]at E;exact⟨none,0,0,f,[],E.1,Ow.nil _ _ _ _,bo.none _,.inr ⟨rfl,E.2⟩⟩
 clear E;have eo:=dn.add fl (p:=ptO wv aC cp ch b7 rs) eb λg F=>f3 g (bV.1 F);obtain⟨b0,g6,bq⟩:=Bf eo 1 rfl Y;have A10:aB b0 bs ax (nG Y):=bq.at 1 rfl;refine⟨_,_,_,Y.1,Y.2.1,Y.2.2,rfl,b0,g6,rfl,Y.1,A10.load1 jh rfl rfl,ab.of (λh=>?_) (λh=>?_)⟩
 ·have cc:Y.1≠0:=by simpa using h
  obtain⟨H,_⟩:=d6.resolve_left λy=>cc (by rw[y.2]);have R:=bq.below (dJ b0);obtain⟨J,af,h1,wy,ag,y,aj,ac⟩:=My R 5 4 rfl rfl rfl (by decide) n0 n0 n0 n0 n0 2 Y;exact⟨λu=>aB u G aq U/\aB u bs ax (nG Y),⟨R.at 3 rfl,R.at 1 rfl⟩,_,_,_,_,_,_,_,_,_,_,_,_,_,_,_,λu D=>ul.load0 D.1 rfl,Y.1,Y.2.1,Y.2.2,λu D=>di.load0 D.2 rfl,J,af,⟨h1.at 3 rfl,h1.at 1 rfl⟩,wy,ag,_,_,_,_,_,_,_,_,_,_,_,_,_,_,_,aj,_,_,_,_,ac,y.bw,n0,n0,n0,n0,n0,2,Y,rfl,by rw[PX b1 H];exact⟨rfl,rfl⟩⟩
 have cd:Y.1=0:=by simpa using h
 obtain⟨er,rfl⟩:=d6.resolve_right λy=>y.2 cd;clear d6 h cd A10 eo dn en;refine aK (GM c b0) ?_;rintro v e2 ⟨fn,E⟩;obtain⟨b3,dg,e3,cv,cl,b8,S,Z,ts,cs,rfl,bt,dj,f5,f1,f4,d7⟩:∃(x:Option Addr) (n e:Nat) (c2:Option Addr) (m d:Nat) (S:List Nat) (f:Flt) (ts:List Tpl) (cs:List Cho),v=.tuple #[.slice x n e,.slice c2 m d,vE f]/\Ow kl ah e2 NoB x n e ts/\(ptD au S c2 m d cs).P e2/\bo b0.heap.size x/\bo b0.heap.size c2/\(∀g∈S,b0.heap.size <=g)/\((oc c=.inl (ts,cs)/\f=(0,0,0)/\RdI (ts,cs))\/(oc c=.inr f/\f.1≠0)):=by
  cases H:oc c with
  |inl st=>
   obtain⟨ts,cs⟩:=st;rw[H]at E;obtain⟨gh,x,n,e,c2,m,d,S,h1,y,M,gb,gc,gd⟩:=E;exact⟨x,n,e,c2,m,d,S,_,ts,cs,h1,y,M,gb,gc,gd,.inl ⟨rfl,rfl,gh⟩⟩
  |inr f=>
   rw[H]at E;exact⟨none,0,0,none,0,0,[],f,[],[],E.1,Ow.nil _ _ _ _,⟨Ow.nil _ _ _ _,λg F=>(by cases F),λg F=>(by cases F)⟩,bo.none _,bo.none _,λg F=>(by cases F),.inr ⟨rfl,E.2⟩⟩
 clear E;have ep:=bq.add fn (p:=ptU (ptO kl ah b3 dg e3 ts) (ptD au S cv cl b8 cs)) ⟨bt,dj⟩ λg F=>by
  rcases List.mem_append.1 F with F|F
  ·exact f5 g (bV.1 F)
  ·rcases List.mem_append.1 F with F|F
   ·exact f1 g (bV.1 F)
   ·exact f4 g F
 obtain⟨dk,g4,c9⟩:=Bf ep 2 rfl Z;have A10:aB dk bs ax (nG Z):=c9.at 2 rfl;refine⟨_,_,_,_,_,_,Z.1,Z.2.1,Z.2.2,rfl,dk,g4,rfl,Z.1,A10.load1 jh rfl rfl,ab.of (λh=>?_) (λh=>?_)⟩
 ·have cc:Z.1≠0:=by simpa using h
  obtain⟨H,_⟩:=d7.resolve_left λy=>cc (by rw[y.2.1]);have R:=c9.below (dJ dk);obtain⟨J,af,h1,wy,ag,y,aj,ac⟩:=My R 6 5 rfl rfl rfl (by decide) n0 n0 n0 n0 n0 3 Z;exact⟨λu=>aB u G aq U/\aB u bs ax (nG Z),⟨R.at 4 rfl,R.at 2 rfl⟩,_,_,_,_,_,_,_,_,_,_,_,_,_,_,_,λu D=>ul.load0 D.1 rfl,Z.1,Z.2.1,Z.2.2,λu D=>di.load0 D.2 rfl,J,af,⟨h1.at 4 rfl,h1.at 2 rfl⟩,wy,ag,_,_,_,_,_,_,_,_,_,_,_,_,_,_,_,aj,_,_,_,_,ac,y.bw,n0,n0,n0,n0,n0,3,Z,rfl,by rw[PY b1 er H];exact⟨rfl,rfl⟩⟩
 have cd:Z.1=0:=by simpa using h
 obtain⟨d2,rfl,gi⟩:=d7.resolve_right λy=>y.2 cd;have ev:X4 ts:=Jp d2;have g0:∀t∈ts,t.url.path.length <=2048:=λt H=>by
  obtain⟨s,e⟩:=Jq d2 t H;rw[e];exact QP s
 have ge:ts.length <=8:=gi.1;have hV:=PZ b1 er d2;clear d7 h cd A10 bt dj ep bq;have ga:=dc.1;have gj:∀p∈ps,(dN p.host).length <=254:=λp hp=>j4 _ (dc.2 p hp).2;have gl:∀t∈ts,(dN t.url.host).length <=254:=λt H=>j4 _ (ev t H);have f6:∀j,((ps.take j).flatMap λx=>dN x.host).length <=12*254:=λj=>Nat.le_trans (pB (B:=254) _ λx be=>gj x (mem_of_mem_take be)) (Nat.mul_le_mul (by rw[length_take];omega) (Nat.le_refl _));have f7:∀j,((ts.take j).flatMap λx=>dN x.url.host).length <=8*254:=λj=>Nat.le_trans (pB (B:=254) _ λx be=>gl x (mem_of_mem_take be)) (Nat.mul_le_mul (by rw[length_take];omega) (Nat.le_refl _));let b6:Pt:=ptU (ptO kl ah b3 dg e3 ts) (ptD au S cv cl b8 cs);let an:SlT->List Value:=λx=>c5 (a8,b2,av) (cp,ch,b7) (b3,dg,e3) (cv,cl,b8) x;let b5:SlT->List Txt->List Pt:=λx l=>[ptO tS ai x.1 x.2.1 x.2.2 l,b6,ptO wv aC cp ch b7 rs,ptA bs ax (nG (0,0,0)),ptO lS ak a8 b2 av ps,ptA G aq (an x),ptA de aF (vh 0 (0,0,0)),ptA dd aq U]
 obtain⟨wd,g5,e6,f9⟩:=ul.store0 (P:=prog) (cs:=an n0) rfl (K6 _ _ _ _ _) (c9.at 4 rfl:aB dk G aq U) rfl;have R:Sp w (b5 n0 []) wd:=(c9.upd 4 rfl (Chg.grown f9 mem_cons_self) (p':=ptA G aq (an n0)) e6 λb I=>.inl I).add (Below.refl _ _) (p:=ptO tS ai none 0 0 []) (Ow.nil _ _ _ _) λb I=>by cases I
 have gy:b2=ps.length:=(R.at 4 rfl:Ow lS ak wd NoB a8 b2 av ps).len;have gz:dg=ts.length:=(R.at 1 rfl:b6.P wd).1.len;subst gy gz;have push:∀{W:World} {x:SlT} {l:List Txt} {h:Hst} {k:Nat} {T:TypeId} {vs:List Value},Sp w (ptA k T vs::b5 x l) W->l.length <=20*254->h.ok->h.name.length <=253->Cf iK #[h.v] W λf0 bu=>∃(c3:Option Addr) (df c4:Nat),f0=.returned (.slice c3 df c4)/\
  (aB bu G aq (an x)/\aB bu k T vs)/\∃(a0:World) (a9:Option Addr) (bk bb:Nat),(Builtin.append_ #[aA,aA] aA #[.slice x.1 x.2.1 x.2.2,.slice c3 df c4]).run prog bu=.ok (.slice a9 bk bb) a0/\
  (aB a0 G aq (an x)/\aB a0 k T vs)/\(true=true)/\∃(wx_12:World),(Instr.storeAt aA (.pointer (some ⟨G,4,none⟩)) (.slice a9 bk bb)).run prog a0=.ok () wx_12/\Sp w (b5 (a9,bk,bb) (l++dN h)) wx_12:=fun{W x l h k T vs} aa hk O gx=>by
  refine(BP O (by omega) W).mono ?_;rintro _ bu ⟨_,rfl,hd,hn,hf,rfl,g7,fd⟩;have c8:=aa.below fd;have:=j4 h gx;obtain⟨a0,dl,n',c',ac,o2,fz,g1⟩:=Zo (ty:=aA) (eX _) bh dG (by decide) (c8.at 1 rfl:Ow tS ai bu NoB x.1 x.2.1 x.2.2 l) g7 (by omega);have d1:=c8.upd 1 rfl fz (p':=ptO tS ai dl n' c' (l++dN h)) o2 g1.fp;obtain⟨J,cn,be,_⟩:=d1.put ng 6 rfl (i:=4) (v:=.slice dl n' c') rfl rfl (by show 4<5;decide);exact⟨_,_,_,rfl,⟨c8.at 6 rfl,c8.at 0 rfl⟩,a0,dl,n',c',ac,⟨d1.at 6 rfl,d1.at 0 rfl⟩,rfl,J,cn,be.tail⟩
 refine⟨wd,g5,λm i W=>∃(j:Nat) (x:SlT),i=(j:Int)/\m=ps.length-j/\j <=ps.length/\Sp w (b5 x ((ps.take j).flatMap λx=>dN x.host)) W,⟨_,0,n0,rfl,rfl,Nat.zero_le _,R⟩,λm i=>aP.of ?_ _⟩;rintro W ⟨j,x,rfl,rfl,cb,aa⟩;have bl:Ow lS ak W NoB a8 ps.length av ps:=aa.at 4 rfl;have gr:=f6 j;refine ab.of (λh=>?_) (λh=>?_)<;>simp only[dTx,dFx]at h
 ·have ad:j<ps.length:=by omega
  obtain⟨d9,O⟩:=lK bl.all ad;have hp:=dc.2 _ (getElem_mem ad);have d8:=sI (f:=λx:Pat=>dN x.host) ad;generalize ps[j]=p at*;refine⟨⟨⟨by omega,h⟩,bl.all.isSome ad⟩,_,d9,ck.new (zs:=sP.cells) (cs:=p.cells) rfl (Pat.len O) (Pat.one _) W λew ha hi e4 fa=>?_⟩;have ds:=(aa.add fa (p:=ptA ew ak p.cells) e4 λb I=>by rw[List.mem_singleton.1 I];omega).below (dJ ha);refine⟨λu=>aB u G aq (an x)/\aB u ew ak p.cells,⟨ds.at 6 rfl,ds.at 0 rfl⟩,rfl,_,_,_,λu D=>D.1.load1 bh rfl (i:=4) rfl,rfl,_,λu D=>bn.load D.2 (i:=1) (us:=p.host.cells) (Hst.len O) (λj cb=>Af O cb),(push ds (by omega) (h:=p.host) O hp.2).mono ?_⟩;rintro _ bu ⟨c3,df,c4,rfl,d3,a0,a9,bk,bb,ed,d4,_,J,cn,be⟩;exact⟨_,_,_,rfl,d3,a0,a9,bk,bb,ed,d4,rfl,J,cn,ps.length-(j+1),by omega,j+1,(a9,bk,bb),by rw[wrJ];omega,rfl,by omega,by rw[d8];exact be⟩
 obtain rfl:j=ps.length:=by omega
 rw[take_length]at aa gr;clear bl h;refine⟨λm i W=>∃(j:Nat) (x:SlT),i=(j:Int)/\m=ts.length-j/\j <=ts.length/\Sp w (b5 x (ps.flatMap (λx=>dN x.host)++(ts.take j).flatMap λx=>dN x.url.host)) W/\ts.find? (λt=> !sV ps t)=(ts.drop j).find? (λt=> !sV ps t),⟨_,0,x,rfl,rfl,Nat.zero_le _,by simpa using aa,rfl⟩,λm i=>aP.of ?_ _⟩;clear aa x;rintro W ⟨j,x,rfl,rfl,cb,aa,bp⟩;have bt:Ow kl ah W NoB b3 ts.length e3 ts:=(aa.at 1 rfl:b6.P W).1;have gm:=f7 j;refine ab.of (λh=>?_) (λh=>?_)<;>simp only[dTx,dFx]at h
 ·have ad:j<ts.length:=by omega
  obtain⟨d9,O⟩:=pF bt.all ad;have g8:=ev _ (getElem_mem ad);have hq:=g0 _ (getElem_mem ad);rw[drop_eq_getElem_cons ad]at bp;have d8:=sI (f:=λx:Tpl=>dN x.url.host) ad;refine⟨⟨⟨by omega,h⟩,bt.all.isSome ad⟩,_,d9,?_⟩;generalize ts[j]=t at*;have e0:t.url.ok:=O;have or:(Wi t).ok:=O;refine dw.new (zs:=Tpl.cells ⟨[],nh,[],0⟩) (cs:=t.cells) rfl (Tpl.len O) (Tpl.one _) W λcf eg hj A17 fb=>?_;have du:=aa.add fb (p:=ptA cf ah t.cells) A17 λb I=>by rw[List.mem_singleton.1 I];omega
  have b4:aB eg G aq (an x):=du.at 6 rfl;have ex:∀{u:World},aB u cf ah t.cells->(Instr.loadAt am (.pointer (some ⟨cf,2,none⟩))).run prog u=.ok t.url.host.v u:=λb1=>bn.load b1 (i:=2) (us:=t.url.host.cells) (Hst.len O) (λj cb=>by
   rw[show 2+j=1+(1+j) by omega,CL O (by omega)];exact Hl e0 cb)
  have bl:Ow lS ak eg NoB a8 ps.length av ps:=du.at 5 rfl;refine⟨_,_,_,_,_,_,_,_,_,_,_,_,_,_,_,ul.load0 b4 rfl,rfl,rfl,t.url.sec,A17.load1 j5 rfl (i:=1) rfl,rfl,rfl,_,ex A17,rfl,rfl,t.url.path,A17.load1 aI rfl (i:=21) ((CL O (by decide)).trans (sU e0)),_,HR O eg,aK (xW (x:=(a8,ps.length,av)) bl.all (by omega) dc.2 or (by show t.url.host.name.length <=_;omega) (by show t.url.path.length <=_;omega)) ?_⟩;rintro _ hc ⟨rfl,fy⟩;have b9:=(du.below fy).below (dJ hc);refine⟨_,rfl,ab.of (λy=>?_) (λy=>?_)⟩
  ·have dv:(!sV ps t)=true:=y;have go:ts.find? (λt=> !sV ps t)=some t:=by rw[bp,List.find?_cons_of_pos (p:=λt=> !sV ps t) dv]
   obtain⟨J,af,h1,wy,ag,M,aj,ac⟩:=My b9 8 7 rfl rfl rfl (by decide) n0 n0 n0 n0 n0 3 (231,t.line,1);exact⟨λu=>aB u cf ah t.cells,b9.at 0 rfl,rfl,t.line,λu D=>D.load1 eI rfl (i:=23) (Hj O 1),J,af,h1.at 0 rfl,wy,ag,_,_,_,_,_,_,_,_,_,_,_,_,_,_,_,aj,_,_,_,_,ac,M.bw,n0,n0,n0,n0,n0,3,(231,t.line,1),rfl,by rw[hV,go];exact⟨rfl,rfl⟩⟩
  ·have dv:(!sV ps t)=false:=y;refine⟨λu=>aB u G aq (an x)/\aB u cf ah t.cells,⟨b9.at 6 rfl,b9.at 0 rfl⟩,rfl,_,_,_,λu D=>D.1.load1 bh rfl (i:=4) rfl,rfl,rfl,_,λu D=>ex D.2,(push b9 (by rw[length_append];omega) (h:=t.url.host) O g8).mono ?_⟩;rintro _ bu ⟨c3,df,c4,rfl,d3,a0,a9,bk,bb,ed,d4,_,J,cn,be⟩;exact⟨_,_,_,rfl,d3,a0,a9,bk,bb,ed,d4,rfl,J,cn,ts.length-(j+1),by omega,j+1,(a9,bk,bb),by rw[wrJ];omega,rfl,by omega,by rw[d8,<- append_assoc];exact be,by rw[bp,List.find?_cons_of_neg (p:=λt=> !sV ps t) (by rw[dv];decide)]⟩
 obtain rfl:j=ts.length:=by omega
 rw[take_length]at aa gm;rw[List.drop_length]at bp;have bp:ts.find? (λt=> !sV ps t)=none:=bp;rw[bp]at hV;have hV:rH a b c=if 512<(va (⟨ps,ts,cs,rs⟩:Pln).labs).length+1 then .inr (1,53,1,1)else .inl ⟨ps,ts,cs,rs⟩:=hV;have b4:aB W G aq (an x):=aa.at 5 rfl;have ea:Ow tS ai W NoB x.1 x.2.1 x.2.2 (⟨ps,ts,cs,rs⟩:Pln).labs:=aa.at 0 rfl;refine⟨rfl,_,_,_,b4.load1 bh rfl (i:=4) rfl,aK (tB _ _ _ _ (by show(ps.flatMap (λx=>dN x.host)++ts.flatMap λx=>dN x.url.host).length <=_;rw[length_append];omega) W ea.all) ?_⟩;rintro _ g9 ⟨he,ho,hg,rfl,g2,_,e9⟩;have dr:=aa.below e9;have hl:=g2.len;have hm:=Fg (⟨ps,ts,cs,rs⟩:Pln).labs;have b4:aB g9 G aq (an x):=dr.at 5 rfl;refine⟨_,_,_,rfl,ab.of (λy=>?_) (λy=>?_)⟩
 ·have y:=of_decide_eq_true y;obtain⟨J,af,h1,wy,ag,M,aj,ac⟩:=My dr 7 6 rfl rfl rfl (by decide) n0 n0 n0 n0 n0 1 (53,1,1);exact⟨J,af,wy,ag,_,_,_,_,_,_,_,_,_,_,_,_,_,_,_,aj,_,_,_,_,ac,M.bw,n0,n0,n0,n0,n0,1,(53,1,1),rfl,by rw[hV,if_pos (by omega)];exact⟨rfl,rfl⟩⟩
 ·have y:=of_decide_eq_false y;obtain⟨J,af,h1,wy,ag,M,aj,ac⟩:=My dr 7 6 rfl rfl rfl (by decide) (a8,ps.length,av) (cp,ch,b7) (b3,ts.length,e3) (cv,cl,b8) x 0 (0,0,0);have bt:Ow kl ah wy NoB b3 ts.length e3 ts:=(M.at 1 rfl:b6.P wy).1;have dj:(ptD au S cv cl b8 cs).P wy:=(M.at 1 rfl:b6.P wy).2;have eb:Ow wv aC wy NoB cp ch b7 rs:=M.at 2 rfl;have bl:Ow lS ak wy NoB a8 ps.length av ps:=M.at 4 rfl;have ea:Ow tS ai wy NoB x.1 x.2.1 x.2.2 (⟨ps,ts,cs,rs⟩:Pln).labs:=M.at 0 rfl;exact⟨_,_,_,_,_,_,_,_,_,_,_,_,_,_,_,ul.load0 b4 rfl,J,af,wy,ag,_,_,_,_,_,_,_,_,_,_,_,_,_,_,_,aj,_,_,_,_,ac,M.bw,_,_,_,_,_,0,(0,0,0),rfl,by rw[hV,if_neg (by omega)];exact⟨rfl,rfl,⟨ga,ge,by show(ps.flatMap (λx=>dN x.host)++ts.flatMap λx=>dN x.url.host).length <=_;rw[length_append];omega⟩,bl.all,eb.all,bt.all,dj.1.all,ea.all⟩⟩
abbrev kE:lU:=[101,120,112,105,114,101,115]
abbrev kA:lU:=[109,97,120,45,97,103,101]
abbrev kD:lU:=[100,111,109,97,105,110]
abbrev kP:lU:=[112,97,116,104]
abbrev kS:lU:=[115,101,99,117,114,101]
abbrev kH:lU:=[104,116,116,112,111,110,108,121]
abbrev kM:lU:=[115,97,109,101,115,105,116,101]
def a1 (key v:lU)(h:Hdr):Hdr:=if key=kE then(if Um (XV v)then{ h with hasE:=true,exp:=YJ (XV v) } else h)else h
def a2 (key v:lU)(h:Hdr):Hdr:=if key=kA then(match ZV v with|some n=> { h with hasA:=true,age:=n }|none=>h)else h
def a3 (key v:lU)(h:Hdr):Hdr:=if key=kD then{ h with domain:=eF (if v.head?=some 46 then v.drop 1 else v) } else h
def a4 (key v:lU)(h:Hdr):Hdr:=if key=kP then{ h with path:=if v.head?=some 47 then v else[] } else h
def a5 (key:lU)(h:Hdr):Hdr:=if key=kS then{ h with sec:=true } else h
def a6 (key:lU)(h:Hdr):Hdr:=if key=kH then{ h with http:=true } else h
def a7 (key v:lU)(h:Hdr):Hdr:=if key=kM then{ h with same:=Zr v } else h
theorem gJ (a:Option Addr)(b c:Nat){w K}(h:∃d,(do eqGuard .eql aE (.tmp 3) (.const (.slice none 0 0)) (.slice a b c) (.slice none 0 0);binOp .eql aE (.slice a b c) (.slice none 0 0):Sem Value).run prog w=.ok (.bool d) w/\ab d (K (.slice none 0 0) w) (nA w (.cells #[] ah) λe f=>∃g i j k,(Builtin.append_ #[aE,aE] aE #[.slice (vA e 0) 0 0,.slice a b c]).run prog f=.ok (.slice i j k) g/\K (.slice i j k) g)):Cf cI #[.slice a b c] w (Ret K):=ru func38 [] h
theorem gY (a:Option Addr)(b c:Nat){w K}(h:∃d,(do eqGuard .eql aN (.tmp 3) (.const (.slice none 0 0)) (.slice a b c) (.slice none 0 0);binOp .eql aN (.slice a b c) (.slice none 0 0):Sem Value).run prog w=.ok (.bool d) w/\ab d (K (.slice none 0 0) w) (nA w (.cells #[] ak) λe f=>∃g i j k,(Builtin.append_ #[aN,aN] aN #[.slice (vA e 0) 0 0,.slice a b c]).run prog f=.ok (.slice i j k) g/\K (.slice i j k) g)):Cf cV #[.slice a b c] w (Ret K):=ru func39 [] h
theorem Whl.part {H:Type}{T:Ty H}(G:Whl P t n){a:Option Addr}{l c:Nat}{xs:List H}(h:Sl T w A a l c xs)(R:T.k=k)(E:i<xs.length){o:Nat}{us:List Value}(aa:us.length=n)(ac:o+n <=k)(V:∀vs,T.rep w A vs xs[i]->∀j,j<n->vs[o+j]? =us[j]?):
 Option.isSome (aw a (i:Int) k)=true/\(Instr.loadAt t (.pointer (Option.map (λx=>x.add o) (aw a (i:Int) k)))).run P w=.ok (.agg us.toArray) w:=by
 subst R;obtain⟨bytes,z,Y⟩:=G.tf;obtain⟨af,U,ad,_,_⟩:=Y.info;have y:=G.ag;cases F:P.underlying t with
 |none=>rw[F]at y;cases y
 |some d=>
  rw[F]at y;simp only[map_some,Option.some.injEq]at y;rcases h.2.2.2 with D|⟨I,off,J,_,_,D⟩
  ·rw[D]at E;cases E
  obtain⟨vs,M,O⟩:=D.elem E;rw[J,uv];refine⟨rfl,?_⟩;show(Instr.loadAt t (.pointer (some ((⟨I,off+(i:Int).toNat*T.k,none⟩:Addr).add o)))).run P w=_;rw[gQ];show(do loadVar t (<- Instr.sureAddr (.pointer (some _)))).run P w=_;rw[Sem.run_bind,io];refine uK F y U (by omega) λj Z=>?_;rw[Int.toNat_natCast,show off+i*T.k+o+j=off+i*T.k+(o+j) by omega,O (o+j) (by omega)];exact V vs M j (by omega)
theorem H4 {a:Option Addr}{n c:Nat}{xs:List Tpl}(D:Sl kl w A a n c xs)(Y:xs.length <=1000000):
 Cf cI #[.slice a n c] w (Ret λv w'=>∃y n' c',v=.slice y n' c'/\Ow kl ah w' NoB y n' c' xs/\bo w.heap.size y/\bW w w'):=by
 apply gJ;have Z:=D.len;cases a with
 |none=>
  obtain rfl:xs=[]:=by
   rcases D.2.2.2 with h|⟨b,o,h,_⟩
   ·exact h
   ·cases h
  exact⟨true,by kernel_rfl,ab.yes rfl ⟨_,_,_,rfl,Ow.nil _ _ _ _,bo.none _,Below.refl _ _⟩⟩
 |some p=>
  refine⟨false,by kernel_rfl,ab.no rfl λG H R F=>?_⟩;have E:=(F▸ar w _:bW w H)
  have o5:Ow kl ah H NoB (some ⟨G,0,none⟩) 0 0 []:=Ow.newF (l:=[]) (xs:=([]:List Tpl)) zW R F ⟨rfl,λi O=>absurd O (Nat.not_lt_zero _)⟩ (Nat.zero_le _);obtain⟨V,y,n',c',U,o2,J,I⟩:=SA (ty:=aE) zW bJ jy (by decide) o5 (λg M=>by cases M;show w.heap.size <=G;omega) E (D.below E) (by simp only[length_nil];omega);exact⟨V,y,n',c',U,y,n',c',rfl,o2,J,I⟩
theorem H3 {a:Option Addr}{n c:Nat}{xs:List Pat}(D:Sl lS w A a n c xs)(Y:xs.length <=1000000):
 Cf cV #[.slice a n c] w (Ret λv w'=>∃y n' c',v=.slice y n' c'/\Ow lS ak w' NoB y n' c' xs/\bo w.heap.size y/\bW w w'):=by
 apply gY;have Z:=D.len;cases a with
 |none=>
  obtain rfl:xs=[]:=by
   rcases D.2.2.2 with h|⟨b,o,h,_⟩
   ·exact h
   ·cases h
  exact⟨true,by kernel_rfl,ab.yes rfl ⟨_,_,_,rfl,Ow.nil _ _ _ _,bo.none _,Below.refl _ _⟩⟩
 |some p=>
  refine⟨false,by kernel_rfl,ab.no rfl λG H R F=>?_⟩;have E:=(F▸ar w _:bW w H)
  have o5:Ow lS ak H NoB (some ⟨G,0,none⟩) 0 0 []:=Ow.newF (l:=[]) (xs:=([]:List Pat)) vC R F ⟨rfl,λi O=>absurd O (Nat.not_lt_zero _)⟩ (Nat.zero_le _);obtain⟨V,y,n',c',U,o2,J,I⟩:=SA (ty:=aN) vC dy ko (by decide) o5 (λg M=>by cases M;show w.heap.size <=G;omega) E (D.below E) (by simp only[length_nil];omega);exact⟨V,y,n',c',U,y,n',c',rfl,o2,J,I⟩
theorem xU {p:Pln}(h:Fq w k p)(E:p.ts.length <=1000000):Cf cK #[.pointer (some ⟨k,0,none⟩)] w (Ret λv w'=>∃y n' c',v=.slice y n' c'/\Ow kl ah w' NoB y n' c' p.ts/\bo w.heap.size y/\bW w w'):=by
 obtain⟨a,n,c,b,m,e,d,q,f,J,M,h1,F,D,G,H,I⟩:=h;apply pK;refine⟨rfl,rfl,b,m,e,by rw[fc];exact h1.load1 bJ rfl rfl,aK (H4 D E) ?_⟩;rintro _ w' ⟨y,n',c',rfl,r⟩;exact⟨_,_,_,rfl,_,_,_,rfl,r⟩
theorem zq {p:Pln}(h:Fq w k p)(E:p.ps.length <=1000000):Cf eC #[.pointer (some ⟨k,0,none⟩)] w (Ret λv w'=>∃y n' c',v=.slice y n' c'/\Ow lS ak w' NoB y n' c' p.ps/\bo w.heap.size y/\bW w w'):=by
 obtain⟨a,n,c,b,m,e,d,q,f,J,M,h1,D,F,G,H,I⟩:=h;apply qq;refine⟨rfl,rfl,a,n,c,by rw[vW];exact h1.load1 dy rfl rfl,aK (H3 D E) ?_⟩;rintro _ w' ⟨y,n',c',rfl,r⟩;exact⟨_,_,_,rfl,_,_,_,rfl,r⟩
theorem zp {p:Pln}(h:Fq w k p):Cf bD #[.pointer (some ⟨k,0,none⟩)] w (Ret λv w'=>∃q,v=.pointer q/\qD w q (va p.labs)/\w'=w):=by
 obtain⟨a,n,c,b,m,e,d,q,f,I,y,h1,E,F,G,H,D⟩:=h;apply qp;exact⟨rfl,rfl,y,by rw[fc];exact h1.load1 la rfl rfl,y,rfl,D,rfl⟩
theorem BV (a b c:lU){w K}(h:nA w (.cells #[vS a,vS b,vS c] ci) λd e=>true/\∃f,Ld ai (vA d 0) e (vS f)/\ab (decide (((length f:Nat):Int)>(2000:Int))) (K (.bool true) e) (true/\∃g,Ld ai (vA d 1) e (vS g)/\ab (decide (((length g:Nat):Int)>(2000:Int))) (K (.bool true) e) (true/\∃i,Ld ai (vA d 2) e (vS i)/\K (.bool (decide (((length i:Nat):Int)>(2000:Int)))) e))):Cf o0 #[.agg #[vS a,vS b,vS c]] w (Ret K):=ru func14 [] h
theorem uX (a b c:lU){w K}(h:nA w (.cells #[vS a,vS b,vS c] ci) λd e=>uB ir #[] e λf g=>ab (!f) (K (.bool false) g) (∃i j k,Ld ci (vA d 0) g (.agg #[vS i,vS j,vS k])/\uB o0 #[.agg #[vS i,vS j,vS k]] g λl m=>ab l (K (.bool true) m) (true/\∃n,Ld ai (vA d 0) m (vS n)/\true/\∃o,Ld ai (vA d 1) m (vS o)/\true/\∃p,Ld ai (vA d 2) m (vS p)/\Cf ux #[vS n,vS o,vS p] m λq r=>∃s t u v x,q=rT #[.pointer s,.agg #[vI t,vI u,vI v,vI x]]/\nA r (.cells #[vI 0,vI 0,vI 0,vI 0] aF) λy z=>∃A,Sv aF (vA y 0) (.agg #[vI t,vI u,vI v,vI x]) z A/\true/\∃B,Ld ai (vA d 0) A (vS B)/\true/\∃C,Ld ai (vA d 1) A (vS C)/\true/\∃D,Ld ai (vA d 2) A (vS D)/\Cf rj #[vS B,vS C,vS D] A λE F=>∃G H I J L M N O P Q R S T U V X Y Z aa,E=rT #[.agg #[.slice G H I,.slice J L M,.slice N O P,.slice Q R S,.slice T U V],.agg #[vI X,vI Y,vI Z,vI aa]]/\nA F (.cells #[.slice none 0 0,.slice none 0 0,.slice none 0 0,.slice none 0 0,.slice none 0 0] aq) λac ad=>nA ad (.cells #[vI 0,vI 0,vI 0,vI 0] aF) λaf ag=>∃aj,Sv aq (vA ac 0) (.agg #[.slice G H I,.slice J L M,.slice N O P,.slice Q R S,.slice T U V]) ag aj/\∃al,Sv aF (vA af 0) (.agg #[vI X,vI Y,vI Z,vI aa]) aj al/\∃an:FP [],(∃ao av bb bd,Ld aF (vA y 0) al (.agg #[vI ao,vI av,vI bb,vI bd])/\∃be bk bl bp,Ld aF (vA af 0) al (.agg #[vI be,vI bk,vI bl,vI bp])/\∃bq,(do eqGuard .neq aF (.tmp 31) (.tmp 32) (.agg #[vI ao,vI av,vI bb,vI bd]) (.agg #[vI be,vI bk,vI bl,vI bp]);binOp .neq aF (.agg #[vI ao,vI av,vI bb,vI bd]) (.agg #[vI be,vI bk,vI bl,vI bp]):Sem Value).run prog al=.ok (.bool bq) al/\ab bq (K (.bool false) al) (∃bs bt bw bx,Ld aF (vA af 0) al (.agg #[vI bs,vI bt,vI bw,vI bx])/\∃cb,(do eqGuard .neq aF (.tmp 37) (.tmp 38) (.agg #[vI bs,vI bt,vI bw,vI bx]) (.agg #[vI 0,vI 0,vI 0,vI 0]);binOp .neq aF (.agg #[vI bs,vI bt,vI bw,vI bx]) (.agg #[vI 0,vI 0,vI 0,vI 0]):Sem Value).run prog al=.ok (.bool cb) al/\ab (!((Option.isNone s)==cb)) (K (.bool false) al) (an al)))/\aP 12 (∀ao,an ao->ab (Option.isNone s) (K (.bool true) ao) (true/\(uL eC #[.pointer s] (drew ao) λav bb bd be=>∃bk bl bp,Ld aN (vA ac 0) be (.slice bk bl bp)/\uB kr #[.slice av bb bd,.slice bk bl bp] be λbq bs=>ab bq (true/\(uL cK #[.pointer s] bs λbt bw bx cb=>∃cc cf ch,Ld aE (vA ac 2) cb (.slice cc cf ch)/\uB ig #[.slice bt bw bx,.slice cc cf ch,.slice none 0 0,.slice none 0 0] cb λcl cm=>ab cl (true/\(uP bD #[.pointer s] cm λcn cp=>(uI aV #[.pointer cn] cp λcs cv=>∃dc dd df,Ld aA (vA ac 4) cv (.slice dc dd df)/\uL bZ #[.slice dc dd df] cv λdg dk dl dn=>K (.bool (cs==(i64.wrap ((dk:Int)+1)))) dn)/\∃cs cv dc,Ld aA (vA ac 4) cp (.slice cs cv dc)/\uI aV #[.pointer cn] cp λdd df=>uL bZ #[.slice cs cv dc] df λdg dk dl dn=>K (.bool (dd==(i64.wrap ((dk:Int)+1)))) dn)/\∃cn cp cs,Ld aA (vA ac 4) cm (.slice cn cp cs)/\uP bD #[.pointer s] cm λcv dc=>uI aV #[.pointer cv] dc λdd df=>uL bZ #[.slice cn cp cs] df λdg dk dl dn=>K (.bool (dd==(i64.wrap ((dk:Int)+1)))) dn) (((K (.bool false) cm)/\K (.bool false) cm)/\K (.bool false) cm))/\∃bt bw bx,Ld aE (vA ac 2) bs (.slice bt bw bx)/\uL cK #[.pointer s] bs λcb cc cf ch=>uB ig #[.slice cb cc cf,.slice bt bw bx,.slice none 0 0,.slice none 0 0] ch λcl cm=>ab cl (true/\(uP bD #[.pointer s] cm λcn cp=>(uI aV #[.pointer cn] cp λcs cv=>∃dc dd df,Ld aA (vA ac 4) cv (.slice dc dd df)/\uL bZ #[.slice dc dd df] cv λdg dk dl dn=>K (.bool (cs==(i64.wrap ((dk:Int)+1)))) dn)/\∃cs cv dc,Ld aA (vA ac 4) cp (.slice cs cv dc)/\uI aV #[.pointer cn] cp λdd df=>uL bZ #[.slice cs cv dc] df λdg dk dl dn=>K (.bool (dd==(i64.wrap ((dk:Int)+1)))) dn)/\∃cn cp cs,Ld aA (vA ac 4) cm (.slice cn cp cs)/\uP bD #[.pointer s] cm λcv dc=>uI aV #[.pointer cv] dc λdd df=>uL bZ #[.slice cn cp cs] df λdg dk dl dn=>K (.bool (dd==(i64.wrap ((dk:Int)+1)))) dn) (((K (.bool false) cm)/\K (.bool false) cm)/\K (.bool false) cm)) ((((K (.bool false) bs)/\K (.bool false) bs)/\K (.bool false) bs)/\((K (.bool false) bs)/\K (.bool false) bs)/\K (.bool false) bs))/\∃av bb bd,Ld aN (vA ac 0) (drew ao) (.slice av bb bd)/\uL eC #[.pointer s] (drew ao) λbe bk bl bp=>uB kr #[.slice be bk bl,.slice av bb bd] bp λbq bs=>ab bq (true/\(uL cK #[.pointer s] bs λbt bw bx cb=>∃cc cf ch,Ld aE (vA ac 2) cb (.slice cc cf ch)/\uB ig #[.slice bt bw bx,.slice cc cf ch,.slice none 0 0,.slice none 0 0] cb λcl cm=>ab cl (true/\(uP bD #[.pointer s] cm λcn cp=>(uI aV #[.pointer cn] cp λcs cv=>∃dc dd df,Ld aA (vA ac 4) cv (.slice dc dd df)/\uL bZ #[.slice dc dd df] cv λdg dk dl dn=>K (.bool (cs==(i64.wrap ((dk:Int)+1)))) dn)/\∃cs cv dc,Ld aA (vA ac 4) cp (.slice cs cv dc)/\uI aV #[.pointer cn] cp λdd df=>uL bZ #[.slice cs cv dc] df λdg dk dl dn=>K (.bool (dd==(i64.wrap ((dk:Int)+1)))) dn)/\∃cn cp cs,Ld aA (vA ac 4) cm (.slice cn cp cs)/\uP bD #[.pointer s] cm λcv dc=>uI aV #[.pointer cv] dc λdd df=>uL bZ #[.slice cn cp cs] df λdg dk dl dn=>K (.bool (dd==(i64.wrap ((dk:Int)+1)))) dn) (((K (.bool false) cm)/\K (.bool false) cm)/\K (.bool false) cm))/\∃bt bw bx,Ld aE (vA ac 2) bs (.slice bt bw bx)/\uL cK #[.pointer s] bs λcb cc cf ch=>uB ig #[.slice cb cc cf,.slice bt bw bx,.slice none 0 0,.slice none 0 0] ch λcl cm=>ab cl (true/\(uP bD #[.pointer s] cm λcn cp=>(uI aV #[.pointer cn] cp λcs cv=>∃dc dd df,Ld aA (vA ac 4) cv (.slice dc dd df)/\uL bZ #[.slice dc dd df] cv λdg dk dl dn=>K (.bool (cs==(i64.wrap ((dk:Int)+1)))) dn)/\∃cs cv dc,Ld aA (vA ac 4) cp (.slice cs cv dc)/\uI aV #[.pointer cn] cp λdd df=>uL bZ #[.slice cs cv dc] df λdg dk dl dn=>K (.bool (dd==(i64.wrap ((dk:Int)+1)))) dn)/\∃cn cp cs,Ld aA (vA ac 4) cm (.slice cn cp cs)/\uP bD #[.pointer s] cm λcv dc=>uI aV #[.pointer cv] dc λdd df=>uL bZ #[.slice cn cp cs] df λdg dk dl dn=>K (.bool (dd==(i64.wrap ((dk:Int)+1)))) dn) (((K (.bool false) cm)/\K (.bool false) cm)/\K (.bool false) cm)) ((((K (.bool false) bs)/\K (.bool false) bs)/\K (.bool false) bs)/\((K (.bool false) bs)/\K (.bool false) bs)/\K (.bool false) bs)))))):Cf jU #[.agg #[vS a,vS b,vS c]] w (Ret K):=ru func4 [(22,[]),(1000039,[])] h
def SL (a b:Tpl):Bool:=(a.name==b.name)&&(((a.url.sec==b.url.sec)&&(vH a.url.host b.url.host&&((a.url.port==b.url.port)&&((a.url.path==b.url.path)&&true))))&&((a.text==b.text)&&((a.line==b.line)&&true)))
theorem Jo {a b:Tpl}(o:a.ok)(p:b.ok):SL a b=true↔a=b:=by
 unfold SL;simp only[Bool.and_eq_true,beq_iff_eq,and_true,rB (h:=a.url.host) (g:=b.url.host) o p];obtain⟨a1,⟨a2,a3,a4,a5⟩,a6,a7⟩:=a;obtain⟨y,⟨D,E,F,G⟩,H,I⟩:=b;simp
theorem Uz {c d:Tpl}(o:c.ok)(p:d.ok):eqV prog 10000 ah c.v d.v=some (SL c d):=by
 obtain⟨a1,⟨a2,⟨J,M,e3⟩,a4,a5⟩,a6,a7⟩:=c;obtain⟨D,⟨E,⟨O,R,y⟩,F,G⟩,H,I⟩:=d;obtain⟨U,V,ag,aj,an,av,a0,a8,a9,bb,Y,Z,aa,ac,ad,af,rfl⟩:=pV e3 o;obtain⟨be,bk,bw,b0,b1,b2,b3,b4,b5,b6,bl,bp,bq,bs,bt,bu,rfl⟩:=pV y p;kernel_rfl
theorem zZc:prog.eqGuardType prog.depth ah=false:=by kernel_rfl
theorem XW {c d:Tpl}(o:c.ok)(p:d.ok){x y:Operand}(w:World):((do eqGuard .neq ah x y c.v d.v;binOp .neq ah c.v d.v:Sem Value)).run prog w=.ok (.bool (!SL c d)) w:=
 Ql zZc (Uz o p) w
theorem GN {V c0:Nat}{xs:List Tpl}{Y c1:Nat}{ys:List Tpl}(M:Sl kl w A p V c0 xs)(O:Sl kl w B q Y c1 ys)(an:xs.length <=1000000):
 Cf ig #[.slice p V c0,.slice q Y c1,.slice none 0 0,.slice none 0 0] w (Ret λv w'=>∃b:Bool,v=.bool b/\(b=true↔xs=ys)/\bW w w'):=by
 have af:=M.1;have ad:=O.1;subst af ad;apply D7;refine jE (w:=w) (xs.length=ys.length) (ab.of (λh=>?_) (λh=>ab.no rfl ⟨rfl,?_⟩)) λac=>?_
 ·refine⟨_,rfl,⟨λe=>(by cases e),?_⟩,Below.refl _ _⟩;rintro rfl;simp at h
 ·have:((xs.length:Nat):Int)=((ys.length:Nat):Int):=by simpa using h
  omega
 refine⟨λm i w'=>∃k:Nat,k <=xs.length/\i=(k:Int)/\m=xs.length-k/\xs.take k=ys.take k/\bW w w',⟨_,0,by omega,rfl,rfl,rfl,Below.refl _ _⟩,λm i=>aP.of ?_ _⟩;rintro G ⟨k,aj,rfl,rfl,heq,y⟩;refine ab.of (λF=>?_) (λF=>?_)<;>simp only[dTx,dFx]at F
 ·have I:k<xs.length:=by omega
  have J:k<ys.length:=by omega
  have Z:=λu (D:bW G u)=>pF (M.below (ae y D y.size)) I;have aa:=λu (D:bW G u)=>pF (O.below (ae y D y.size)) J;have H:=(Z G (Below.refl _ _)).2;have R:=(aa G (Below.refl _ _)).2;refine⟨⟨⟨by omega,F⟩,M.isSome I⟩,xs[k].v,λu D=>(Z u D).1,⟨⟨by omega,by omega⟩,O.isSome (i:=k) J⟩,ys[k].v,λu D=>(aa u D).1,_,λu _=>XW H R u,λa0 ag=>?_⟩;have U:=ae y ag y.size;refine ab.of (λE=>?_) (λE=>?_)
  ·refine⟨_,rfl,⟨λe=>(by cases e),?_⟩,U⟩;rintro rfl;rw[(Jo H H).2 rfl]at E;cases E
  ·have E:xs[k]=ys[k]:=(Jo H R).1 (by simpa using E);refine⟨xs.length-(k+1),by omega,k+1,by omega,by rw[wrJ];omega,rfl,?_,U⟩;rw[take_succ_eq_append_getElem I,take_succ_eq_append_getElem J,heq,E]
 ·obtain rfl:k=xs.length:=by omega
  rw[take_length,ac,take_length]at heq;exact⟨λm i w'=>w'=G/\i=0,⟨0,rfl,rfl⟩,λm i=>aP.of (λav ⟨h1,F⟩=>by subst h1 F;exact ab.no rfl ⟨_,rfl,⟨λ_=>heq,λ_=>rfl⟩,y⟩) _⟩
theorem Dp (a b c:lU)(w:World):Cf o0 #[.agg #[vS a,vS b,vS c]] w (Ret λv w'=>∃g:Bool,v=.bool g/\bW w w'):=by
 apply BV;intro H F G E;have D:=(E▸ar w _:bW w F)
 have y:aB F H ci [vS a,vS b,vS c]:=aB.new G E;exact⟨rfl,_,y.load1 aI rfl (i:=0) rfl,ab.of (λ_=>⟨_,rfl,D⟩) (λ_=>⟨rfl,_,y.load1 aI rfl (i:=1) rfl,ab.of (λ_=>⟨_,rfl,D⟩) (λ_=>⟨rfl,_,y.load1 aI rfl (i:=2) rfl,_,rfl,D⟩)⟩)⟩
theorem SX:Whl prog ci 3:=⟨⟨_,_,qv⟩,by kernel_rfl⟩
def Nl (n:Int)(f:Flt)(m:Int)(g:Flt):Bool:=(n==m)&&(((f.1==g.1)&&((f.2.1==g.2.1)&&((f.2.2==g.2.2)&&true)))&&true)
theorem UA (n:Int)(f:Flt)(m:Int)(g:Flt):eqV prog 10000 aF (Mb n f) (Mb m g)=some (Nl n f m g):=by
 obtain⟨y,D,E⟩:=f;obtain⟨F,G,H⟩:=g;kernel_rfl
theorem OU:prog.eqGuardType prog.depth aF=false:=by kernel_rfl
theorem TO (n:Int)(f:Flt)(m:Int)(g:Flt){x y:Operand}(w:World):((do eqGuard .neq aF x y (Mb n f) (Mb m g);binOp .neq aF (Mb n f) (Mb m g):Sem Value)).run prog w=.ok (.bool (!Nl n f m g)) w:=
 Ql OU (UA n f m g) w
theorem Nm (n:Int)(f:Flt):Nl n f n f=true:=by unfold Nl;simp
theorem Ss {a b c:lU}{n:Int}{f:Flt}(h:rH a b c=.inr (n,f)):n≠0:=by
 unfold rH at h;split at h
 ·cases h;decide
 split at h
 ·cases h;decide
 split at h
 ·cases h;decide
 split at h
 ·cases h;decide
 split at h
 ·cases h;decide
 ·cases h
set_option maxHeartbeats 2000000 in
theorem De (a b c:lU)(w:World)(em:Env w)(ek:∀u,bW w u->Cf ir #[] u (Ret λv w'=>v=.bool true/\bW u w')):
 Cf jU #[.agg #[vS a,vS b,vS c]] w (Ret λv w'=>v=.bool true/\bW w w'):=by
 apply uX;intro c2 bl en cl;have aj:=(cl▸ar w _:bW w bl)
 have b9:aB bl c2 ci [vS a,vS b,vS c]:=aB.new en cl;have ad:∀{u:World} (i:Nat) (t:lU),bW bl u->[a,b,c][i]? =some t->(Instr.loadAt ai (.pointer (some ⟨c2,i,none⟩))).run prog u=.ok (vS t) u:=λi t es V=>(b9.below es).load1 aI rfl (i:=i) (by
  match i,V with
  |0,V=>cases V;rfl
  |1,V=>cases V;rfl
  |2,V=>cases V;rfl)
 refine aK (ek bl aj) ?_;rintro _ ex ⟨rfl,b2⟩;refine⟨_,rfl,ab.no rfl ⟨a,b,c,SX.load0 (b9.below b2) rfl,aK (Dp a b c ex) ?_⟩⟩;rintro _ ev ⟨g,rfl,d2⟩;have ac:=ae b2 d2 b2.size;have cb:=ae aj ac aj.size;refine⟨g,rfl,ab.of (λ_=>⟨rfl,cb⟩) (λ_=>⟨rfl,a,ad 0 a ac rfl,rfl,b,ad 1 b ac rfl,rfl,c,ad 2 c ac rfl,aK (I2 a b c ev (em.step cb)) ?_⟩)⟩;rintro v dj ⟨cf,a0⟩;obtain⟨q,n,f,rfl,J⟩:∃(q:Option Addr) (n:Int) (f:Flt),v=.tuple #[.pointer q,Mb n f]/\((∃p,rH a b c=.inl p/\n=0/\f=(0,0,0)/\∃k,q=some ⟨k,0,none⟩/\Fq dj k p)\/(rH a b c=.inr (n,f)/\q=none)):=by
  cases hp:rH a b c with
  |inl p=>rw[hp]at a0;obtain⟨k,rfl,h⟩:=a0;exact⟨_,_,_,rfl,.inl ⟨p,rfl,rfl,rfl,k,rfl,h⟩⟩
  |inr x=>obtain⟨n,f⟩:=x;rw[hp]at a0;exact⟨none,n,f,a0,.inr ⟨rfl,rfl⟩⟩
 clear a0;refine⟨q,n,f.1,f.2.1,f.2.2,rfl,eL.new (zs:=vh 0 (0,0,0)) (cs:=vh n f) rfl rfl (yw _ _) dj λe2 ew e1 bq b0=>?_⟩;have an:=ae ac (ae cf b0 cf.size) ac.size;refine⟨rfl,a,ad 0 a an rfl,rfl,b,ad 1 b an rfl,rfl,c,ad 2 c an rfl,aK (GR a b c ew) ?_⟩;rintro _ bp ⟨bu,G,Z,H,aa,I,m,D,rfl,U⟩;obtain⟨rfl,rfl⟩:m=n/\D=f:=by
  rcases J with⟨p,hp,rfl,rfl,_⟩|⟨hp,_⟩
  ·rw[hp]at U;exact⟨U.1,U.2.1⟩
  ·rw[hp]at U;exact U
 refine⟨G.1,G.2.1,G.2.2,Z.1,Z.2.1,Z.2.2,H.1,H.2.1,H.2.2,aa.1,aa.2.1,aa.2.2,I.1,I.2.1,I.2.2,m,D.1,D.2.1,D.2.2,rfl,λR b8 eo cn bk w6 ep cp=>?_⟩;have ch:=(cn▸ar bp _:bW bp b8)
 have d3:=(cp▸ar b8 _:bW b8 w6)
 have e4:=bu.size;have e6:=ch.size;have be:Sp bp [ptA bk aF (vh 0 (0,0,0)),ptA R aq (c5 n0 n0 n0 n0 n0)] w6:=(((Sp.nil bp).add ch (p:=ptA R aq (c5 n0 n0 n0 n0 n0)) (aB.new eo cn) λb E=>by rw[List.mem_singleton.1 E];omega).add d3 (p:=ptA bk aF (vh 0 (0,0,0))) (aB.new ep cp) λb E=>by rw[List.mem_singleton.1 E];omega)
 obtain⟨dk,et,dm,d9⟩:=ul.store0 (P:=prog) (cs:=c5 G Z H aa I) rfl (K6 _ _ _ _ _) (be.at 1 rfl:aB w6 R aq (c5 n0 n0 n0 n0 n0)) rfl;have cv:=be.upd 1 rfl (Chg.grown d9 mem_cons_self) (p':=ptA R aq (c5 G Z H aa I)) dm λb E=>.inl E;obtain⟨wy,eu,bs,ea⟩:=eL.store0 (P:=prog) (cs:=vh m D) rfl (yw _ _) (cv.at 0 rfl:aB dk bk aF (vh 0 (0,0,0))) rfl;have a8:=cv.upd 0 rfl (Chg.grown ea mem_cons_self) (p':=ptA bk aF (vh m D)) bs λb E=>.inl E;have dl:aB wy R aq (c5 G Z H aa I):=a8.at 1 rfl;have b3:=ae bu a8.bw bu.size;have bq:=bq.below b3;have cc:=ae aj (ae an b3 an.size) aj.size;refine⟨dk,et,wy,eu,jE (w:=wy) (True) ⟨m,D.1,D.2.1,D.2.2,eL.load0 bq rfl,m,D.1,D.2.1,D.2.2,eL.load0 bs rfl,_,TO m D m D wy,?_⟩ λ_=>?_⟩
 ·rw[Nm];refine ab.no rfl ⟨m,D.1,D.2.1,D.2.2,eL.load0 bs rfl,_,TO m D 0 (0,0,0) wy,ab.no ?_ ⟨rfl,trivial⟩⟩;rcases J with⟨p,hp,rfl,rfl,k,rfl,_⟩|⟨hp,rfl⟩
  ·rfl
  ·have eb:=Ss hp;have:Nl m D 0 (0,0,0)=false:=by unfold Nl;rw[beq_eq_false_iff_ne.2 eb];rfl
   rw[this];rfl
 rcases J with⟨p,hp,rfl,rfl,k,rfl,dr⟩|⟨hp,rfl⟩
 rotate_left
 ·exact ab.yes rfl ⟨rfl,cc⟩
 rw[hp]at U;obtain⟨_,_,⟨e7,e9,fa⟩,ds,_,du,_,dv⟩:=U;have fb:=Hb p.labs;have L:=Fg p.labs;let F:World->Prop:=λu=>bW w u/\Fq u k p/\aB u R aq (c5 G Z H aa I)/\Sl lS u qw G.1 G.2.1 G.2.2 p.ps/\Sl kl u qw H.1 H.2.1 H.2.2 p.ts/\Sl tS u qw I.1 I.2.1 I.2.2 p.labs;have af:∀{u u':World},F u->bW u u'->F u':=λ⟨h1,ed,ef,eg,ei,be⟩ E=>⟨ae h1 E h1.size,ed.below E,ef.below E,eg.below E,ei.below E,be.below E⟩
 have dn:F wy:=⟨cc,dr.below (ae b0 b3 b0.size),dl,ds.below a8.bw,du.below a8.bw,dv.below a8.bw⟩
 have c3:∀{u:World},F u->(Instr.loadAt aN (.pointer (some ⟨R,0,none⟩))).run prog u=.ok (.slice G.1 G.2.1 G.2.2) u:=λh=>h.2.2.1.load1 dy rfl (i:=0) rfl;have c4:∀{u:World},F u->(Instr.loadAt aE (.pointer (some ⟨R,2,none⟩))).run prog u=.ok (.slice H.1 H.2.1 H.2.2) u:=λh=>h.2.2.1.load1 bJ rfl (i:=2) rfl;have b7:∀{u:World},F u->(Instr.loadAt aA (.pointer (some ⟨R,4,none⟩))).run prog u=.ok (.slice I.1 I.2.1 I.2.2) u:=λh=>h.2.2.1.load1 bh rfl (i:=4) rfl;have tx:∀{u:World} {n:Int},F u->n=(((va p.labs).length:Nat):Int)+1->Cf bZ #[.slice I.1 I.2.1 I.2.2] u λd8 w62=>∃(d1:Option Addr) (c8 d5:Nat),d8=.returned (.slice d1 c8 d5)/\Value.bool (n==(i64.wrap ((c8:Int)+1)))=.bool true/\bW w w62:=fun{u n} h eq=>by
  refine(tB _ _ _ _ (by omega) u h.2.2.2.2.2).mono ?_;rintro _ w62 ⟨_,rfl,e0,n',c',rfl,bb,_,d4⟩;have er:=bb.len;refine⟨_,_,_,rfl,?_,ae h.1 d4 h.1.size⟩;rw[eq,er,L,wrJ,beq_self_eq_true]
 have len:∀{u:World} {y:Int->World->Prop} {q:Option Addr},F u->qD u q (va p.labs)->y ((((va p.labs).length:Nat):Int)+1) u->Cf aV #[.pointer q] u λd7 w59=>∃(c9:Int),d7=.returned (vI c9)/\y c9 w59:=fun{u y q} h J M=>by
  refine(wu q _ (by omega) u J).mono ?_;rintro _ w59 ⟨_,rfl,rfl,rfl⟩;exact⟨_,rfl,M⟩
 have cd:∀{u:World} {y:Option Addr->World->Prop},F u->(∀q,qD u q (va p.labs)->y q u)->Cf bD #[.pointer (some ⟨k,0,none⟩)] u λd6 w58=>∃(dc:Option Addr),d6=.returned (.pointer dc)/\y dc w58:=fun{u y} h M=>by
  refine(zp h.2.1).mono ?_;rintro _ w58 ⟨_,rfl,q,rfl,J,rfl⟩;exact⟨_,rfl,M q J⟩
 have dd:∀{u:World} {y:Option Addr->Nat->Nat->World->Prop},F u->(∀a l c u',F u'->Sl lS u' qw a l c p.ps->y a l c u')->Cf eC #[.pointer (some ⟨k,0,none⟩)] u λb4 w45=>∃(ag:Option Addr) (a9 av:Nat),b4=.returned (.slice ag a9 av)/\y ag a9 av w45:=fun{u y} h M=>by
  refine(zq h.2.1 (by omega)).mono ?_;rintro _ w45 ⟨_,rfl,a,n,c,rfl,bb,_,b1⟩;exact⟨_,_,_,rfl,M _ _ _ _ (af h b1) bb.all⟩
 have dg:∀{u:World} {y:Option Addr->Nat->Nat->World->Prop},F u->(∀a l c u',F u'->Sl kl u' qw a l c p.ts->y a l c u')->Cf cK #[.pointer (some ⟨k,0,none⟩)] u λb4 w45=>∃(ag:Option Addr) (a9 av:Nat),b4=.returned (.slice ag a9 av)/\y ag a9 av w45:=fun{u y} h M=>by
  refine(xU h.2.1 (by omega)).mono ?_;rintro _ w45 ⟨_,rfl,a,n,c,rfl,bb,_,b1⟩;exact⟨_,_,_,rfl,M _ _ _ _ (af h b1) bb.all⟩
 have de:∀{u:World} {a:Option Addr} {l c:Nat} {y Q:World->Prop},F u->Sl lS u qw a l c p.ps->(∀u',F u'->y u')->Cf kr #[.slice a l c,.slice G.1 G.2.1 G.2.2] u λb5 Y=>∃(O:Bool),b5=.returned (.bool O)/\ab O (y Y) (Q Y):=fun{u a l c y Q} h b6 M=>by
  refine(GK b6 h.2.2.2.1 (by omega)).mono ?_;rintro _ Y ⟨_,rfl,b,rfl,E,O⟩;obtain rfl:=E.2 rfl;exact⟨_,rfl,ab.yes rfl (M _ (af h O))⟩
 have df:∀{u:World} {a:Option Addr} {l c:Nat} {y Q:World->Prop},F u->Sl kl u qw a l c p.ts->(∀u',F u'->y u')->Cf ig #[.slice a l c,.slice H.1 H.2.1 H.2.2,.slice none 0 0,.slice none 0 0] u λb5 Y=>∃(O:Bool),b5=.returned (.bool O)/\ab O (y Y) (Q Y):=fun{u a l c y Q} h b6 M=>by
  refine(GN b6 h.2.2.2.2.1 (by omega)).mono ?_;rintro _ Y ⟨_,rfl,b,rfl,E,O⟩;obtain rfl:=E.2 rfl;exact⟨_,rfl,ab.yes rfl (M _ (af h O))⟩
 have bt:=af dn (dJ wy);refine ab.no rfl ⟨rfl,dd bt λa l c u' g s=>⟨_,_,_,c3 g,de g s λu g=>⟨rfl,?_⟩⟩,_,_,_,c3 bt,dd bt λa l c u' g s=>de g s λu g=>⟨rfl,?_⟩⟩
 all_goals refine⟨dg g λa l c u' g s=>⟨_,_,_,c4 g,df g s λu g=>⟨rfl,?_⟩⟩,_,_,_,c4 g,dg g λa l c u' g s=>df g s λu g=>⟨rfl,?_⟩⟩
 all_goals exact⟨cd g λq J=>⟨len g J ⟨_,_,_,b7 g,tx g rfl⟩,_,_,_,b7 g,len g J (tx g rfl)⟩,_,_,_,b7 g,cd g λq J=>len g J (tx g rfl)⟩
end Go.Pk
namespace Go.Pe
open RowKit
noncomputable section
inductive Tr (α:Type) where
 |nil
 |node (l:Tr α) (v:Option α) (r:Tr α)
theorem nb {a b:Nat}(h:a≠b):Nat.beq a b=false:=by
 cases e:Nat.beq a b with
 |false=>rfl
 |true=>exact absurd (Nat.eq_of_beq_eq_true e) h
theorem nbt {a b:Nat}(h:a=b):Nat.beq a b=true:=by subst h;exact Nat.beq_refl a
def sel {β:Type}(a b:β)(j:Nat):β:=Nat.rec (motive:=λ_=>β) a (λ_ _=>b) (Nat.mod j 2)
theorem Cz (a b:o)(j:Nat):sel a b j=if j%2=0 then a else b:=by
 show(Nat.rec (motive:=λ_=>o) a (λ_ _=>b) (j%2):o)=_;rcases Nat.mod_two_eq_zero_or_one j with h|h <;> rw[h] <;> rfl
def Tr.gN {α:Type}(_:Tr α)(v:Option α)(_:Tr α)(gl gr:Nat->Option α)(k:Nat):Option α:=
 Nat.rec (motive:=λ_=>Option α) v (λj _=>Nat.rec (motive:=λ_=>Nat->Option α) gl (λ_ _=>gr) (Nat.mod j 2) (Nat.div j 2)) k
def Tr.get {α:Type}(t:Tr α):Nat->Option α:=Tr.rec (motive:=λ_=>Nat->Option α) (λ_=>none) Tr.gN t
def U1 {α:Type}(x:Option α):Nat->Nat->Tr α:=
 Nat.rec (λ_=>.nil) λ_ ih k=>Nat.rec (motive:=λ_=>Tr α) (.node .nil x .nil) (λj _=>sel (.node (ih (Nat.div j 2)) none .nil) (.node .nil none (ih (Nat.div j 2))) j) k
def Tr.pN {α:Type}(x:Option α)(l:Tr α)(v:Option α)(r:Tr α)(pl pr:Nat->Tr α)(k:Nat):Tr α:=
 Nat.rec (motive:=λ_=>Tr α) (.node l x r) (λj _=>sel (.node (pl (Nat.div j 2)) v r) (.node l v (pr (Nat.div j 2))) j) k
def Tr.put {α:Type}(x:Option α)(n:Nat)(t:Tr α):Nat->Tr α:=Tr.rec (motive:=λ_=>Nat->Tr α) (U1 x n) (Tr.pN x) t
theorem Tr.get_succ (l:Tr o)(v:Option o)(r:Tr o)(j:Nat):(Tr.node l v r).get (j+1)=if j%2=0 then l.get (j/2)else r.get (j/2):=by
 show sel l.get r.get j (j/2)=_;rw[Cz];split <;> rfl
theorem LL (x:Option o):∀(n k:Nat),k+2 <=2 ^ n->∀j,(U1 x n k).get j=if j=k then x else none
 |0,_,h=>by simp at h
 |n+1,0,_=>λj=>by
  cases j with
  |zero=>rfl
  |succ j=>
   rw[if_neg (by omega)];show(Tr.node .nil x .nil).get (j+1)=none;rw[Tr.get_succ];split <;> rfl
 |n+1,k+1,h=>λj=>by
  have hp:2 ^ (n+1)=2*2 ^ n:=by rw[Nat.pow_succ];omega
  have y:=LL x n (k/2) (by omega);show(sel (.node (U1 x n (k/2)) none .nil) (.node .nil none (U1 x n (k/2))) k:Tr o).get j=_;rw[Cz];cases j with
  |zero=>split <;> rfl
  |succ j=>
   split
   ·rw[Tr.get_succ];split
    ·rw[y];have:(j/2=k/2)=(j+1=k+1):=propext ⟨λe=>by omega,λe=>by omega⟩;simp only[this]
    ·rw[if_neg (by omega)];rfl
   ·rw[Tr.get_succ];split
    ·rw[if_neg (by omega)];rfl
    ·rw[y];have:(j/2=k/2)=(j+1=k+1):=propext ⟨λe=>by omega,λe=>by omega⟩;simp only[this]
theorem Tr.get_put (x:Option o)(n:Nat)(t:Tr o):∀(k:Nat),k+2 <=2 ^ n->∀j,(Tr.put x n t k).get j=if j=k then x else t.get j:=by
 induction t with
 |nil=>exact LL x n
 |node l v r y D=>
  intro k h j;cases k with
  |zero=>
   show(Tr.node l x r).get j=_;cases j with
   |zero=>rfl
   |succ j=>rw[if_neg (by omega),Tr.get_succ,Tr.get_succ]
  |succ k=>
   show(sel (.node (Tr.put x n l (k/2)) v r) (.node l v (Tr.put x n r (k/2))) k:Tr o).get j=_;rw[Cz];cases j with
   |zero=>split <;> (rw[if_neg (by omega)];rfl)
   |succ j=>
    split
    ·rw[Tr.get_succ,Tr.get_succ];split
     ·rw[y _ (by omega)];have:(j/2=k/2)=(j+1=k+1):=propext ⟨λe=>by omega,λe=>by omega⟩;simp only[this]
     ·rw[if_neg (by omega)]
    ·rw[Tr.get_succ,Tr.get_succ];split
     ·rw[if_neg (by omega)]
     ·rw[D _ (by omega)];have:(j/2=k/2)=(j+1=k+1):=propext ⟨λe=>by omega,λe=>by omega⟩;simp only[this]
def Sf {α β:Type}(x:Option α):Nat->Nat->(Tr α->β)->β:=
 Nat.rec (λ_ K=>K .nil) λ_ ih k K=>Nat.rec (motive:=λ_=>β) (K (.node .nil x .nil)) (λj _=>Nat.rec (motive:=λ_=>β) (ih (Nat.div j 2) λl=>K (.node l none .nil)) (λ_ _=>ih (Nat.div j 2) λr=>K (.node .nil none r)) (Nat.mod j 2)) k
def kN {α β:Type}(x:Option α)(l:Tr α)(v:Option α)(r:Tr α)(pl pr:Nat->(Tr α->β)->β)(k:Nat)(K:Tr α->β):β:=
 Nat.rec (motive:=λ_=>β) (K (.node l x r)) (λj _=>Nat.rec (motive:=λ_=>β) (pl (Nat.div j 2) λl=>K (.node l v r)) (λ_ _=>pr (Nat.div j 2) λr=>K (.node l v r)) (Nat.mod j 2)) k
def uR {α β:Type}(x:Option α)(n:Nat)(t:Tr α):Nat->(Tr α->β)->β:=Tr.rec (motive:=λ_=>Nat->(Tr α->β)->β) (Sf x n) (kN x) t
theorem Gq {α β:Type}(x:Option α):∀(n k:Nat) (K:Tr α->β),Sf x n k K=K (U1 x n k)
 |0,_,_=>rfl
 |n+1,0,_=>rfl
 |n+1,k+1,K=>by
  show sel (Sf x n (k/2) λl=>K (.node l none .nil)) (Sf x n (k/2) λr=>K (.node .nil none r)) k=K (sel (.node (U1 x n (k/2)) none .nil) (.node .nil none (U1 x n (k/2))) k);rw[Cz,Cz,Gq,Gq];split <;> rfl
theorem nz {y F:Type}(x:Option y)(n:Nat)(t:Tr y):∀(k:Nat) (K:Tr y->F),uR x n t k K=K (Tr.put x n t k):=by
 induction t with
 |nil=>exact Gq x n
 |node l v r D E=>
  intro k K;cases k with
  |zero=>rfl
  |succ k=>
   show sel (uR x n l (k/2) λl=>K (.node l v r)) (uR x n r (k/2) λr=>K (.node l v r)) k=K (sel (.node (Tr.put x n l (k/2)) v r) (.node l v (Tr.put x n r (k/2))) k);rw[Cz,Cz,D,E];split <;> rfl
structure Pl where
 blk:Nat
 base:Nat
 room:Option Nat
abbrev Mp:=Nat->Option Pl
def Mp.le (m m':Mp):Prop:=∀k p,m k=some p->m' k=some p
theorem Mp.le_refl (m:Mp):m.le m:=λ_ _ h=>h
theorem Mp.le.trans {a b c:Mp}(h:a.le b)(y:b.le c):a.le c:=λ_ _ e=>y _ _ (h _ _ e)
def flat:Value->Bool
 |.bool _|.int ..|.float ..|.complex ..|.string _|.pointer none|.slice none _ _|.map none|.chan none|.nilFunc|.nilIface=>true
 |_=>false
def FnR (m:Mp):Fn->Fn->Prop
 |.yield l,.yield l'=>∃p,m l=some p/\p.blk=l'
 |.yield _,_=>False
 |f,f'=>f=f'
mutual
inductive VR (m:Mp):Value->Value->Prop
 |same {v:Value} (h:flat v=true):VR m v v
 |ptr {b o:Nat} {p:Pl} (h:m b=some p):VR m (.pointer (some ⟨b,o,none⟩)) (.pointer (some ⟨p.blk,p.base+o,none⟩))
 |slice {b o n c c':Nat} {p:Pl} (h:m b=some p) (hc:match p.room with|none=>c=c'|some r=>c <=c'/\(o=0->c'=r)):
  VR m (.slice (some ⟨b,o,none⟩) n c) (.slice (some ⟨p.blk,p.base+o,none⟩) n c')
 |map {r:Nat} {p:Pl} (h:m r=some p):VR m (.map (some r)) (.map (some p.blk))
 |agg {l l':List Value} (h:VRL m l l'):VR m (.agg ⟨l⟩) (.agg ⟨l'⟩)
 |tuple {l l':List Value} (h:VRL m l l'):VR m (.tuple ⟨l⟩) (.tuple ⟨l'⟩)
 |iface {t:TypeId} {v v':Value} (h:VR m v v'):VR m (.iface t v) (.iface t v')
 |func {f f':Fn} {a a' b b':List Value} (hf:FnR m f f') (ha:VRL m a a') (hb:VRL m b b'):VR m (.func f ⟨a⟩ ⟨b⟩) (.func f' ⟨a'⟩ ⟨b'⟩)
inductive VRL (m:Mp):List Value->List Value->Prop
 |nil:VRL m [] []
 |cons {v v':Value} {l l':List Value} (h:VR m v v') (t:VRL m l l'):VRL m (v::l) (v'::l')
end
theorem FnR.mono {m y:Mp}(E:m.le y){f f':Fn}(h:FnR m f f'):FnR y f f':=by
 cases f <;> cases f' <;> simp only[FnR]at h ⊢ <;> (first|exact h|exact h.elim|(obtain⟨p,h1,D⟩:=h;exact⟨p,E _ _ h1,D⟩))
mutual
theorem VR.mono {m D:Mp}(y:m.le D):∀{v v':Value},VR m v v'->VR D v v'
 |_,_,.same h=>.same h
 |_,_,.ptr h=>.ptr (y _ _ h)
 |_,_,.slice h G=>.slice (y _ _ h) G
 |_,_,.map h=>.map (y _ _ h)
 |_,_,.agg h=>.agg (VRL.mono y h)
 |_,_,.tuple h=>.tuple (VRL.mono y h)
 |_,_,.iface h=>.iface (VR.mono y h)
 |_,_,.func H E F=>.func (H.mono y) (VRL.mono y E) (VRL.mono y F)
theorem VRL.mono {m E:Mp}(y:m.le E):∀{l D:List Value},VRL m l D->VRL E l D
 |_,_,.nil=>.nil
 |_,_,.cons h t=>.cons (VR.mono y h) (VRL.mono y t)
end
theorem VRL.length {m:Mp}{l y:List Value}(h:VRL m l y):l.length=y.length:=by
 induction l generalizing y with
 |nil=>cases h;rfl
 |cons v l D=>cases h with|cons _ t=>simp[D t]
theorem VRL.get {m:Mp}{l D:List Value}(h:VRL m l D)(i:Nat){v:Value}(y:l[i]? =some v):∃v',D[i]? =some v'/\VR m v v':=by
 induction l generalizing D i with
 |nil=>simp at y
 |cons x l F=>
  cases h with
  |cons E t=>
   cases i with
   |zero=>simp at y ⊢;subst y;exact E
   |succ i=>simpa using F t i (by simpa using y)
inductive AO where
 /-- a row:its cells,how many are known,below which they may be frozen,whose they are,the size of an element -/
 |cells (c:Tr Value) (n fz:Nat) (te:TypeId) (es:Nat)
 |map (es:List MapEntry) (clock:Nat)
 |siter (s:ByteArray) (pos:Nat)
 |miter (map:Option Nat) (since:Nat) (seen:Array Nat) (stepped:Nat)
 |loop (st:LoopState) (pend:Option Code) (fn:FuncId) (n:Nat) (tm:Tr Value) (params:Array Tmp) (assign body:Code) (defers:Nat)
 |defs (ds:Option (List Deferred))
structure StE where
 h:Tr AO
 nx:Nat
inductive EsR (m:Mp):List MapEntry->List MapEntry->Prop
 |nil:EsR m [] []
 |cons {k k' v v':Value} {b:Nat} {l l':List MapEntry} (hk:VR m k k') (hv:VR m v v') (t:EsR m l l'):EsR m (⟨k,v,b⟩::l) (⟨k',v',b⟩::l')
theorem EsR.mono {m D:Mp}(y:m.le D){l l':List MapEntry}(h:EsR m l l'):EsR D l l':=by
 induction h with
 |nil=>exact .nil
 |cons E F _ G=>exact .cons (E.mono y) (F.mono y) G
def Yq (m:Mp):Prop:=∀g,g <=31->m (2*g)=some ⟨g,0,none⟩
structure TmR (m:Mp)(n:Nat)(t:Tr Value)(a:Array Value):Prop where
 size:a.size=n
 at_:∀i v,t.get i=some v->∃v',a.getD i (.tuple #[])=v'/\VR m v v'
 glob:Yq m
theorem TmR.mono {m D:Mp}(y:m.le D){t:Tr Value}{a:Array Value}(h:TmR m n t a):TmR D n t a:=
 ⟨h.size,λi v F=>let⟨v',h1,h2⟩:=h.at_ i v F;⟨v',h1,h2.mono y⟩,λg E=>y _ _ (h.glob g E)⟩
def TgR (m:Mp):Target->Target->Prop
 |.fn f c,t'=>∃f' c',t'=.fn f' c'/\FnR m f f'/\VRL m c.toList c'.toList
 |.collected r,t'=>∃p,m r=some p/\t'=.collected p.blk
 |_,_=>False
theorem TgR.mono {m E:Mp}(D:m.le E){t t':Target}(h:TgR m t t'):TgR E t t':=by
 cases t with
 |fn f c=>obtain⟨F,c',h1,y,G⟩:=h;exact⟨F,c',h1,y.mono D,G.mono D⟩
 |collected r=>obtain⟨p,h1,y⟩:=h;exact⟨p,D _ _ h1,y⟩
 |_=>exact h.elim
inductive DsR (m:Mp):List Deferred->List Deferred->Prop
 |nil:DsR m [] []
 |cons {t t':Target} {a a':Array Value} {l l':List Deferred} (ht:TgR m t t') (ha:VRL m a.toList a'.toList) (h:DsR m l l'):DsR m (⟨t,a⟩::l) (⟨t',a'⟩::l')
theorem DsR.mono {m D:Mp}(y:m.le D){l l':List Deferred}(h:DsR m l l'):DsR D l l':=by
 induction h with
 |nil=>exact .nil
 |cons F E _ G=>exact .cons (F.mono y) (E.mono y) G
def Nw (m:Mp)(r r':Nat):Prop:=∃p,m r=some p/\p.blk=r'
theorem Nw.mono {m y:Mp}(D:m.le y){r r':Nat}(h:Nw m r r'):Nw y r r':=let⟨p,h1,h2⟩:=h;⟨p,D _ _ h1,h2⟩
def OR (m:Mp)(p:Pl):AO->Obj->Prop
 |.cells c n fz te es,o=>∃cs lo hi,o=.cells cs te (lo,hi)/\(∀i v,c.get i=some v->i<n/\∃v',cs[p.base+i]? =some v'/\VR m v v')/\(∀i,fz <=i->fz<1048576->p.base+i<cs.size-> ¬ (lo <=p.base+i/\p.base+i<hi))/\
  (∀r,p.room=some r->r*es <=cs.size)/\(p.room=none->cs.size=n)
 |.map es clock,o=>p.base=0/\∃es',o=.map es' clock/\EsR m es es'.toList
 |.siter s pos,o=>p.base=0/\o=.stringIter s pos
 |.miter r since seen st,o=>p.base=0/\∃r',o=.mapIter r' since seen st/\(match r with|none=>r'=none|some k=>∃k',r'=some k'/\Nw m k k')
 |.loop st pend fn n tm ps asv b d,o=>p.base=0/\∃tm' d',o=.loop ⟨st,pend,fn,tm',ps,asv,b,d'⟩/\TmR m n tm tm'/\Nw m d d'
 |.defs ds,o=>p.base=0/\∃ds',o=.deferred ds'/\(match ds with|none=>ds'=none|some l=>∃l',ds'=some l'/\DsR m l l')
theorem OR.mono {m H:Mp}(F:m.le H){p:Pl}{ao:AO}{o:Obj}(h:OR m p ao o):OR H p ao o:=by
 cases ao with
 |cells c n ac af O=>
  obtain⟨cs,Y,U,h1,y,E⟩:=h;exact⟨cs,Y,U,h1,λi v V=>let⟨a,v',b,c⟩:=y i v V;⟨a,v',b,c.mono F⟩,E⟩
 |map O clock=>obtain⟨D,R,h1,y⟩:=h;exact⟨D,R,h1,y.mono F⟩
 |siter s pos=>exact h
 |miter r ad seen st=>
  obtain⟨D,Z,h1,y⟩:=h;refine⟨D,Z,h1,?_⟩;cases r with
  |none=>exact y
  |some k=>obtain⟨k',E,G⟩:=y;exact⟨k',E,G.mono F⟩
 |loop=>obtain⟨D,aa,I,h1,y,E⟩:=h;exact⟨D,aa,I,h1,y.mono F,E.mono F⟩
 |defs J=>
  obtain⟨D,M,h1,y⟩:=h;refine⟨D,M,h1,?_⟩;cases J with
  |none=>exact y
  |some k=>obtain⟨k',E,G⟩:=y;exact⟨k',E,G.mono F⟩
structure Sim (m:Mp)(s:StE)(hp:Array Obj):Prop where
 at_:∀k ao,s.h.get k=some ao->∃p o,m k=some p/\hp[p.blk]? =some o/\OR m p ao o
 apart:∀k k' p p',(s.h.get k).isSome->(s.h.get k').isSome->m k=some p->m k'=some p'->p.blk=p'.blk->k=k'
 fresh:∀k,2*s.nx <=k->m k=none
 odd:∀k p,m k=some p->p.room.isSome=Nat.beq (k%2) 1/\p.base=0
 /-- the program's variables lie in front;how many there are is kept under the number 1 -/
 low:32 <=s.nx/\∃g,m 1=some g/\g.blk <=hp.size/\∀k p,(s.h.get k).isSome->m k=some p->(k<64->p.blk<g.blk)/\(64 <=k->g.blk <=p.blk)
 glob:Yq m
def Own (m:Mp)(s:StE)(b:Nat):Prop:=∃k p,64 <=k/\(s.h.get k).isSome/\m k=some p/\p.blk=b
structure Nxt (w:World)(O:Nat->Prop)(w':World)(O':Nat->Prop):Prop where
 os:w'.os=w.os
 tape:w'.tape=w.tape
 output:w'.output=w.output
 size:w.heap.size <=w'.heap.size
 own:∀b,O' b->O b\/w.heap.size <=b
 keep:∀b,b<w.heap.size-> ¬ O b->w'.heap[b]? =w.heap[b]?
theorem Nxt.refl (w:World)(O:Nat->Prop):Nxt w O w O:=⟨rfl,rfl,rfl,Nat.le_refl _,λ_ h=>.inl h,λ_ _ _=>rfl⟩
theorem Nxt.trans {y D O2:Nat->Prop}(a:Nxt w y u D)(b:Nxt u D v O2):Nxt w y v O2:=
 ⟨b.os.trans a.os,b.tape.trans a.tape,b.output.trans a.output,Nat.le_trans a.size b.size,
  λk h=>by
   rcases b.own k h with h|h
   ·exact a.own k h
   ·exact .inr (Nat.le_trans a.size h),
  λk E F=>by
   rw[b.keep k (Nat.lt_of_lt_of_le E a.size) (λh=>?_),a.keep k E F];rcases a.own k h with h|h
   ·exact F h
   ·omega⟩
theorem Nxt.drew {w w':World}{O O':Nat->Prop}(a:Nxt w O w' O')(d:Nat):Nxt w O { w' with drawn:=d } O':=⟨a.os,a.tape,a.output,a.size,a.own,a.keep⟩
theorem Nxt.below {w w':World}{y D:Nat->Prop}(a:Nxt w y w' D){B:Nat}(h:∀b,y b->B <=b)(F:B <=w.heap.size):Below B w w':=
 ⟨a.os,a.tape,a.output,a.size,λk G=>a.keep k (by omega) λE=>by have:=h k E;omega⟩
theorem Sim.lt {m:Mp}{s:StE}{hp:Array Obj}(h:Sim m s hp){p:Pl}(E:(s.h.get k).isSome)(F:m k=some p):p.blk<hp.size:=by
 obtain⟨ao,D⟩:=Option.isSome_iff_exists.1 E;obtain⟨p',o,h1,y,_⟩:=h.at_ k ao D;rw[F]at h1;cases h1;exact(Array.getElem?_eq_some_iff.1 y).1
theorem Sim.num {m:Mp}{s:StE}{hp:Array Obj}(h:Sim m s hp)(D:(s.h.get k).isSome):k<2*s.nx:=by
 obtain⟨ao,y⟩:=Option.isSome_iff_exists.1 D;obtain⟨p',o,h1,E,_⟩:=h.at_ k ao y;rcases Nat.lt_or_ge k (2*s.nx)with h|hge
 ·exact h
 ·rw[h.fresh k hge]at h1;simp at h1
theorem Sim.put {m U:Mp}{s s':StE}{hp hp':Array Obj}(h:Sim m s hp){k d:Nat}{ao:AO}{p:Pl}{o:Obj}(ac:m.le U)(bt:s.nx <=s'.nx)(bq:k<2*s'.nx)
 (M:∀j,s'.h.get j=if j=k then some ao else if j=d then none else s.h.get j) (O:U k=some p) (J:∀j,j≠k->U j=m j) (bb:hp'[p.blk]? =some o) (bk:OR U p ao o)
 (be:p.room.isSome=Nat.beq (k%2) 1/\p.base=0) (a8:∀b,b≠p.blk->b<hp.size->hp'[b]? =hp[b]?) (ad:∀j q,j≠k->j≠d->(s.h.get j).isSome->m j=some q->q.blk≠p.blk)
 (bp:64 <=k) (bu:hp.size <=hp'.size) (a9:∀g,m 1=some g->g.blk <=p.blk):Sim U s' hp':=by
 have V:∀j,j≠k->(s'.h.get j).isSome->j≠d/\(s.h.get j).isSome/\s'.h.get j=s.h.get j:=λj D R=>by
  rw[M,if_neg D]at R;by_cases aa:j=d
  ·rw[if_pos aa]at R;simp at R
  ·rw[if_neg aa]at R;exact⟨aa,R,by rw[M,if_neg D,if_neg aa]⟩
 refine⟨λj av D=>?_,λj G q an D aj e I af=>?_,λj D=>?_,λj q E=>?_,?_,λg M=>ac _ _ (h.glob g M)⟩
 ·by_cases e:j=k
  ·subst e;rw[M,if_pos rfl]at D;cases D;exact⟨p,o,O,bb,bk⟩
  ·obtain⟨h1,H,Y⟩:=V j e (by rw[D];rfl);rw[Y]at D;obtain⟨q,bl,Z,ag,a0⟩:=h.at_ j av D;exact⟨q,bl,ac _ _ Z,by rw[a8 _ (ad j q e h1 H Z) (Array.getElem?_eq_some_iff.1 ag).1];exact ag,a0.mono ac⟩
 ·by_cases y:j=k
  ·by_cases F:G=k
   ·rw[y,F]
   ·obtain⟨h1,H,_⟩:=V G F aj;rw[J G F]at I;have:=ad G an F h1 H I;rw[y,O]at e;cases e;exact absurd af.symm this
  ·obtain⟨h1,H,_⟩:=V j y D;rw[J j y]at e;by_cases F:G=k
   ·have:=ad j q y h1 H e;rw[F,O]at I;cases I;exact absurd af this
   ·obtain⟨Y,Z,_⟩:=V G F aj;rw[J G F]at I;exact h.apart j G q an H Z e I af
 ·rw[J j (by omega)];exact h.fresh j (by omega)
 ·by_cases y:j=k
  ·rw[y,O]at E;cases E;rw[y];exact be
  ·rw[J j y]at E;exact h.odd j q E
 ·obtain⟨bs,g,h1,H,Y⟩:=h.low;refine⟨by omega,g,ac _ _ h1,by omega,λj q D E=>?_⟩;by_cases y:j=k
  ·rw[y,O]at E;cases E;exact⟨λh=>by omega,λ_=>a9 g h1⟩
  ·rw[J j y]at E;exact Y j q (V j y D).2.1 E
theorem Sim.put_own {m D:Mp}{s s':StE}{hp:Array Obj}{k d:Nat}{ao:AO}{p:Pl}(H:∀j,s'.h.get j=if j=k then some ao else if j=d then none else s.h.get j)(J:D k=some p)
 (I:∀j,j≠k->D j=m j) (G:Own m s p.blk\/hp.size <=p.blk):∀b,Own D s' b->Own m s b\/hp.size <=b:=by
 rintro b ⟨j,q,F,h1,y,rfl⟩;by_cases e:j=k
 ·rw[e,J]at y;cases y;exact G
 ·rw[I j e]at y;rw[H,if_neg e]at h1;by_cases E:j=d
  ·rw[if_pos E]at h1;simp at h1
  ·rw[if_neg E]at h1;exact .inl ⟨j,q,F,h1,y,rfl⟩
def Mp.set (m:Mp)(k:Nat)(p:Pl):Mp:=λj=>if j=k then some p else m j
theorem Mp.le_set {m:Mp}{p:Pl}(h:m k=none):m.le (m.set k p):=λj q y=>by
 unfold Mp.set;by_cases e:j=k
 ·subst e;rw[h]at y;cases y
 ·rw[if_neg e];exact y
theorem Mp.set_at (m:Mp)(k:Nat)(p:Pl):m.set k p k=some p:=by simp[Mp.set]
theorem Mp.set_ne (m:Mp)(k:Nat)(p:Pl):∀j,j≠k->m.set k p j=m j:=λj y=>by simp[Mp.set,y]
def ZN (P:Program){α:Type}(s:Sem α):Option α:=
 Sem.rec (motive:=λ_=>Option α) (λa=>some a) (λ_ _ _ _=>none) (λ_ _ _ _ _=>none) (λ_ _ _=>none) (λ_ _ _=>none) (λ_ _ _ _=>none) (λ_ _ _=>none) (λ_ _ _=>none)
  (λ_ _ _ _=>none) (λ_ _ _=>none) (λ_ _ _=>none) (λ_ ih=>ih P) (λ_ _ ih=>ih) (λ_=>none) s
theorem Vx {s:Sem o}{a:o}(h:ZN P s=some a)(w:World):s.run P w=.ok a w:=by
 induction s with
 |pure x=>cases(Option.some.inj h:x=a);rfl
 |program k y=>exact y P h
 |mark m k y=>exact y h
 |_=>exact nomatch (show(none:Option o)=some a from h)
def mg:Value->Bool:=
 Value.rec (motive_1:=λ_=>Bool) (motive_2:=λ_=>Bool) (motive_3:=λ_=>Bool) (λ_=>true) (λ_ _=>true) (λ_ _=>true) (λ_ _ _=>true) (λ_=>true) (λa=>a.isNone) (λa _ _=>a.isNone)
  (λr=>r.isNone) (λr=>r.isNone) (λfn _ _ a b=>(match fn with|.yield _=>false|_=>true)&&(a&&b)) true (λ_ _ x=>x) true (λ_ x=>x) (λ_ x=>x) (λ_ x=>x) true (λ_ _ x y=>x&&y)
def pA:List Value->Bool:=List.rec true λv _ ih=>mg v&&ih
theorem zV (l:List Value):Value.rec_2 (motive_1:=λ_=>Bool) (motive_2:=λ_=>Bool) (motive_3:=λ_=>Bool) (λ_=>true) (λ_ _=>true) (λ_ _=>true) (λ_ _ _=>true) (λ_=>true) (λa=>a.isNone) (λa _ _=>a.isNone)
 (λr=>r.isNone) (λr=>r.isNone) (λy _ _ a b=>(match y with|.yield _=>false|_=>true)&&(a&&b)) true (λ_ _ x=>x) true (λ_ x=>x) (λ_ x=>x) (λ_ x=>x) true (λ_ _ x E=>x&&E) l=pA l:=by
 induction l with
 |nil=>rfl
 |cons v l D=>
  have e:pA (v::l)=(mg v&&pA l):=rfl;rw[e,<- D];rfl
theorem Bc (l:List Value):mg (.agg ⟨l⟩)=pA l:=zV l
theorem Ka (l:List Value):mg (.tuple ⟨l⟩)=pA l:=zV l
theorem Mz (y:Fn)(a b:List Value):mg (.func y ⟨a⟩ ⟨b⟩)=((match y with|.yield _=>false|_=>true)&&(pA a&&pA b)):=by
 rw[<- zV a,<- zV b];rfl
theorem Ip (m:Mp)(v:Value):mg v=true->VR m v v/\∀v',VR m v v'->v'=v:=
 Value.rec (motive_1:=λv=>mg v=true->VR m v v/\∀v',VR m v v'->v'=v)
  (motive_2:=λa=>pA a.toList=true->VRL m a.toList a.toList/\∀F,VRL m a.toList F->F=a.toList)
  (motive_3:=λl=>pA l=true->VRL m l l/\∀F,VRL m l F->F=l)
  (λb _=>⟨.same rfl,λ_ h=>by cases h;rfl⟩) (λk n _=>⟨.same rfl,λ_ h=>by cases h;rfl⟩) (λk n _=>⟨.same rfl,λ_ h=>by cases h;rfl⟩) (λk a b _=>⟨.same rfl,λ_ h=>by cases h;rfl⟩)
  (λs _=>⟨.same rfl,λ_ h=>by cases h;rfl⟩)
  (λa h=>by cases a with|none=>exact⟨.same rfl,λ_ h=>by cases h;rfl⟩|some a=>exact nomatch (show false=true from h))
  (λa n c h=>by cases a with|none=>exact⟨.same rfl,λ_ h=>by cases h;rfl⟩|some a=>exact nomatch (show false=true from h))
  (λa h=>by cases a with|none=>exact⟨.same rfl,λ_ h=>by cases h;rfl⟩|some a=>exact nomatch (show false=true from h))
  (λa h=>by cases a with|none=>exact⟨.same rfl,λ_ h=>by cases h;rfl⟩|some a=>exact nomatch (show false=true from h))
  (λfn a b Y Z h=>by
   cases a with|mk a=>cases b with|mk b=>
   rw[Mz]at h;simp only[Bool.and_eq_true]at h;obtain⟨h1,D,M⟩:=h;obtain⟨a1,a2⟩:=Y D;obtain⟨H,I⟩:=Z M;have G:∀J,FnR m fn J->J=fn:=λJ G=>by cases fn <;> first|exact nomatch (show false=true from h1)|(simp only[FnR]at G;exact G.symm)
   refine⟨.func (by cases fn <;> first|exact nomatch (show false=true from h1)|rfl) a1 H,λv' y=>?_⟩;cases y with
   |same h=>exact nomatch (show false=true from h)
   |func U O R=>rw[G _ U,a2 _ O,I _ R])
  (λ_=>⟨.same rfl,λ_ h=>by cases h;rfl⟩)
  (λt v E h=>by
   obtain⟨h1,D⟩:=E h;refine⟨.iface h1,λv' y=>?_⟩;cases y with
   |same h=>exact nomatch (show false=true from h)
   |iface y=>rw[D _ y])
  (λ_=>⟨.same rfl,λ_ h=>by cases h;rfl⟩)
  (λa E h=>by
   cases a with|mk a=>
   rw[Bc]at h;obtain⟨h1,D⟩:=E h;refine⟨.agg h1,λv' y=>?_⟩;cases y with
   |same h=>exact nomatch (show false=true from h)
   |agg y=>rw[D _ y])
  (λa E h=>by
   cases a with|mk a=>
   rw[Ka]at h;obtain⟨h1,D⟩:=E h;refine⟨.tuple h1,λv' y=>?_⟩;cases y with
   |same h=>exact nomatch (show false=true from h)
   |tuple y=>rw[D _ y])
  (λl E h=>E h)
  (λ_=>⟨.nil,λF h=>by cases h;rfl⟩)
  (λv l ac aa h=>by
   have h:(mg v&&pA l)=true:=h;simp only[Bool.and_eq_true]at h;obtain⟨a1,a2⟩:=ac h.1;obtain⟨H,I⟩:=aa h.2;refine⟨.cons a1 H,λF V=>?_⟩;cases V with
   |cons y t=>rw[a2 _ y,I _ t]) v
theorem VR.refl {m:Mp}{v:Value}(h:mg v=true):VR m v v:=(Ip m v h).1
theorem VR.eq {m:Mp}{v v':Value}(h:mg v=true)(y:VR m v v'):v'=v:=(Ip m v h).2 v' y
def mK {β:Type}(n:Nat)(K:Nat->β):β:=Nat.rec (motive:=λ_=>β) (K 0) (λk _=>K (Nat.succ k)) n
theorem cw (n:Nat)(K:Nat->o):mK n K=K n:=by cases n <;> rfl
def ZI {β:Type}(n:Int)(K:Int->β):β:=Int.rec (motive:=λ_=>β) (λk=>mK k λk=>K (.ofNat k)) (λk=>mK k λk=>K (.negSucc k)) n
theorem UD (n:Int)(K:Int->o):ZI n K=K n:=by cases n with
 |ofNat k=>exact cw k λk=>K (.ofNat k)
 |negSucc k=>exact cw k λk=>K (.negSucc k)
def UC {β:Type}(b:Bool)(K:Bool->β):β:=Bool.rec (motive:=λ_=>β) (K false) (K true) b
theorem Lk (n:Bool)(K:Bool->o):UC n K=K n:=by cases n <;> rfl
def Ii {β:Type}(l:List UInt8):(List UInt8->β)->β:=
 List.rec (motive:=λ_=>(List UInt8->β)->β) (λK=>K []) (λx _ ih K=>mK x.toNat λn=>ih λl=>K (UInt8.ofNat n::l)) l
theorem AW (l:List UInt8)(K:List UInt8->o):Ii l K=K l:=by
 induction l generalizing K with
 |nil=>rfl
 |cons x l y=>
  show mK x.toNat (λn=>Ii l λl=>K (UInt8.ofNat n::l))=_;rw[cw,y,UInt8.ofNat_toNat]
def YO {β:Type}(s:ByteArray)(K:ByteArray->β):β:=Ii s.data.toList λl=>K ⟨⟨l⟩⟩
theorem UE (s:ByteArray)(K:ByteArray->o):YO s K=K s:=by unfold YO;rw[AW]
def RN {β:Type}(a:Option Addr)(K:Option Addr->β):β:=match a with
 |none=>K none
 |some ⟨b,o,s⟩=>mK b λb=>mK o λo=>match s with|none=>K (some ⟨b,o,none⟩)|some s=>K (some ⟨b,o,some s⟩)
theorem RO {β:Type}(a:Option Addr)(K:Option Addr->β):RN a K=K a:=by
 unfold RN
 match a with
 |none=>rfl
 |some ⟨b,o,none⟩=>simp only[cw]
 |some ⟨b,o,some s⟩=>simp only[cw]
def fV {β:Type}(v:Value)(K:Value->β):β:=match v with
 |.bool b=>UC b λb=>K (.bool b)
 |.int k n=>ZI n λn=>K (.int k n)
 |.string s=>YO s λs=>K (.string s)
 |.pointer a=>RN a λa=>K (.pointer a)
 |.slice a n c=>RN a λa=>mK n λn=>mK c λc=>K (.slice a n c)
 |v=>K v
theorem WI (v:Value)(K:Value->o):fV v K=K v:=by
 unfold fV;split <;> simp only[Lk,UD,UE,RO,cw]
def fVL {β:Type}(l:List Value):(List Value->β)->β:=
 List.rec (motive:=λ_=>(List Value->β)->β) (λK=>K []) (λx _ ih K=>fV x λx=>ih λl=>K (x::l)) l
theorem vy (l:List Value)(K:List Value->o):fVL l K=K l:=by
 induction l generalizing K with
 |nil=>rfl
 |cons x l y=>
  show fV x (λx=>fVL l λl=>K (x::l))=_;rw[WI,y]
def fW {β:Type}(v:Value)(K:Value->β):β:=match v with
 |.agg ⟨l⟩=>fVL l λl=>K (.agg ⟨l⟩)
 |.tuple ⟨l⟩=>fVL l λl=>K (.tuple ⟨l⟩)
 |.iface t v=>fV v λv=>K (.iface t v)
 |v=>fV v K
theorem YP (v:Value)(K:Value->o):fW v K=K v:=by
 unfold fW;split <;> simp only[vy,WI]
abbrev Rs:=Value×StE
theorem VR.ptrI {m:Mp}{a:Addr}{v':Value}(h:VR m (.pointer (some a)) v'):∃p,m a.block=some p/\a.spot=none/\v'=.pointer (some ⟨p.blk,p.base+a.off,none⟩):=by
 cases h with
 |same h=>exact nomatch (show false=true from h)
 |ptr h=>exact⟨_,h,rfl,rfl⟩
theorem VR.sliceI {m:Mp}{a:Addr}{n c:Nat}{v':Value}(h:VR m (.slice (some a) n c) v'):∃p c',m a.block=some p/\a.spot=none/\v'=.slice (some ⟨p.blk,p.base+a.off,none⟩) n c'/\
 (match p.room with|none=>c=c'|some r=>c <=c'/\(a.off=0->c'=r)):=by
 cases h with
 |same h=>exact nomatch (show false=true from h)
 |slice h y=>exact⟨_,_,h,rfl,rfl,y⟩
theorem VR.slice0 {m:Mp}{n c:Nat}{v':Value}(h:VR m (.slice none n c) v'):v'=.slice none n c:=by
 cases h with
 |same h=>rfl
theorem VR.mapI {m:Mp}{r:Nat}{v':Value}(h:VR m (.map (some r)) v'):∃p,m r=some p/\v'=.map (some p.blk):=by
 cases h with
 |same h=>exact nomatch (show false=true from h)
 |map h=>exact⟨_,h,rfl⟩
theorem VR.aggI {m:Mp}{l:List Value}{v':Value}(h:VR m (.agg ⟨l⟩) v'):∃l',v'=.agg ⟨l'⟩/\VRL m l l':=by
 cases h with
 |same h=>exact nomatch (show false=true from h)
 |agg h=>exact⟨_,rfl,h⟩
theorem VR.tupleI {m:Mp}{l:List Value}{v':Value}(h:VR m (.tuple ⟨l⟩) v'):∃l',v'=.tuple ⟨l'⟩/\VRL m l l':=by
 cases h with
 |same h=>exact nomatch (show false=true from h)
 |tuple h=>exact⟨_,rfl,h⟩
theorem VR.ifaceI {m:Mp}{v v':Value}(h:VR m (.iface t v) v'):∃u,v'=.iface t u/\VR m v u:=by
 cases h with
 |same h=>exact nomatch (show false=true from h)
 |iface h=>exact⟨_,rfl,h⟩
theorem VR.funcI {m:Mp}{f:Fn}{a b:List Value}{v':Value}(h:VR m (.func f ⟨a⟩ ⟨b⟩) v'):∃D y b',v'=.func D ⟨y⟩ ⟨b'⟩/\FnR m f D/\VRL m a y/\VRL m b b':=by
 cases h with
 |same h=>exact nomatch (show false=true from h)
 |func h1 E F=>exact⟨_,_,_,rfl,h1,E,F⟩
def MW:Value->Bool
 |.agg _|.tuple _=>false
 |_=>true
theorem VR.one {m:Mp}{v v':Value}(h:VR m v v')(y:MW v=true):MW v'=true:=by
 cases h <;> first|exact y|rfl
theorem one_cell {v:Value}(h:MW v=true):v.oneCell'=true:=by cases v <;> first|rfl|exact nomatch (show false=true from h)
def V2 (P:Program)(t:TypeId):Bool:=match P.underlying t with
 |some (.struct _)|some (.array _ _)=>true
 |_=>false
def MD (P:Program)(t:TypeId):Bool:=match P.underlying t with|some _=>true|none=>false
def tD (P:Program)(t:TypeId):Nat:=match P.info? t with|some i=>i.size|none=>0
def vp (P:Program)(t:TypeId):Bool:=match P.info? t with|some _=>true|none=>false
theorem sR (h:MD P t=true)(w:World):(isAgg t).run P w=.ok (V2 P t) w:=by
 unfold MD at h;cases y:P.underlying t with
 |none=>rw[y]at h;cases h
 |some d=>
  unfold isAgg underlying V2;simp only[Sem.run_bind,run_program,Result.andThen_ok,y];cases d <;> rfl
theorem Cy (h:vp P t=true)(w:World):(sizeOf t).run P w=.ok (tD P t) w:=by
 unfold vp at h;cases y:P.info? t with
 |none=>rw[y]at h;cases h
 |some d=>
  unfold sizeOf typeInfo tD;simp only[Sem.run_bind,run_program,Result.andThen_ok,y];rfl
def Hu (c:Tr Value)(o:Nat)(n:Nat):Option (List Value):=
 Nat.rec (motive:=λ_=>Nat->Option (List Value)) (λ_=>some []) (λ_ ih o=>match c.get o with
  |some v=>match ih (Nat.succ o)with
   |some l=>some (v::l)
   |none=>none
  |none=>none) n o
theorem I9 (c:Tr Value)(o n:Nat):Hu c o (n+1)=match c.get o with
 |some v=>match Hu c (o+1) n with
  |some l=>some (v::l)
  |none=>none
 |none=>none:=rfl
theorem mZ {c:Tr Value} :∀{n o:Nat} {l:List Value},Hu c o n=some l->l.length=n/\∀i,i<n->c.get (o+i)=l[i]?
 |0,o,l,h=>by cases(Option.some.inj h:[]=l);exact⟨rfl,λi E=>absurd E (by omega)⟩
 |n+1,o,l,h=>by
  rw[I9]at h;cases D:c.get o with
  |none=>rw[D]at h;simp at h
  |some v=>
   rw[D]at h;cases y:Hu c (o+1) n with
   |none=>rw[y]at h;simp at h
   |some t=>
    rw[y]at h;obtain⟨h1,F⟩:=mZ y;simp only[Option.some.injEq]at h;subst h;refine⟨by simp[h1],λi E=>?_⟩;cases i with
    |zero=>simpa using D
    |succ i=>rw[show o+(i+1)=o+1+i by omega,F i (by omega)];rfl
theorem hX (b o i:Nat):(⟨b,o,none⟩:Addr).add i=⟨b,o+i,none⟩:=by
 unfold Addr.add;split
 ·rename_i h;subst h;rfl
 ·rfl
theorem cell_of {b:Nat}{cs:Array Value}{f:Nat×Nat}(h:w.heap[b]? =some (.cells cs t f))(i:Nat):w.cell? ⟨b,i,none⟩=cs[i]? :=by
 simp[World.cell?,h]
theorem ky {m:Mp}{b:Nat}{cs:Array Value}{U:TypeId}{f:Nat×Nat}(h:w.heap[b]? =some (.cells cs U f)){c:Tr Value}{base:Nat}
 (H:∀i v,c.get i=some v->∃v',cs[base+i]? =some v'/\VR m v v'):∀(n o i:Nat) (D:Array Value) {l:List Value},Hu c (o+i) n=some l->
 ∃E,VRL m l E/\(loadCellsFrom ⟨b,base+o,none⟩ i n D).run P w=.ok (D++E.toArray) w
 |0,o,i,D,l,y=>by
  cases(Option.some.inj y:[]=l);exact⟨[],.nil,by simp[loadCellsFrom]⟩
 |n+1,o,i,D,l,y=>by
  rw[I9]at y;cases G:c.get (o+i)with
  |none=>rw[G]at y;simp at y
  |some v=>
   rw[G]at y;cases F:Hu c (o+i+1) n with
   |none=>rw[F]at y;simp at y
   |some t=>
    rw[F]at y;simp only[Option.some.injEq]at y;subst y;obtain⟨v',R,M⟩:=H _ _ G;obtain⟨E,J,O⟩:=ky h H n o (i+1) (D.push v') (by rw[show o+(i+1)=o+i+1 by omega];exact F);refine⟨v'::E,.cons M J,?_⟩;have I:w.cell? ⟨b,base+o+i,none⟩=some v':=by rw[cell_of h,show base+o+i=base+(o+i) by omega];exact R
    unfold loadCellsFrom;simp only[Sem.run_bind,run_load,hX,I,Result.andThen_ok];rw[O];simp
def uJ (P:Program)(s:StE)(t:TypeId)(a:Value)(K:Value->Option Rs):Option Rs:=match a with
 |.pointer (some ⟨b,o,none⟩)=>match s.h.get b with
  |some (.cells c _ _ _ _)=>bif MD P t then bif V2 P t then bif vp P t then match Hu c o (tD P t)with
   |some l=>K (.agg ⟨l⟩)
   |none=>none
   else none else match c.get o with
    |some v=>K v
    |none=>none
   else none
  |_=>none
 |_=>none
theorem Ac {s:StE}{a:Value}{K:Value->Option Rs}{r:Rs}(h:uJ P s t a K=some r):
 ∃v,K v=some r/\∀(m:Mp) (w:World) (D:Value),Sim m s w.heap->VR m a D->∃v',VR m v v'/\(Instr.loadAt t D).run P w=.ok v' w:=by
 unfold uJ at h;split at h
 ·rename_i b o;split at h
  ·rename_i c n av a0 an aa;cases F:MD P t with
   |false=>rw[F]at h;cases h
   |true=>
    rw[F,cond_true]at h;cases E:V2 P t with
    |true=>
     rw[E,cond_true]at h;cases O:vp P t with
     |false=>rw[O]at h;cases h
     |true=>
      rw[O,cond_true]at h;cases Y:Hu c o (tD P t)with
      |none=>rw[Y]at h;cases h
      |some l=>
       rw[Y]at h;refine⟨_,h,λm w D Z R=>?_⟩;obtain⟨p,hp,_,rfl⟩:=R.ptrI;obtain⟨p',aj,h1,H,I⟩:=Z.at_ _ _ aa;rw[hp]at h1;cases h1;obtain⟨cs,ag,ad,rfl,U,_⟩:=I;have V:∀i v,c.get i=some v->∃v',cs[p.base+i]? =some v'/\VR m v v':=λi v y=>(U i v y).2;have G:(Instr.loadAt t (.pointer (some ⟨p.blk,p.base+o,none⟩))).run P w=(loadVar t ⟨p.blk,p.base+o,none⟩).run P w:=rfl;obtain⟨af,J,M⟩:=ky (P:=P) H V (tD P t) o 0 #[] Y;refine⟨.agg ⟨af⟩,.agg J,?_⟩;rw[G];unfold loadVar loadCells;simp only[Sem.run_bind,sR F,E,Result.andThen_ok,if_true,Cy O,M];simp
    |false=>
     rw[E,cond_false]at h;cases y:c.get o with
     |none=>rw[y]at h;cases h
     |some v=>
      rw[y]at h;refine⟨_,h,λm w D Z R=>?_⟩;obtain⟨p,hp,_,rfl⟩:=R.ptrI;obtain⟨p',aj,h1,H,I⟩:=Z.at_ _ _ aa;rw[hp]at h1;cases h1;obtain⟨cs,ag,ad,rfl,U,_⟩:=I;have V:∀i v,c.get i=some v->∃v',cs[p.base+i]? =some v'/\VR m v v':=λi v y=>(U i v y).2;have G:(Instr.loadAt t (.pointer (some ⟨p.blk,p.base+o,none⟩))).run P w=(loadVar t ⟨p.blk,p.base+o,none⟩).run P w:=rfl;obtain⟨v',J,M⟩:=V _ _ y;refine⟨v',M,?_⟩;rw[G];unfold loadVar;have ac:w.cell? ⟨p.blk,p.base+o,none⟩=some v':=by rw[cell_of H];exact J
      simp only[Sem.run_bind,sR F,E,Result.andThen_ok,Bool.false_eq_true,if_false,run_load,ac]
  ·cases h
 ·cases h
end
end Go.Pe
namespace Go.Pk
open Go.RowKit (Below)
open Go.Proofs
end Go.Pk
