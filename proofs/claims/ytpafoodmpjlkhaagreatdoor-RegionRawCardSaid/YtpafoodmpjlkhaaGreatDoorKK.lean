/- What the laws lean on: RegN, V48, RegO, OpenH, OpenR; what is used. Its conditions: none. -/
import Derived.Test.YtpafoodmpjlkhaaGreatDoorKJ
import Derived.ChangeArms
import Derived.ChangeSame
import Derived.Deep.Slices
set_option linter.unusedVariables false
set_option linter.unusedSimpArgs false
set_option linter.unusedSectionVars false
set_option maxRecDepth 100000
open Go.IntKind (i64)
open Go.Proofs.Tryz
open List (length)
open Option (isSome)
namespace Go.Pk
open Go.RowKit (Below)
open Go.Proofs
def sM (x y:Rgn)(h p:DA):Rgn:=⟨h,p,x.s0&&y.s0,x.s1&&y.s1,x.c0&&y.c0,x.c1&&y.c1,x.c2&&y.c2⟩
def qA (x y:Rgn):Bool:=dz x.h y.h&&dz x.p y.p
def xJ (a b o:DA):Prop:=∃p ps,fN a b (λx y=>x&&y) p ps/\jb p o
def GG (x y:Rgn)(w:World)(v:Value)(w':World):Prop:=bW w w'/\
 if qA x y=true then ∃h p X Y,xJ x.h y.h h/\xJ x.p y.p p/\v=.tuple #[(sM x y h p).v X Y,vI 0]/\RgS w' (sM x y h p) X Y else v=.tuple #[rg0.v rp0 rp0,vI 151]
theorem zp {a b:DA}{w:World}{v:Value}{w':World}(h:pV a b w v w'):∃(o:DA) (er:Int) (X:Option Addr) (n c:Nat) (Y:Option Addr) (m e:Nat),v=.tuple #[daV X n c Y m e o,vI er]/\ri w.heap.size w' X n c Y m e o/\bW w w'/\(dz a b=true/\er=0/\xJ a b o\/dz a b=false/\er=151):=by
 unfold pV at h
 cases hb:dz a b with
 | true=>
   rw[hb,if_pos rfl]at h
   obtain⟨p,ps,o,hI,hT,X,n,c,Y,m,e,rfl,O,b⟩:=h
   exact⟨o,0,X,n,c,Y,m,e,rfl,O,b,.inl ⟨rfl,rfl,p,ps,hI,hT⟩⟩
 | false=>
   rw[hb,if_neg (by decide)]at h
   obtain⟨rfl,b⟩:=h
   exact⟨d0,151,none,0,0,none,0,0,rfl,⟨Ow.nil _ _ _ _,Ow.nil _ _ _ _,(λg hg=>by cases hg),br.none _,br.none _⟩,b,.inr ⟨rfl,rfl⟩⟩
def stS (x y:Rgn)(h p:DA)(j:Nat):Rgn:=⟨h,p,decide (0<j)&&(x.s0&&y.s0),decide (1<j)&&(x.s1&&y.s1),false,false,false⟩
def stC (x y:Rgn)(h p:DA)(j:Nat):Rgn:=⟨h,p,x.s0&&y.s0,x.s1&&y.s1,decide (0<j)&&(x.c0&&y.c0),decide (1<j)&&(x.c1&&y.c1),decide (2<j)&&(x.c2&&y.c2)⟩
def sB (r:Rgn)(j:Nat):Bool:=if j=0 then r.s0 else r.s1
def cB (r:Rgn)(j:Nat):Bool:=if j=0 then r.c0 else if j=1 then r.c1 else r.c2
theorem vj (r:Rgn)(X Y:Rgp){j:Nat}(hj:j<2):(r.cells X Y)[8+j]? =some (.bool (sB r j)):=by
 match j,hj with
 | 0,_=>rfl
 | 1,_=>rfl
 | j+2,hj=>omega
theorem tM (r:Rgn)(X Y:Rgp){j:Nat}(hj:j<3):(r.cells X Y)[10+j]? =some (.bool (cB r j)):=by
 match j,hj with
 | 0,_=>rfl
 | 1,_=>rfl
 | 2,_=>rfl
 | j+3,hj=>omega
theorem HC (x y:Rgn)(h p:DA)(X Y:Rgp){j:Nat}(hj:j<2):((stS x y h p j).cells X Y).set (8+j) (.bool (sB x j&&sB y j))=(stS x y h p (j+1)).cells X Y:=by
 match j,hj with
 | 0,_=>rfl
 | 1,_=>rfl
 | j+2,hj=>omega
theorem HB (x y:Rgn)(h p:DA)(X Y:Rgp){j:Nat}(hj:j<3):((stC x y h p j).cells X Y).set (10+j) (.bool (cB x j&&cB y j))=(stC x y h p (j+1)).cells X Y:=by
 match j,hj with
 | 0,_=>rfl
 | 1,_=>rfl
 | 2,_=>rfl
 | j+3,hj=>omega
set_option maxHeartbeats 1000000 in
theorem Ij {w:World}{x y:Rgn}{X1 X2 Y1 Y2:Rgp}(hx:RgS w x X1 X2)(hy:RgS w y Y1 Y2)(fh:x.h.Ok->y.h.Ok->x.h.k=y.h.k->Few x.h y.h)(fp:x.p.Ok->y.p.Ok->x.p.k=y.p.k->Few x.p y.p):
   Cf lZ #[x.v X1 X2,y.v Y1 Y2] w (Ret (GG x y w)):=by
 apply vd
 intro k2 w2 hk2 hw2 k3 w3 hk3 hw3 k4 w4 hk4 hw4
 have b2:=(hw2▸af w _:bW w w2)
 have b3:=(hw3▸af w2 _:bW w2 w3)
 have b4:=(hw4▸af w3 _:bW w3 w4)
 have A2:ai w4 k2 ao (x.cells X1 X2):=((ai.new hk2 hw2:ai w2 k2 ao (x.cells X1 X2)).below b3).below b4
 have A3:ai w4 k3 ao (y.cells Y1 Y2):=(ai.new hk3 hw3:ai w3 k3 ao (y.cells Y1 Y2)).below b4
 have A4:ai w4 k4 ao (rg0.cells rp0 rp0):=ai.new hk4 hw4
 have B4:bW w w4:=ab (ab b2 b3 b2.size) b4 (Nat.le_trans b2.size b3.size)
 have o4:w.heap.size <=k4:=by have:=b2.size;have:=b3.size;omega
 refine⟨rfl,_,_,X1.a,X1.n,X1.c,X1.b,X1.m,X1.e,kD A2,rfl,_,_,Y1.a,Y1.n,Y1.c,Y1.b,Y1.m,Y1.e,kD A3,?_⟩
 refine aw (EE (hx.h.below B4) (hy.h.below B4) fh) ?_
 intro v w18 hv
 obtain⟨oh,eh,a1,n1,c1,a2,m1,e1,rfl,D1,b18,hc1⟩:=zp hv
 have B18:=ab B4 b18 B4.size
 refine⟨_,_,a1,n1,c1,a2,m1,e1,eh,rfl,?_⟩
 intro k6 w6 hk6 hw6
 have b6:=(hw6▸af w18 _:bW w18 w6)
 obtain⟨wx,q1,v6,g1⟩:=bh.store0 (P:=prog) (cs:=daL a1 n1 c1 a2 m1 e1 oh) rfl (dt _ _ _ _ _ _ _) (ai.new hk6 hw6:ai w6 k6 ae [vI 0,vI 0,.slice none 0 0,.slice none 0 0]) rfl
 have bx:bW w18 wx:=Below.put b6 g1 (by omega)
 have b4x:=ab b18 bx b18.size
 have Bx:=ab B4 b4x B4.size
 refine⟨wx,q1,rfl,_,_,X2.a,X2.n,X2.c,X2.b,X2.m,X2.e,kE (A2.below b4x),rfl,_,_,Y2.a,Y2.n,Y2.c,Y2.b,Y2.m,Y2.e,kE (A3.below b4x),?_⟩
 refine aw (EE (hx.p.below Bx) (hy.p.below Bx) fp) ?_
 intro v w26 hv
 obtain⟨op,ep,a3,n3,c3,a4,m3,e3,rfl,D2,b26,hc2⟩:=zp hv
 refine⟨_,_,a3,n3,c3,a4,m3,e3,ep,rfl,?_⟩
 intro k8 w8 hk8 hw8
 have b8:=(hw8▸af w26 _:bW w26 w8)
 obtain⟨wy,q2,v8,g2⟩:=bh.store0 (P:=prog) (cs:=daL a3 n3 c3 a4 m3 e3 op) rfl (dt _ _ _ _ _ _ _) (ai.new hk8 hw8:ai w8 k8 ae [vI 0,vI 0,.slice none 0 0,.slice none 0 0]) rfl
 have by_:bW w26 wy:=Below.put b8 g2 (by omega)
 have bxy:=ab b26 by_ b26.size
 have b4y:=ab b4x bxy b4x.size
 have By:=ab B4 b4y B4.size
 have O1:=(D1.below bx).below bxy
 have O2:=D2.below by_
 have A2y:=A2.below b4y
 have A3y:=A3.below b4y
 have A4y:=A4.below b4y
 refine⟨wy,q2,_,_,a1,n1,c1,a2,m1,e1,bh.load0 (cs:=daL a1 n1 c1 a2 m1 e1 oh) (v6.below bxy) rfl,_,_,a3,n3,c3,a4,m3,e3,bh.load0 (cs:=daL a3 n3 c3 a4 m3 e3 op) v8 rfl,?_⟩
 obtain⟨XH,hXH⟩:∃XH:Rgp,XH=⟨a1,n1,c1,a2,m1,e1⟩:=⟨_,rfl⟩
 obtain⟨XP,hXP⟩:∃XP:Rgp,XP=⟨a3,n3,c3,a4,m3,e3⟩:=⟨_,rfl⟩
 intro k10 w10 hk10 hw10
 have b10:=(hw10▸af wy _:bW wy w10)
 obtain⟨wz,q3,v10,g3⟩:=bo.store0 (P:=prog) (cs:=(stS x y oh op 0).cells XH XP) rfl (Rgn.one _ _ _) (ai.new hk10 hw10:ai w10 k10 ao (rg0.cells rp0 rp0)) rfl
 have bz:bW wy wz:=Below.put b10 g3 (by omega)
 have S0:Sp wy [ptA k10 ao ((stS x y oh op 0).cells XH XP)] wz:=⟨⟨λp hp=>by rw[List.mem_singleton]at hp;subst hp;exact v10,λi j p q hp hq hne=>by
     have:=bP hp
     have:=bP hq
     simp at*;omega⟩,λp hp=>by rw[List.mem_singleton]at hp;subst hp;exact fp1 (by omega),bz⟩
 have q3':(Instr.storeAt ao (.pointer (some ⟨k10,0,none⟩)) (.agg #[vI oh.k,vI oh.st,.slice a1 n1 c1,.slice a2 m1 e1,vI op.k,vI op.st,.slice a3 n3 c3,.slice a4 m3 e3,.bool false,.bool false,.bool false,.bool false,.bool false])).run prog w10=.ok () wz:=by
   rw[hXH,hXP]at q3;exact q3
 refine⟨wz,q3',λmm i u=>∃j:Nat,i=(j:Int)/\j <=2/\mm=2-j/\Sp wy [ptA k10 ao ((stS x y oh op j).cells XH XP)] u,⟨_,0,rfl,by omega,rfl,S0⟩,?_⟩
 clear S0 v10 q3 q3'
 intro mm i
 refine aL.of ?_ _
 rintro u ⟨j,rfl,hj,rfl,S1⟩
 refine ah.of (λh1=>?_) (λh1=>?_) <;> simp only[dTx,dFx]at h1
 · have hj2:j<2:=by omega
   have l1:=(A2y.below S1.bw).load1 (P:=prog) dl rfl (vj x X1 X2 hj2)
   have l2:=(A3y.below S1.bw).load1 (P:=prog) dl rfl (vj y Y1 Y2 hj2)
   rw[de,de,de]
   have put:∀b:Bool,b=(sB x j&&sB y j)->∃wx,(Instr.storeAt bv (.pointer (some ⟨k10,8+j,none⟩)) (.bool b)).run prog u=.ok () wx/\∃m':Nat,m'<2-j/\∃j2:Nat,i64.wrap ((j:Int)+1)=(j2:Int)/\j2 <=2/\m'=2-j2/\Sp wy [ptA k10 ao ((stS x y oh op j2).cells XH XP)] wx:=λb hb=>by
     obtain⟨wx,q,S2,_⟩:=S1.put (P:=prog) kW 0 rfl (i:=8+j) (v:=.bool b) rfl rfl (show 8+j<13 by omega)
     refine⟨wx,q,2-(j+1),by omega,j+1,by rw[ar (by omega) (by omega)];omega,hj2,rfl,?_⟩
     have e:=HC x y oh op XH XP hj2
     rw[<- hb]at e
     rw[<- e];exact S2
   refine⟨rfl,⟨⟨by omega,by omega⟩,rfl⟩,_,l1,ah.of (λhb=>?_) (λhb=>?_)⟩
   · obtain⟨wx,q,r⟩:=put (sB y j) (by rw[hb];rfl)
     exact⟨rfl,⟨⟨by omega,by omega⟩,rfl⟩,_,l2,rfl,⟨⟨by omega,by omega⟩,rfl⟩,wx,q,r⟩
   · obtain⟨wx,q,r⟩:=put false (by rw[hb];rfl)
     exact⟨rfl,⟨⟨by omega,by omega⟩,rfl⟩,wx,q,r⟩
 have:j=2:=by omega
 subst this
 refine⟨λmm i u=>∃j:Nat,i=(j:Int)/\j <=3/\mm=3-j/\Sp wy [ptA k10 ao ((stC x y oh op j).cells XH XP)] u,⟨_,0,rfl,by omega,rfl,S1⟩,?_⟩
 clear S1
 intro mm i
 refine aL.of ?_ _
 rintro u ⟨j,rfl,hj,rfl,S1⟩
 refine ah.of (λh1=>?_) (λh1=>?_) <;> simp only[dTx,dFx]at h1
 · have hj2:j<3:=by omega
   have l1:=(A2y.below S1.bw).load1 (P:=prog) dl rfl (tM x X1 X2 hj2)
   have l2:=(A3y.below S1.bw).load1 (P:=prog) dl rfl (tM y Y1 Y2 hj2)
   rw[de,de,de]
   have put:∀b:Bool,b=(cB x j&&cB y j)->∃wx,(Instr.storeAt bv (.pointer (some ⟨k10,10+j,none⟩)) (.bool b)).run prog u=.ok () wx/\∃m':Nat,m'<3-j/\∃j2:Nat,i64.wrap ((j:Int)+1)=(j2:Int)/\j2 <=3/\m'=3-j2/\Sp wy [ptA k10 ao ((stC x y oh op j2).cells XH XP)] wx:=λb hb=>by
     obtain⟨wx,q,S2,_⟩:=S1.put (P:=prog) kW 0 rfl (i:=10+j) (v:=.bool b) rfl rfl (show 10+j<13 by omega)
     refine⟨wx,q,3-(j+1),by omega,j+1,by rw[ar (by omega) (by omega)];omega,hj2,rfl,?_⟩
     have e:=HB x y oh op XH XP hj2
     rw[<- hb]at e
     rw[<- e];exact S2
   refine⟨rfl,⟨⟨by omega,by omega⟩,rfl⟩,_,l1,ah.of (λhb=>?_) (λhb=>?_)⟩
   · obtain⟨wx,q,r⟩:=put (cB y j) (by rw[hb];rfl)
     exact⟨rfl,⟨⟨by omega,by omega⟩,rfl⟩,_,l2,rfl,⟨⟨by omega,by omega⟩,rfl⟩,wx,q,r⟩
   · obtain⟨wx,q,r⟩:=put false (by rw[hb];rfl)
     exact⟨rfl,⟨⟨by omega,by omega⟩,rfl⟩,wx,q,r⟩
 have:j=3:=by omega
 subst this
 have v3:ai u k10 ao ((sM x y oh op).cells XH XP):=S1.at 0 rfl
 refine⟨_,bo.load0 v3 rfl,?_⟩
 intro k69 w69 hk69 hw69
 have b69:=(hw69▸af u _:bW u w69)
 have SL:Sl bY w69 jD (some ⟨k69,0,none⟩) 2 2 [eh,ep]:=(Ow.newF (T:=bY) (A:=NoB) (t:=dI) (l:=[vI eh,vI ep]) (xs:=[eh,ep]) dF hk69 hw69 ((gr.one (cS (n:=eh))).append (gr.one (cS (n:=ep)))) (show 2 <=maxLen by decide)).all
 refine aw (Fz SL (sM x y oh op) XH XP) ?_
 rintro _ w70 ⟨b70,rfl⟩
 have byu:=ab S1.bw (ab b69 b70 b69.size) S1.bw.size
 have b4z:=ab b4y byu b4y.size
 have Bf:=ab B4 b4z B4.size
 have A4z:=A4y.below byu
 have s4:=b4z.size
 have l4:=A4.lt
 by_cases hok:qA x y=true
 · have h2:=hok
   unfold qA at h2
   rw[Bool.and_eq_true]at h2
   rcases hc1 with⟨_,rfl,M1⟩|⟨hf,_⟩
   · rcases hc2 with⟨_,rfl,M2⟩|⟨hf,_⟩
     · rw[if_pos (show io 0 0=0 from rfl)]
       obtain⟨wq,r3,u3,h3⟩:=bo.store0 (P:=prog) (cs:=(sM x y oh op).cells XH XP) rfl (Rgn.one _ _ _) A4z rfl
       refine⟨_,_,rfl,wq,r3,_,ai.res (bo.load0 u3 rfl),Below.put Bf h3 o4,?_⟩
       rw[if_pos hok]
       refine⟨oh,op,XH,XP,M1,M2,rfl,?_,?_⟩
       · rw[hXH];exact((O1.below byu).put h3 l4).das
       · rw[hXP];exact((O2.below byu).put h3 (by have:=b4x.size;omega)).das
     · rw[hf]at h2;exact absurd h2.2 (by decide)
   · rw[hf]at h2;exact absurd h2.1 (by decide)
 · have e: ¬ io eh ep=0:=by
     unfold qA at hok
     rcases hc1 with⟨h1,rfl,_⟩|⟨h1,rfl⟩
     · rcases hc2 with⟨h2,rfl,_⟩|⟨h2,rfl⟩
       · rw[h1,h2]at hok;exact absurd rfl hok
       · decide
     · unfold io;rw[if_pos (by decide)];decide
   have e2:io eh ep=151:=by
     rcases hc1 with⟨h1,rfl,_⟩|⟨h1,rfl⟩
     · rcases hc2 with⟨h2,rfl,_⟩|⟨h2,rfl⟩
       · exact absurd rfl e
       · rfl
     · unfold io;rw[if_pos (by decide)]
   rw[if_neg e,e2]
   obtain⟨wq,r3,u3,h3⟩:=bo.store0 (P:=prog) (cs:=rg0.cells rp0 rp0) rfl (Rgn.one _ _ _) A4z rfl
   refine⟨_,_,rfl,wq,r3,_,ai.res (bo.load0 u3 rfl),Below.put Bf h3 o4,?_⟩
   rw[if_neg hok];rfl
theorem pK (a b:Value){w K}(h:nA w (.cells (Value.cells a) ao) λc d=>nA d (.cells (Value.cells b) ao) λe f=>uB gy #[] f λg i=>ah (!g) (K (.bool false) i) (true/\∃j k l m n o p q,Ld ae (vA c 0) i (.agg #[vI j,vI k,.slice l m n,.slice o p q])/\true/\∃r s t u v x y z,Ld ae (vA c 4) i (.agg #[vI r,vI s,.slice t u v,.slice x y z])/\true/\∃A B C D E F G H,Ld ae (vA e 0) i (.agg #[vI A,vI B,.slice C D E,.slice F G H])/\true/\∃I J L M N O P Q,Ld ae (vA e 4) i (.agg #[vI I,vI J,.slice L M N,.slice O P Q])/\∃R:Nat->FP [.one (.int .i64)],(∃S,R S (0:Int) i)/\∀S T,aL 15 (∀U,R S T U->ah (decide (T<(4:Int))) (∃V X Y Z aa ac ad ag,(Instr.index oH (.agg #[vI j,vI k,.slice l m n,.slice o p q,vI r,vI s,.slice t u v,.slice x y z,vI A,vI B,.slice C D E,.slice F G H,vI I,vI J,.slice L M N,.slice O P Q]) (vI T)).run prog U=.ok (.agg #[vI V,vI X,.slice Y Z aa,.slice ac ad ag]) U/\nA U (.cells #[vI 0,vI 0,.slice none 0 0,.slice none 0 0] ae) λal an=>∃ba,Sv ae (vA al 0) (.agg #[vI V,vI X,.slice Y Z aa,.slice ac ad ag]) an ba/\true/\∃bb bc bd,Ld aH (vA al 3) ba (.slice bb bc bd)/\ah (decide (((bc:Nat):Int)>(8:Int))) (K (.bool true) ba) (true/\∃bj bk bl,Ld aj (vA al 2) ba (.slice bj bk bl)/\ah (decide (((bk:Nat):Int)>(60:Int))) (K (.bool true) ba) (∃bn:Nat,bn<S/\R bn (i64.wrap (T+(1:Int))) ba))) (∃V,Ld ao (vA c 0) U V/\∃X,Ld ao (vA e 0) U X/\Cf lZ #[V,X] U λY Z=>∃aa ac,Y=rT #[aa,vI ac]/\nA Z (.cells dx ao) λad ag=>∃al,Sv ao (vA ad 0) aa ag al/\true/\∃an ba bb bc bd bj bk bl,Ld ae (vA c 0) al (.agg #[vI an,vI ba,.slice bb bc bd,.slice bj bk bl])/\true/\∃bn bq bu bw bz ca cc ch,Ld ae (vA e 0) al (.agg #[vI bn,vI bq,.slice bu bw bz,.slice ca cc ch])/\true/\∃cl cm cn cp cs cx da db,Ld ae (vA c 4) al (.agg #[vI cl,vI cm,.slice cn cp cs,.slice cx da db])/\true/\∃dc dd dg ds ea eb ec ef,Ld ae (vA e 4) al (.agg #[vI dc,vI dd,.slice dg ds ea,.slice eb ec ef])/\∃eg:Nat->FP [.one (.int .i64)],(∃eh,eg eh (0:Int) al)/\∀eh ei,aL 30 (∀ej,eg eh ei ej->ah (decide (ei<(2:Int))) (∃ek el em en eo ep er es et ev ew ex ez fa fb fd,(Instr.index jJ (.agg #[vI an,vI ba,.slice bb bc bd,.slice bj bk bl,vI bn,vI bq,.slice bu bw bz,.slice ca cc ch,vI cl,vI cm,.slice cn cp cs,.slice cx da db,vI dc,vI dd,.slice dg ds ea,.slice eb ec ef]) (vI ei)).run prog ej=.ok (.agg #[vI ek,vI el,.slice em en eo,.slice ep er es,vI et,vI ev,.slice ew ex ez,.slice fa fb fd]) ej/\nA ej (.cells #[vI 0,vI 0,.slice none 0 0,.slice none 0 0,vI 0,vI 0,.slice none 0 0,.slice none 0 0] gh) λfh fl=>∃fn,Sv gh (vA fh 0) (.agg #[vI ek,vI el,.slice em en eo,.slice ep er es,vI et,vI ev,.slice ew ex ez,.slice fa fb fd]) fl fn/\∃fo:FP [.one .bool],((bx (0:Int) ((2:Nat):Int)/\true)/\∃fp fr fs ft fw fx fy ga,Ld ae (ak (vA fh 0) (0:Int) 4) fn (.agg #[vI fp,vI fr,.slice fs ft fw,.slice fx fy ga])/\uB fK #[.agg #[vI fp,vI fr,.slice fs ft fw,.slice fx fy ga]] fn λgb gd=>ah (!gb) (fo true gd) ((bx (1:Int) ((2:Nat):Int)/\true)/\∃gf gl gm gn go gs gx ha,Ld ae (ak (vA fh 0) (1:Int) 4) gd (.agg #[vI gf,vI gl,.slice gm gn go,.slice gs gx ha])/\uB fK #[.agg #[vI gf,vI gl,.slice gm gn go,.slice gs gx ha]] gd λhb hc=>ah (!hb) (fo true hc) ((bx (0:Int) ((2:Nat):Int)/\true)/\(isSome (ak (vA fh 0) (0:Int) 4))/\∃hd,Ld aq (Option.map (λhe=>he.add 0) (ak (vA fh 0) (0:Int) 4)) hc (vI hd)/\(bx (1:Int) ((2:Nat):Int)/\true)/\(isSome (ak (vA fh 0) (1:Int) 4))/\∃he,Ld aq (Option.map (λhf=>hf.add 0) (ak (vA fh 0) (1:Int) 4)) hc (vI he)/\fo (hd !=he) hc)))/\∀fp,aL 18 (∀fr,fo fp fr->ah fp (ah (ac==(151:Int)) (∃fs,Ld ao (vA ad 0) fr fs/\uB m5 #[fs] fr λft fw=>K (.bool ft) fw) (K (.bool false) fr)) (∃fs:Nat,fs<eh/\eg fs (i64.wrap (ei+(1:Int))) fr))) (∃ek:FP [],(ah (ac !=(0:Int)) (K (.bool false) ej) (true/\∃el em en eo ep er es et,Ld ae (vA ad 0) ej (.agg #[vI el,vI em,.slice en eo ep,.slice er es et])/\uB fK #[.agg #[vI el,vI em,.slice en eo ep,.slice er es et]] ej λev ew=>ah (!ev) (K (.bool false) ew) (true/\∃ex ez fa fb fd fh fl fn,Ld ae (vA ad 4) ew (.agg #[vI ex,vI ez,.slice fa fb fd,.slice fh fl fn])/\uB fK #[.agg #[vI ex,vI ez,.slice fa fb fd,.slice fh fl fn]] ew λfo fp=>ah (!fo) (K (.bool false) fp) (true/\true/\∃fr,Ld aq (vA ad 0) fp (vI fr)/\true/\true/\∃fs,Ld aq (vA c 0) fp (vI fs)/\ah (fr !=fs) (K (.bool false) fp) (true/\true/\∃ft,Ld aq (vA ad 4) fp (vI ft)/\true/\true/\∃fw,Ld aq (vA c 4) fp (vI fw)/\ah (ft !=fw) (K (.bool false) fp) (ek fp))))))/\aL 33 (∀el,ek el->∃em:Nat->FP [.one (.int .i64)],(∃en,em en (0:Int) el)/\∀en eo,aL 20 (∀ep,em en eo ep->ah (decide (eo<(2:Int))) (true/\(bx eo ((2:Nat):Int)/\true)/\∃er,(∀es,bW ep es->Ld bv (ak (vA ad 8) eo 1) es (.bool er))/\true/\(bx eo ((2:Nat):Int)/\true)/\∃es,(∀et,bW ep et->Ld bv (ak (vA c 8) eo 1) et (.bool es))/\ah es (true/\(bx eo ((2:Nat):Int)/\true)/\∃et,(∀ev,bW ep ev->Ld bv (ak (vA e 8) eo 1) ev (.bool et))/\∀ev,bW ep ev->ah (!(er==et)) (K (.bool false) ev) (∃ew:Nat,ew<en/\em ew (i64.wrap (eo+(1:Int))) ev)) (∀et,bW ep et->ah (!(er==false)) (K (.bool false) et) (∃ev:Nat,ev<en/\em ev (i64.wrap (eo+(1:Int))) et))) (∃er:Nat->FP [.one (.int .i64)],(∃es,er es (0:Int) ep)/\∀es et,aL 20 (∀ev,er es et ev->ah (decide (et<(3:Int))) (true/\(bx et ((3:Nat):Int)/\true)/\∃ew,(∀ex,bW ev ex->Ld bv (ak (vA ad 10) et 1) ex (.bool ew))/\true/\(bx et ((3:Nat):Int)/\true)/\∃ex,(∀ez,bW ev ez->Ld bv (ak (vA c 10) et 1) ez (.bool ex))/\ah ex (true/\(bx et ((3:Nat):Int)/\true)/\∃ez,(∀fa,bW ev fa->Ld bv (ak (vA e 10) et 1) fa (.bool ez))/\∀fa,bW ev fa->ah (!(ew==ez)) (K (.bool false) fa) (∃fb:Nat,fb<es/\er fb (i64.wrap (et+(1:Int))) fa)) (∀ez,bW ev ez->ah (!(ew==false)) (K (.bool false) ez) (∃fa:Nat,fa<es/\er fa (i64.wrap (et+(1:Int))) ez))) (K (.bool true) ev))))))))))):Cf lr #[a,b] w (Ret K):=ru func7 [(14,[(24,.one (.int .i64))]),(39,[(55,.one (.int .i64))]),(50,[(76,.one .bool)]),(58,[]),(70,[(116,.one (.int .i64))]),(93,[(135,.one (.int .i64))])] h
theorem xJ.ok {a b o:DA}(h:xJ a b o):o.Ok/\o.k=a.k:=by
 obtain⟨p,ps,hI,hT⟩:=h
 exact⟨hT.ok,hT.k.trans hI.k⟩
theorem xJ.lang {a b o:DA}(h:xJ a b o)(hk:a.k=b.k)(w:List Nat):o.Lang o.s w ↔ a.Lang a.s w/\b.Lang b.s w:=by
 obtain⟨p,ps,hI,hT⟩:=h
 rw[hT.lang,hI.lang]
 have hK:a.K=b.K:=by unfold DA.K;rw[hk]
 unfold DA.Lang
 rw[Bool.and_eq_true,<- hK]
 exact⟨λ⟨h1,h2,h3⟩=>⟨⟨h1,h2⟩,h1,h3⟩,λ⟨⟨h1,h2⟩,_,h3⟩=>⟨h1,h2,h3⟩⟩
theorem Ko:Whl prog gh 8:=⟨⟨_,_,vu⟩,by kernel_rfl⟩
theorem Ll (k:Nat):ak (some ⟨k,0,none⟩) (0:Int) 4=some ⟨k,0,none⟩:=rfl
theorem Lm (k:Nat):ak (some ⟨k,0,none⟩) (1:Int) 4=some ⟨k,4,none⟩:=rfl
def Bg (d:DA):Prop:=d.nx.length <=60/\d.ac.length <=8
def G7 (x y:Rgn)(j:Nat):DA:=if j=0 then x.h else if j=1 then x.p else if j=2 then y.h else y.p
def kp (x:Rgn)(j:Nat):DA:=if j=0 then x.h else x.p
theorem xf (x y:Rgn):qA x y=true ↔ ∀j<2,dz (kp x j) (kp y j)=true:=by
 unfold qA
 rw[Bool.and_eq_true]
 constructor
 · rintro⟨h1,h2⟩ j hj
   match j,hj with
   | 0,_=>exact h1
   | 1,_=>exact h2
   | j+2,hj=>omega
 · intro h
   exact⟨h 0 (by decide),h 1 (by decide)⟩
set_option maxHeartbeats 1000000 in
theorem zh {w:World}(he:Env w){x y:Rgn}{X1 X2 Y1 Y2:Rgp}(hx:RgS w x X1 X2)(hy:RgS w y Y1 Y2):
   Cf lr #[x.v X1 X2,y.v Y1 Y2] w (Ret λv w'=>v=.bool true/\bW w w'):=by
 apply pK
 intro k2 w2 hk2 hw2 k3 w3 hk3 hw3
 have b2:=(hw2▸af w _:bW w w2)
 have b3:=(hw3▸af w2 _:bW w2 w3)
 have A2:ai w3 k2 ao (x.cells X1 X2):=(ai.new hk2 hw2:ai w2 k2 ao (x.cells X1 X2)).below b3
 have A3:ai w3 k3 ao (y.cells Y1 Y2):=ai.new hk3 hw3
 have B3:bW w w3:=ab b2 b3 b2.size
 have s2:=b2.size
 refine aw (wg (he.step B3)) ?_
 rintro _ w13 ⟨rfl,b13⟩
 have B13:=ab B3 b13 B3.size
 have A2:=A2.below b13
 have A3:=A3.below b13
 have hx:=hx.below B13
 have hy:=hy.below B13
 refine⟨_,rfl,ah.no rfl ?_⟩
 refine⟨rfl,_,_,X1.a,X1.n,X1.c,X1.b,X1.m,X1.e,kD A2,rfl,_,_,X2.a,X2.n,X2.c,X2.b,X2.m,X2.e,kE A2,rfl,_,_,Y1.a,Y1.n,Y1.c,Y1.b,Y1.m,Y1.e,kD A3,rfl,_,_,Y2.a,Y2.n,Y2.c,Y2.b,Y2.m,Y2.e,kE A3,?_⟩
 refine⟨λm i u=>∃j:Nat,i=(j:Int)/\j <=4/\m=4-j/\(∀t<j,Bg (G7 x y t))/\bW w13 u,⟨_,0,rfl,by omega,rfl,λt ht=>by omega,Below.refl _ _⟩,?_⟩
 intro m i
 refine aL.of ?_ _
 rintro u ⟨j,rfl,hj,rfl,hall,bu⟩
 refine ah.of (λh1=>?_) (λh1=>?_) <;> simp only[dTx,dFx]at h1
 · have hj4:j<4:=by omega
   have got:∃(a:Option Addr) (n c:Nat) (b:Option Addr) (m e:Nat),DaS w13 a n c b m e (G7 x y j)/\
       (Instr.index oH (.agg #[vI x.h.k,vI x.h.st,.slice X1.a X1.n X1.c,.slice X1.b X1.m X1.e,vI x.p.k,vI x.p.st,.slice X2.a X2.n X2.c,.slice X2.b X2.m X2.e,vI y.h.k,vI y.h.st,.slice Y1.a Y1.n Y1.c,.slice Y1.b Y1.m Y1.e,vI y.p.k,vI y.p.st,.slice Y2.a Y2.n Y2.c,.slice Y2.b Y2.m Y2.e]) (vI (j:Int))).run prog u=.ok (daV a n c b m e (G7 x y j)) u:=by
     clear hall h1 hj
     match j,hj4 with
     | 0,_=>exact⟨X1.a,X1.n,X1.c,X1.b,X1.m,X1.e,hx.h,by kernel_rfl⟩
     | 1,_=>exact⟨X2.a,X2.n,X2.c,X2.b,X2.m,X2.e,hx.p,by kernel_rfl⟩
     | 2,_=>exact⟨Y1.a,Y1.n,Y1.c,Y1.b,Y1.m,Y1.e,hy.h,by kernel_rfl⟩
     | 3,_=>exact⟨Y2.a,Y2.n,Y2.c,Y2.b,Y2.m,Y2.e,hy.p,by kernel_rfl⟩
     | j+4,hj=>omega
   obtain⟨a,n,c,b,m,e,hd,hrun⟩:=got
   refine⟨_,_,a,n,c,b,m,e,hrun,λk6 w6 hk6 hw6=>?_⟩
   have b6:=(hw6▸af u _:bW u w6)
   obtain⟨wx,q1,v6,g1⟩:=bh.store0 (P:=prog) (cs:=daL a n c b m e (G7 x y j)) rfl (dt _ _ _ _ _ _ _) (ai.new hk6 hw6:ai w6 k6 ae [vI 0,vI 0,.slice none 0 0,.slice none 0 0]) rfl
   have bx:=ab bu (Below.put b6 g1 (by omega)) bu.size
   have Bx:=ab B13 bx B13.size
   refine⟨wx,q1,rfl,b,m,e,v6.load1 aS rfl (i:=3) rfl,ah.of (λh2=>⟨rfl,Bx⟩) (λh2=>?_)⟩
   refine⟨rfl,a,n,c,v6.load1 aA rfl (i:=2) rfl,ah.of (λh3=>⟨rfl,Bx⟩) (λh3=>?_)⟩
   simp only[gt_iff_lt,dFx]at h2 h3
   refine⟨4-(j+1),by omega,j+1,by rw[ar (by omega) (by omega)];omega,by omega,rfl,λt ht=>?_,bx⟩
   by_cases e:t=j
   · subst e
     exact⟨by have:=hd.nx.len;omega,by have:=hd.ac.len;omega⟩
   · exact hall t (by omega)
 have:j=4:=by omega
 subst this
 have Bu:=ab B13 bu B13.size
 have A2:=A2.below bu
 have A3:=A3.below bu
 have hx:=hx.below bu
 have hy:=hy.below bu
 have f0:Bg x.h:=hall 0 (by decide)
 have f1:Bg x.p:=hall 1 (by decide)
 have f2:Bg y.h:=hall 2 (by decide)
 have f3:Bg y.p:=hall 3 (by decide)
 have few:∀{a b:DA},Bg a->Bg b->a.Ok->b.Ok->a.k=b.k->Few a b:=λfa fb oa ob hk=>Be oa ob hk (by
   have:_ <=8:=fa.2
   have:_ <=8:=fb.2
   exact Nat.le_trans (Nat.mul_le_mul fa.2 fb.2) (by decide))
 refine⟨_,bo.load0 A2 rfl,_,bo.load0 A3 rfl,?_⟩
 refine aw (Ij hx hy (few f0 f2) (few f1 f3)) ?_
 rintro v w41 ⟨b41,hv⟩
 have B41:=ab Bu b41 Bu.size
 have A2:=A2.below b41
 have A3:=A3.below b41
 have hx:=hx.below b41
 have hy:=hy.below b41
 obtain⟨z,Z1,Z2,er,rfl,hz,hzz⟩:∃(z:Rgn) (Z1 Z2:Rgp) (er:Int),v=.tuple #[z.v Z1 Z2,vI er]/\RgS w41 z Z1 Z2/\(qA x y=true/\er=0/\(∃h p,xJ x.h y.h h/\xJ x.p y.p p/\z=sM x y h p)\/qA x y=false/\er=151/\z=rg0/\Z1=rp0/\Z2=rp0):=by
   by_cases h:qA x y=true
   · rw[if_pos h]at hv
     obtain⟨hh,p,X,Y,m1,m2,e,hS⟩:=hv
     exact⟨_,X,Y,0,e,hS,.inl ⟨h,rfl,hh,p,m1,m2,rfl⟩⟩
   · rw[if_neg h]at hv
     exact⟨_,_,_,151,hv,RgS.zero _,.inr ⟨by simpa using h,rfl,rfl,rfl,rfl⟩⟩
 refine⟨_,er,rfl,?_⟩
 intro k7 w7 hk7 hw7
 have b7:=(hw7▸af w41 _:bW w41 w7)
 obtain⟨wx,q1,v7,g1⟩:=bo.store0 (P:=prog) (cs:=z.cells Z1 Z2) rfl (Rgn.one _ _ _) (ai.new hk7 hw7:ai w7 k7 ao (rg0.cells rp0 rp0)) rfl
 have bx:bW w41 wx:=Below.put b7 g1 (by omega)
 have Bx:=ab B41 bx B41.size
 have A2:=A2.below bx
 have A3:=A3.below bx
 have hx:=hx.below bx
 have hy:=hy.below bx
 have hz:=hz.below bx
 refine⟨wx,q1,?_⟩
 clear q1 g1 b7 hk7 hw7
 refine⟨rfl,_,_,X1.a,X1.n,X1.c,X1.b,X1.m,X1.e,kD A2,rfl,_,_,Y1.a,Y1.n,Y1.c,Y1.b,Y1.m,Y1.e,kD A3,rfl,_,_,X2.a,X2.n,X2.c,X2.b,X2.m,X2.e,kE A2,rfl,_,_,Y2.a,Y2.n,Y2.c,Y2.b,Y2.m,Y2.e,kE A3,?_⟩
 refine⟨λm i u=>∃j:Nat,i=(j:Int)/\j <=2/\m=2-j/\(∀t<j,dz (kp x t) (kp y t)=true)/\bW wx u,⟨_,0,rfl,by omega,rfl,λt ht=>by omega,Below.refl _ _⟩,?_⟩
 intro m i
 refine aL.of ?_ _
 rintro u ⟨j,rfl,hj,rfl,hall2,bu⟩
 refine ah.of (λh1=>?_) (λh1=>?_) <;> simp only[dTx,dFx]at h1
 · have hj2:j<2:=by omega
   have got:∃(a:Option Addr) (n c:Nat) (b:Option Addr) (m e:Nat) (a':Option Addr) (n' c':Nat) (b':Option Addr) (m' e':Nat),DaS wx a n c b m e (kp x j)/\DaS wx a' n' c' b' m' e' (kp y j)/\
       (Instr.index jJ (.agg #[vI x.h.k,vI x.h.st,.slice X1.a X1.n X1.c,.slice X1.b X1.m X1.e,vI y.h.k,vI y.h.st,.slice Y1.a Y1.n Y1.c,.slice Y1.b Y1.m Y1.e,vI x.p.k,vI x.p.st,.slice X2.a X2.n X2.c,.slice X2.b X2.m X2.e,vI y.p.k,vI y.p.st,.slice Y2.a Y2.n Y2.c,.slice Y2.b Y2.m Y2.e]) (vI (j:Int))).run prog u=.ok (.agg #[vI (kp x j).k,vI (kp x j).st,.slice a n c,.slice b m e,vI (kp y j).k,vI (kp y j).st,.slice a' n' c',.slice b' m' e']) u:=by
     clear hall2 h1 hj
     match j,hj2 with
     | 0,_=>exact⟨X1.a,X1.n,X1.c,X1.b,X1.m,X1.e,Y1.a,Y1.n,Y1.c,Y1.b,Y1.m,Y1.e,hx.h,hy.h,by kernel_rfl⟩
     | 1,_=>exact⟨X2.a,X2.n,X2.c,X2.b,X2.m,X2.e,Y2.a,Y2.n,Y2.c,Y2.b,Y2.m,Y2.e,hx.p,hy.p,by kernel_rfl⟩
     | j+2,hj=>omega
   obtain⟨a,n,c,b,m,e,a',n',c',b',m',e',hd,hd',hrun⟩:=got
   refine⟨_,_,a,n,c,b,m,e,_,_,a',n',c',b',m',e',hrun,λk10 w10 hk10 hw10=>?_⟩
   have b10:=(hw10▸af u _:bW u w10)
   obtain⟨wy,q2,v10,g2⟩:=Ko.store0 (P:=prog) (cs:=daL a n c b m e (kp x j)++daL a' n' c' b' m' e' (kp y j)) rfl (uF (dt _ _ _ _ _ _ _) (dt _ _ _ _ _ _ _)) (ai.new hk10 hw10:ai w10 k10 gh [vI 0,vI 0,.slice none 0 0,.slice none 0 0,vI 0,vI 0,.slice none 0 0,.slice none 0 0]) rfl
   have byy:=ab bu (Below.put b10 g2 (by omega)) bu.size
   refine⟨wy,q2,λbb W=>bW wx W/\bb= !dz (kp x j) (kp y j),?_,?_⟩
   · rw[Ll,Lm]
     refine⟨⟨⟨by omega,by omega⟩,rfl⟩,_,_,a,n,c,b,m,e,bh.load v10 (i:=0) (us:=daL a n c b m e (kp x j)) rfl (λt ht=>by
       match t,ht with
       | 0,_=>rfl
       | 1,_=>rfl
       | 2,_=>rfl
       | 3,_=>rfl
       | t+4,ht=>omega),?_⟩
     refine aw (iQ (hd.below byy)) ?_
     rintro _ w60 ⟨rfl,b60⟩
     have B60:=ab byy b60 byy.size
     refine⟨_,rfl,ah.of (λh2=>⟨B60,?_⟩) (λh2=>?_)⟩
     · unfold dz
       rw[show okD (kp x j)=false by simpa using h2];rfl
     have h2:okD (kp x j)=true:=by simpa using h2
     have v60:=v10.below b60
     refine⟨⟨⟨by omega,by omega⟩,rfl⟩,_,_,a',n',c',b',m',e',bh.load v60 (i:=4) (us:=daL a' n' c' b' m' e' (kp y j)) rfl (λt ht=>by
       match t,ht with
       | 0,_=>rfl
       | 1,_=>rfl
       | 2,_=>rfl
       | 3,_=>rfl
       | t+4,ht=>omega),?_⟩
     refine aw (iQ (hd'.below B60)) ?_
     rintro _ w65 ⟨rfl,b65⟩
     have B65:=ab B60 b65 B60.size
     refine⟨_,rfl,ah.of (λh3=>⟨B65,?_⟩) (λh3=>?_)⟩
     · unfold dz
       rw[show okD (kp y j)=false by simpa using h3,h2];rfl
     have h3:okD (kp y j)=true:=by simpa using h3
     have v65:=v60.below b65
     refine⟨⟨⟨by omega,by omega⟩,rfl⟩,rfl,_,v65.load1 aC rfl (i:=0) rfl,⟨⟨by omega,by omega⟩,rfl⟩,rfl,_,v65.load1 aC rfl (i:=4) rfl,B65,?_⟩
     unfold dz
     rw[h2,h3];rfl
   · intro bb
     refine aL.of ?_ _
     rintro W ⟨bWx,rfl⟩
     have BW:=ab Bx bWx Bx.size
     refine ah.of (λh2=>?_) (λh2=>?_)
     · rcases hzz with⟨h,_⟩|⟨_,rfl,rfl,rfl,rfl⟩
       · rw[(xf x y).1 h j hj2]at h2;cases h2
       · refine ah.yes rfl ⟨_,bo.load0 (v7.below bWx) rfl,?_⟩
         refine aw (yy W) ?_
         rintro _ w81 ⟨rfl,b81⟩
         exact⟨_,rfl,rfl,ab BW b81 BW.size⟩
     · have h2:dz (kp x j) (kp y j)=true:=by simpa using h2
       refine⟨2-(j+1),by omega,j+1,by rw[ar (by omega) (by omega)];omega,hj2,rfl,λt ht=>?_,bWx⟩
       by_cases e:t=j
       · rw[e];exact h2
       · exact hall2 t (by omega)
 have:j=2:=by omega
 subst this
 have hok:=(xf x y).2 hall2
 rcases hzz with⟨_,rfl,hh,pp,M1,M2,rfl⟩|⟨h,_⟩
 rotate_left
 · rw[hok]at h;cases h
 have Bu:=ab Bx bu Bx.size
 have A2:=A2.below bu
 have A3:=A3.below bu
 have A7:=v7.below bu
 have hz:=hz.below bu
 clear v7
 refine⟨λW=>bW u W,ah.no rfl ⟨rfl,_,_,Z1.a,Z1.n,Z1.c,Z1.b,Z1.m,Z1.e,kD A7,?_⟩,aL.of ?_ _⟩
 · refine aw (iQ hz.h) ?_
   rintro _ w89 ⟨rfl,b89⟩
   refine⟨_,rfl,ah.no (by rw[show okD (sM x y hh pp).h=true from eY.2 M1.ok.1];rfl) ?_⟩
   have A7:=A7.below b89
   refine⟨rfl,_,_,Z2.a,Z2.n,Z2.c,Z2.b,Z2.m,Z2.e,kE A7,?_⟩
   refine aw (iQ (hz.below b89).p) ?_
   rintro _ w95 ⟨rfl,b95⟩
   have b95u:=ab b89 b95 b89.size
   have A7:=A7.below b95
   have A2:=A2.below b95u
   refine⟨_,rfl,ah.no (by rw[show okD (sM x y hh pp).p=true from eY.2 M2.ok.1];rfl) ⟨rfl,rfl,_,A7.load1 aC rfl (i:=0) rfl,rfl,rfl,_,A2.load1 aC rfl (i:=0) rfl,ah.no (by rw[show(sM x y hh pp).h.k=x.h.k from M1.ok.2];exact bne_self_eq_false _) ?_⟩⟩
   exact⟨rfl,rfl,_,A7.load1 aC rfl (i:=4) rfl,rfl,rfl,_,A2.load1 aC rfl (i:=4) rfl,ah.no (by rw[show(sM x y hh pp).p.k=x.p.k from M2.ok.2];exact bne_self_eq_false _) b95u⟩
 intro W bWx
 have BW:=ab Bu bWx Bu.size
 have A2:=A2.below bWx
 have A3:=A3.below bWx
 have A7:=A7.below bWx
 refine⟨λm i V=>∃j:Nat,i=(j:Int)/\j <=2/\m=2-j/\bW W V,⟨_,0,rfl,by omega,rfl,Below.refl _ _⟩,?_⟩
 intro m i
 refine aL.of ?_ _
 rintro V ⟨j,rfl,hj,rfl,bV⟩
 have A2:=A2.below bV
 have A3:=A3.below bV
 have A7:=A7.below bV
 have BV:=ab BW bV BW.size
 refine ah.of (λh1=>?_) (λh1=>?_) <;> simp only[dTx,dFx]at h1
 · have hj2:j<2:=by omega
   rw[de,de,de]
   have e:sB (sM x y hh pp) j=(sB x j&&sB y j):=by
     match j,hj2 with
     | 0,_=>rfl
     | 1,_=>rfl
     | j+2,hj=>omega
   have nxt:∀wq:World,bW V wq->∃m':Nat,m'<2-j/\∃j2:Nat,i64.wrap ((j:Int)+1)=(j2:Int)/\j2 <=2/\m'=2-j2/\bW W wq:=λwq hq=>
     ⟨2-(j+1),by omega,j+1,by rw[ar (by omega) (by omega)];omega,hj2,rfl,ab bV hq bV.size⟩
   refine⟨rfl,⟨⟨by omega,by omega⟩,rfl⟩,_,λr hr=>(A7.below hr).load1 dl rfl (vj _ Z1 Z2 hj2),rfl,⟨⟨by omega,by omega⟩,rfl⟩,_,λr hr=>(A2.below hr).load1 dl rfl (vj x X1 X2 hj2),ah.of (λh2=>?_) (λh2=>?_)⟩
   · refine⟨rfl,⟨⟨by omega,by omega⟩,rfl⟩,_,λr hr=>(A3.below hr).load1 dl rfl (vj y Y1 Y2 hj2),λwq hq=>ah.no ?_ (nxt wq hq)⟩
     rw[e,h2];cases sB y j <;> rfl
   · refine λwq hq=>ah.no ?_ (nxt wq hq)
     rw[e,h2];rfl
 clear h1 hj
 refine⟨λm i R=>∃j:Nat,i=(j:Int)/\j <=3/\m=3-j/\bW V R,⟨_,0,rfl,by omega,rfl,Below.refl _ _⟩,?_⟩
 intro m i
 refine aL.of ?_ _
 rintro R ⟨j,rfl,hj,rfl,bR⟩
 have A2:=A2.below bR
 have A3:=A3.below bR
 have A7:=A7.below bR
 have BR:=ab BV bR BV.size
 refine ah.of (λh1=>?_) (λh1=>⟨rfl,BR⟩) <;> simp only[dTx,dFx]at h1
 have hj2:j<3:=by omega
 rw[de,de,de]
 have e:cB (sM x y hh pp) j=(cB x j&&cB y j):=by
   match j,hj2 with
   | 0,_=>rfl
   | 1,_=>rfl
   | 2,_=>rfl
   | j+3,hj=>omega
 have nxt:∀wq:World,bW R wq->∃m':Nat,m'<3-j/\∃j2:Nat,i64.wrap ((j:Int)+1)=(j2:Int)/\j2 <=3/\m'=3-j2/\bW V wq:=λwq hq=>
   ⟨3-(j+1),by omega,j+1,by rw[ar (by omega) (by omega)];omega,hj2,rfl,ab bR hq bR.size⟩
 refine⟨rfl,⟨⟨by omega,by omega⟩,rfl⟩,_,λr hr=>(A7.below hr).load1 dl rfl (tM _ Z1 Z2 hj2),rfl,⟨⟨by omega,by omega⟩,rfl⟩,_,λr hr=>(A2.below hr).load1 dl rfl (tM x X1 X2 hj2),ah.of (λh2=>?_) (λh2=>?_)⟩
 · refine⟨rfl,⟨⟨by omega,by omega⟩,rfl⟩,_,λr hr=>(A3.below hr).load1 dl rfl (tM y Y1 Y2 hj2),λwq hq=>ah.no ?_ (nxt wq hq)⟩
   rw[e,h2];cases cB y j <;> rfl
 · refine λwq hq=>ah.no ?_ (nxt wq hq)
   rw[e,h2];rfl
section
open Go.ChangeShapes Go.WideShapes
theorem zF {H:Type}{enc:TypeId×Value->H}{P:Program}{w:World}{fuel:Nat}{t:TypeId}{fs:Array Field}{cs:List Value}{x:DataW H×List MemPlace}(ht:P.underlying t=some (.struct fs))
   (h:DataW.trod enc P w 0 (λ_=>true) true fuel t cs=some x):
   ∃n,cs.length=P.cellsOf t/\∀(i:Nat) (u:TypeId) (o k:Nat),(∃f:Field,fs[i]? =some f/\f.type=u/\f.offset=o)->P.cellsOf u=k->∃y,DataW.trod enc P w 0 (λ_=>true) true n u ((cs.drop o).take k)=some y:=by
 obtain⟨xs,n,_,_,hl,hlen,hf⟩:=DataW.trod_struct ht h
 refine⟨n,hl,?_⟩
 rintro i _ _ _ ⟨f,hi,rfl,rfl⟩ rfl
 have hlt:i<xs.length:=by rw[hlen];exact(Array.getElem?_eq_some_iff.1 hi).1
 exact⟨xs[i],by rw[hf i f hi,List.getElem?_eq_getElem hlt]⟩
theorem su {α:Type}(cs:List α)(a b:Nat):cs.drop a=(cs.drop a).take b++cs.drop (a+b):=by
 rw[<- List.drop_drop,List.take_append_drop]
theorem FX {α:Type}(cs:List α)(n:Nat)(h:cs.length=n):cs.drop n=[]:=List.drop_of_length_le (by omega)
end
theorem tR {α:Type}(p:Nat->α->Prop):∀n:Nat,(∀i,i<n->∃a,p i a)->∃xs:List α,xs.length=n/\∀i (h:i<xs.length),p i xs[i]
 | 0,_=>⟨[],rfl,λi h=>by cases h⟩
 | n+1,h=>by
   obtain⟨xs,hl,hp⟩:=tR p n λi hi=>h i (by omega)
   obtain⟨a,ha⟩:=h n (by omega)
   refine⟨xs++[a],by rw[List.length_append,hl];rfl,λi hi=>?_⟩
   by_cases c:i<xs.length
   · rw[List.getElem_append_left c];exact hp i c
   · have:i=n:=by simp at hi;omega
     subst this
     rw[List.getElem_append_right (by omega)]
     simp only[hl,Nat.sub_self,List.getElem_cons_zero]
     exact ha
theorem uG {α:Type}{P:Program}{e:α->Value}{h1:∀x,(e x).oneCell'=true}{p:α->Prop}{t te:TypeId}(ht:P.underlying t=some (.slice te))(hc:P.cellsOf te=1)(he:GH P (Ty.enc e h1 p) te)
   {H:Type} {enc:TypeId×Value->H} {w:World} {fuel:Nat} {cs:List Value} {x:DataW H×List MemPlace} (h:DataW.trod enc P w 0 (λ_=>true) true fuel t cs=some x):
   ∃(a:Option Addr) (len cap:Nat) (xs:List α),cs=[.slice a len cap]/\Sl (Ty.enc e h1 λ_=>True) w jD a len cap xs:=by
 rcases Go.Deep.open_slice1 ht hc h with⟨rfl,_⟩|⟨a,len,cap,m,n,V,D,Pl,rfl,_,hlc,hcm,hm,_,hx⟩
 · exact⟨none,0,0,[],rfl,Sl.nil _ _ _ _ _ (Nat.zero_le _)⟩
 · rw[if_pos rfl]at hm
   subst hm
   obtain⟨xs,hl,hp⟩:=tR (λi a=>V i=e a) len λi hi=>by
     obtain⟨_,h2⟩:=hx i (by omega)
     obtain⟨b,hb,_⟩:=he H enc w n _ _ h2
     exact⟨b,by injection hb⟩
   exact⟨some a,len,_,xs,rfl,K4 hl (λ_ _=>trivial) hlc hcm λi hi=>by rw[(hx i (by omega)).1,hp i hi]⟩
section
open Go.ChangeShapes Go.WideShapes
theorem z7 {H:Type}{enc:TypeId×Value->H}{w:World}{fuel:Nat}{cs:List Value}{x:DataW H×List MemPlace}(h:DataW.trod enc prog w 0 (λ_=>true) true fuel ae cs=some x):
   ∃(d:DA) (a:Option Addr) (n c:Nat) (b:Option Addr) (m e:Nat),DaS w a n c b m e d/\cs=daL a n c b m e d:=by
 obtain⟨n,hl,hf⟩:=zF Tryz.underlying27 h
 have hl':cs.length=4:=hl.trans (by kernel_rfl)
 obtain⟨y0,h0⟩:=hf 0 aq 0 1 ⟨_,rfl,rfl,rfl⟩ (by kernel_rfl)
 obtain⟨y1,h1⟩:=hf 1 aq 1 1 ⟨_,rfl,rfl,rfl⟩ (by kernel_rfl)
 obtain⟨y2,h2⟩:=hf 2 aj 2 1 ⟨_,rfl,rfl,rfl⟩ (by kernel_rfl)
 obtain⟨y3,h3⟩:=hf 3 aH 3 1 ⟨_,rfl,rfl,rfl⟩ (by kernel_rfl)
 obtain⟨x0,e0,_⟩:=uH aC H enc w n _ _ h0
 obtain⟨x1,e1,_⟩:=uH aC H enc w n _ _ h1
 obtain⟨a2,n2,c2,x2,e2,o2⟩:=uG aA (by kernel_rfl) (uH aC) h2
 obtain⟨a3,n3,c3,x3,e3,o3⟩:=uG aS (by kernel_rfl) (rD dl) h3
 refine⟨⟨x0,x1,x2,x3⟩,a2,n2,c2,a3,n3,c3,⟨o2,o3⟩,?_⟩
 have s0:=su cs 0 1
 have s1:=su cs 1 1
 have s2:=su cs 2 1
 have s3:=su cs 3 1
 rw[e0,List.drop_zero]at s0
 rw[e1]at s1
 rw[e2]at s2
 rw[e3,FX cs (3+1) hl',List.append_nil]at s3
 rw[s0,s1,s2,s3];rfl
theorem sr {H:Type}{enc:TypeId×Value->H}{w:World}{fuel:Nat}{cs:List Value}{x:DataW H×List MemPlace}(h:DataW.trod enc prog w 0 (λ_=>true) true fuel ao cs=some x):
   ∃(r:Rgn) (X Y:Rgp),RgS w r X Y/\cs=r.cells X Y:=by
 obtain⟨n,hl,hf⟩:=zF Tryz.underlying64 h
 have hl':cs.length=13:=hl.trans (by kernel_rfl)
 obtain⟨y0,h0⟩:=hf 0 ae 0 4 ⟨_,rfl,rfl,rfl⟩ (by kernel_rfl)
 obtain⟨y1,h1⟩:=hf 1 ae 4 4 ⟨_,rfl,rfl,rfl⟩ (by kernel_rfl)
 obtain⟨y2,h2⟩:=hf 2 gu 8 2 ⟨_,rfl,rfl,rfl⟩ (by kernel_rfl)
 obtain⟨y3,h3⟩:=hf 3 gv 10 3 ⟨_,rfl,rfl,rfl⟩ (by kernel_rfl)
 obtain⟨d0,a0,n0,c0,b0,m0,q0,o0,e0⟩:=z7 h0
 obtain⟨d1,a1,n1,c1,b1,m1,q1,o1,e1⟩:=z7 h1
 obtain⟨x2,z2,r2⟩:=z6 Tryz.underlying61 (rD dl) (by kernel_rfl) (by kernel_rfl) h2
 obtain⟨x3,z3,r3⟩:=z6 Tryz.underlying62 (rD dl) (by kernel_rfl) (by kernel_rfl) h3
 have e2:=dH r2
 have e3:=dH r3
 match x2,z2,x3,z3 with
 | [s0,s1],_,[t0,t1,t2],_=>
   refine⟨⟨d0,d1,s0,s1,t0,t1,t2⟩,⟨a0,n0,c0,b0,m0,q0⟩,⟨a1,n1,c1,b1,m1,q1⟩,⟨o0,o1⟩,?_⟩
   have s0:=su cs 0 4
   have s1:=su cs 4 4
   have s2:=su cs 8 2
   have s3:=su cs 10 3
   rw[e0,List.drop_zero]at s0
   rw[e1]at s1
   rw[e2]at s2
   rw[e3,FX cs (10+3) hl',List.append_nil]at s3
   rw[s0,s1,s2,s3];rfl
end
end Go.Pk
